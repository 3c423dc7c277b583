import Derived.Test.YtddlhljflggenaaGreatDoorKM3
import Derived.Test.YtddlhljflggenaaGreatDoorKNum
import Derived.Test.YtddlhljflggenaaGreatDoorProg
import Derived.KernelRfl
import Derived.Test.YtddlhljflggenaaGreatDoorAbsZ
import Derived.Test.YtddlhljflggenaaGreatDoorCT
import Derived.Test.YtddlhljflggenaaGreatDoorIT
import Derived.Test.YtddlhljflggenaaGreatDoorKY7
set_option linter.unusedSimpArgs false
set_option linter.unusedVariables false
namespace Go.Abs
open Go Go.RowKit
variable {P : Program} {B : Nat} {w : World} {G : Gh} {H : zaa}
def ReV (H H' : zaa) : Prop := H'.length = H.length ∧ ∀ i : Nat, H'[i]? = H[i]? ∨ ∃ e size n cs cs', H[i]? = some (AB.vec e size n cs) ∧ H'[i]? = some (AB.vec e size n cs') ∧ All2 WkA cs cs'
theorem ReV.refl (H : zaa) : ReV H H := ⟨rfl, fun _ => .inl rfl⟩
theorem HRel.reVecs (h : HRel B w G H) {H' : zaa} (hr : ReV H H') : HRel B w G H' := by
 refine ⟨by rw [h.len]; exact hr.1.symm, ?_, h.dist, h.fresh, h.lt, h.base⟩
 intro i ab gi h1 h2
 rcases hr.2 i with he | ⟨e, size, n, cs, cs', k1, k2, k3⟩
 ·rw [he] at h1; exact h.ok i ab gi h1 h2
 ·rw [k2] at h1
  cases h1
  have hok := h.ok i _ _ k1 h2
  cases gi with
  | blk b => exact hok.elim
  | own v s n =>
   obtain ⟨j1, j2, ⟨xs, j3, j4⟩, j5⟩ := hok
   exact ⟨j1, j2, ⟨xs, j3, ziN (vs := []) k3 j4⟩, j5⟩
  | gap => exact hok.elim
theorem ACalls.reVecs {f : FuncId} {args : List AV} {K : Kt} (h : ACalls P f args H fun r H' => ∃ H'', ReV H' H'' ∧ K r H'') : ACalls P f args H K := by
 intro B w G vs hH hv
 refine (h B w G vs hH hv).mono fun ex w' ⟨v, r, H', G', h1, h2, h3, h4, H'', h5, h6⟩ => ?_
 exact ⟨v, r, _, G', h1, h2, h3.reVecs h5, h4, h6⟩
theorem ACalls.preSc {f : FuncId} {args : List AV} {K : Kt} (h : HSc H → ACalls P f args H K) : ACalls P f args H K := fun B w G vs hH hv => h hH.sc B w G vs hH hv
end Go.Abs
namespace Go.Proofs.YtddlhljflggenaaGreatDoor
open Go Go.Abs
set_option maxRecDepth 8000
theorem zta (x : IT) : plain x.cs = some x.cs := by cases x; rfl
theorem UpO.out {H H' : zaa} {K : Kt} {r : AV} {o : Option LL} (hs : HSc H) (hp : H <+: H') (h : UpO H' H.length r o) (hK : K (upR o) H) : zfE H.length K r H' := by
 obtain ⟨J, rfl⟩ := hp
 cases o with
 | none =>
  obtain ⟨x, _, rfl⟩ := h
  exact ⟨.tup [.unk, .bool false], H, J, rfl, Nat.le_refl _, hs, .tup ⟨.two (.one (.wk (.unk _) rfl rfl)), .two (.one (.wk (.atom (.refl _)) rfl rfl)), trivial⟩, hK⟩
 | some ls =>
  obtain ⟨x, rfl, id, cs, h1, h2, h3, h4, _⟩ := h
  have := RdL.out (g := IT.cs) (⟨id, cs, h1, h2, h3, h4⟩ : RdL (H ++ J) H.length IT.cs zak 2 x ls) (fun _ _ x _ => zta x) (fun x => IT.cs_len x)
  exact ⟨.tup [lsV ls, .bool true], H, J, rfl, Nat.le_refl _, hs, .tup ⟨this, .two (.one (.wk (.atom (.refl _)) rfl rfl)), trivial⟩, hK⟩
theorem zCy {t10 t31 t32 t33 : AV} {K : Kt} {Kb6 : Lt} (H1 : zaa) (hs1 : HSc H1) (d : Nat) (st : LL) (hl : st.length = d + 1) (hd : d ≤ 1000) (k : Nat) (hk : k ≤ d) (rows : List (List IT)) (hrl : rows.length ≤ 1000) (L : List IT) (hL : st[k]? = some L) (hLl : L.length ≤ 100000)
  (h33 : t33 = .int .i64 k) (hpost : Kb6 (zgP (.ms H1.length 0 (d + 1) (d + 1)) t10 t31 t32 (.int .i64 (k + 1 : Nat))) (NI H1 (st.set k (L ++ rows.map (IT.mk 0))))) :
  zoe (.ms H1.length 0 (d + 1) (d + 1)) t10 (.int .i64 k) t31 t32 t33 (.sl (rows.map fun r => [.sl (IT.css r) .none]) .none) (.int .i64 rows.length) (.int .i64 0) (NI H1 st) K Kb6 := by
 subst h33
 have hkl : k < st.length := by omega
 refine zFB (Inv := fun q t40 H' => ∃ i : Nat, i ≤ rows.length ∧ q = rows.length - i ∧ t40 = .int .i64 i ∧ H' = NI H1 (st.set k (L ++ (rows.take i).map (IT.mk 0)))) rows.length ?_ ?_
 ·intro _
  obtain ⟨_, hLe⟩ := List.getElem?_eq_some_iff.1 hL
  exact ⟨0, by omega, by omega, rfl, by simp [← hLe]⟩
 ·rintro q t40 H' ⟨i, hi, rfl, rfl, rfl⟩ hsc hlen hsF Kb hKb
  by_cases hlt : i < rows.length
  ·have hst' : (st.set k (L ++ (rows.take i).map (IT.mk 0))).length = d + 1 := by simpa using hl
   have hget : (st.set k (L ++ (rows.take i).map (IT.mk 0)))[k]? = some (L ++ (rows.take i).map (IT.mk 0)) := List.getElem?_set_self hkl
   have hnx : (st.set k (L ++ (rows.take i).map (IT.mk 0))).set k (L ++ (rows.take i).map (IT.mk 0) ++ [IT.mk 0 rows[i]]) = st.set k (L ++ (rows.take (i + 1)).map (IT.mk 0)) := by
    rw [List.set_set, List.take_succ_eq_append_getElem hlt, List.map_append, List.append_assoc]; rfl
   have hlb : (L ++ (rows.take i).map (IT.mk 0)).length ≤ 200000 := by
    simp only [List.length_append, List.length_map, List.length_take]; omega
   generalize st.set k (L ++ (rows.take i).map (IT.mk 0)) = st' at *
   generalize L ++ (rows.take i).map (IT.mk 0) = M at *
   have hkl' : k < st'.length := by omega
   have hXb := zhq IT.cs zak 2 H1 [] hget
   have hXc := zla IT.cs zak 2 H1 st'
   have hvk := ziL (H1.length + 1) hget
   have hkd : (k : Int) < (d : Int) + 1 := by omega
   have hset := zfD IT.cs zak 2 H1 [] st' hkl' (M ++ [IT.mk 0 rows[i]])
   have hset' := zqL IT.cs zak 2 H1 [] st' hkl' (M ++ [IT.mk 0 rows[i]])
   have hln : (M ++ [IT.mk 0 rows[i]]).length = M.length + 1 := by simp
   have hfm : (M ++ [IT.mk 0 rows[i]]).flatMap IT.cs = M.flatMap IT.cs ++ [.int .i64 0, .sl (IT.css rows[i]) .none] := by simp [IT.cs]
   rw [hln, hfm, ← ziM _ _ hkl', hln, List.append_nil, List.append_nil] at hset hset'
   rw [List.append_nil] at hXb
   have hfin : zd6 (.ms H1.length 0 (d + 1) (d + 1)) t10 (.int .i64 k) t31 t32 (.int .i64 k) (.sl (rows.map fun r => [.sl (IT.css r) .none]) .none) (.int .i64 rows.length) (.int .i64 i) (NI H1 (st'.set k (M ++ [IT.mk 0 rows[i]]))) K Kb6 Kb := by
    simp [zd6, zvl]
    rw [zam (by omega) (by omega), hnx]
    refine hKb _ _ ⟨rows.length - (i + 1), by omega, Back.at (J := []) (H2 := NI H1 (st.set k (L ++ (rows.take (i + 1)).map (IT.mk 0)))) (by simp) (by simp only [zaQ, List.length_set]; omega) (zcb hs1 fun x n => zco x n) ?_ ⟨_, rfl, i + 1, by omega, rfl, by simp, rfl⟩⟩
    simp only [zaQ, List.length_set, hst', hl] at hsF ⊢
    simpa [zju, AV.sc, AV.scV, AV.scA, AV.scB] using hsF
   simp only [zob]
   simp [hlt, hkd, hXc]
   rw [zcW _ hvk]
   simp [zau, zaH, AV.known, zay, za8, plain, AV.pd]
   unfold NI at hfin
   rw [← hset] at hfin hset'
   simp only [NI]
   generalize NX IT.cs zak 2 H1 st' = X at *
   have hne : H1.length ≠ H1.length + 1 + k := by omega
   generalize hbb : H1.length + 1 + k = b at *
   have hbl : b < X.length := (List.getElem?_eq_some_iff.1 hXb).1
   have g1 : ∀ v, (X.set b v)[b]? = some v := fun v => List.getElem?_set_self hbl
   have g2 : ∀ v, (X.set b v)[H1.length]? = some (.cells (vcs (H1.length + 1) st')) := fun v => by rw [List.getElem?_set_ne hne.symm]; exact hXc
   have g3 : ∀ v y, ((X.set b v).set H1.length y)[b]? = some v := fun v y => by rw [List.getElem?_set_ne hne, g1]
   have g4 : ∀ v v', ((X.set b v).set b v')[H1.length]? = some (.cells (vcs (H1.length + 1) st')) := fun v v' => by rw [List.getElem?_set_ne hne.symm, g2]
   have hfM := zcs M
   have hf2 := zlG (z := [AV.int .i64 0, .sl [] .none]) (v := [AV.int .i64 0, .sl (IT.css rows[i]) .none]) hfM rfl
   have hbn : 0 ≤ (M.length : Int) ∧ (M.length : Int) < ((M.length + 1 : Nat) : Int) := by omega
   have hbn2 : (M.length + 1) * 32 ≤ 140737488355328 ∧ M.length + 1 ≤ 9223372036854775807 := by omega
   have hbn3 : M.length * 2 + 2 ≤ (M.flatMap IT.cs).length + 2 := by omega
   have hbn4 : k + 1 ≤ st'.length := by omega
   have hBB : ∀ v1 y v2, ((X.set b v1).set H1.length y).set b v2 = (X.set b v2).set H1.length y := fun v1 y v2 => by rw [List.set_comm _ _ hne, List.set_set]
   simp only [List.append_assoc, List.cons_append, List.nil_append] at hf2
   simp only [zat, zaI, zaE, hXb, zqV, zqX, AV.cs?, zli, zlh, g1, g2, g3, g4, List.length_cons, List.length_nil, List.length_append, Nat.zero_add, Int.toNat_natCast, List.flatten_cons, List.flatten_nil, List.append_nil, List.all_cons, List.all_nil, AV.known, Bool.and_true, Bool.and_self, and_true, true_and, hbn, hbn2, hbn3, hbn4, znk, List.set_set, List.append_assoc, List.singleton_append, hBB, hf2, hfin, List.cons_append, List.nil_append]
   simp
  ·obtain rfl : i = rows.length := by omega
   rw [List.take_length] at *
   simp only [zob]
   simp
   rw [zam (by omega) (by omega)]
   simpa using hpost
def zb4 (ls : LR) : LL := ls.map fun rows => rows.map (IT.mk 0)
theorem zCx {K : Kt} (H1 : zaa) (hs1 : HSc H1) (d : Nat) (hd : d ≤ 1000) (ls : LR) (hls : ls.length = d + 1) (hls5 : zaq ls ≤ 500)
  (hpost : K (.tup [.ms H1.length 0 (d + 1) (d + 1), .bool true]) (NI H1 (zb4 ls))) :
  zjv (.ms H1.length 0 (d + 1) (d + 1)) (.bool true) (lsR ls) (.int .i64 ls.length) (.int .i64 0) (NI H1 (List.replicate (d + 1) [])) K := by
 refine zvm (Inv := fun q t33 H' => ∃ k : Nat, k ≤ d + 1 ∧ q = d + 1 - k ∧ t33 = .int .i64 k ∧ H' = NI H1 (zb4 (ls.take k) ++ List.replicate (d + 1 - k) [])) (d + 1) ?_ ?_
 ·intro _; exact ⟨0, by omega, by omega, rfl, by simp [zb4]⟩
 ·rintro q t33 H' ⟨k, hk, rfl, rfl, rfl⟩ hsc hlen hsF Kb hKb
  have hln : ∀ j, j ≤ d + 1 → (zb4 (ls.take j) ++ List.replicate (d + 1 - j) []).length = d + 1 := fun j hj => by simp [zb4]; omega
  by_cases hlt : k < d + 1
  ·have hkl : k < ls.length := by omega
   have hml : (zb4 (ls.take k)).length = k := by simp [zb4]; omega
   have hrep : List.replicate (d + 1 - k) ([] : List IT) = [] :: List.replicate (d - k) [] := by rw [show d + 1 - k = (d - k) + 1 by omega, List.replicate_succ]
   have hget : (zb4 (ls.take k) ++ List.replicate (d + 1 - k) [])[k]? = some [] := by
    rw [List.getElem?_append_right (by omega), hml, Nat.sub_self, hrep]; rfl
   have hset : (zb4 (ls.take k) ++ List.replicate (d + 1 - k) []).set k ([] ++ ls[k].map (IT.mk 0)) = zb4 (ls.take (k + 1)) ++ List.replicate (d + 1 - (k + 1)) [] := by
    rw [List.set_append_right _ _ (by omega), hml, Nat.sub_self, hrep, List.set_cons_zero, List.take_succ_eq_append_getElem hkl, show d + 1 - (k + 1) = d - k by omega]
    simp only [zb4, List.map_append, List.map_cons, List.map_nil, List.nil_append, List.append_assoc, List.cons_append]
   have hmem := zeV (List.getElem_mem hkl)
   simp only [zjs]
   simp [lsR, hkl]
   refine zCy H1 hs1 d _ (hln k hk) hd k (by omega) ls[k] (by omega) [] hget (by simp) rfl ?_
   rw [hset]
   refine hKb _ _ ⟨d + 1 - (k + 1), by omega, Back.at (J := []) (H2 := NI H1 (zb4 (ls.take (k + 1)) ++ List.replicate (d + 1 - (k + 1)) [])) (by simp) (by simp only [zaQ, hln (k + 1) (by omega), List.length_replicate]; omega) (zcb hs1 fun x n => zco x n) ?_ ⟨_, rfl, k + 1, by omega, rfl, rfl, rfl⟩⟩
   simp only [zaQ, hln (k + 1) (by omega)]
   simp [zgP, AV.sc, AV.scV, AV.scA, AV.scB]
   omega
  ·obtain rfl : k = d + 1 := by omega
   have h63 : ¬ ((d : Int) + 1 < (ls.length : Int)) := by omega
   rw [Nat.sub_self, List.take_of_length_le (by omega)] at *
   simp only [zjs]
   simp [h63]
   exact ⟨⟨rfl, rfl⟩, by simpa using hpost⟩
theorem zun {α : Type} : ∀ (b : Nat) (l1 l2 : List (List α)), vcs b (l1 ++ l2) = vcs b l1 ++ vcs (b + l1.length) l2
 | b, [], l2 => by simp [vcs]
 | b, x :: l1, l2 => by rw [List.cons_append, vcs, zun (b + 1) l1 l2, vcs, List.length_cons, List.cons_append, show b + 1 + l1.length = b + (l1.length + 1) by omega]
def zce (k : Nat) : LL := (List.range k).map fun i : Nat => [IT.mk (i : Int) []]
def zcQ (k : Nat) : List AB := (List.range k).map fun i : Nat => AB.vec zak 2 1 [.int .i64 i, .snil]
theorem zyO (k : Nat) : zce (k + 1) = zce k ++ [[IT.mk (k : Int) []]] := by simp [zce, List.range_succ]
theorem zyM (k : Nat) : zcQ (k + 1) = zcQ k ++ [AB.vec zak 2 1 [.int .i64 k, .snil]] := by simp [zcQ, List.range_succ]
@[simp] theorem zyN (k : Nat) : (zce k).length = k := by simp [zce]
@[simp] theorem zOw (k : Nat) : (zcQ k).length = k := by simp [zcQ]
def XA (H1 : zaa) (d k : Nat) : zaa := H1 ++ (AB.cells (vcs (H1.length + 1) (zce k) ++ List.replicate (d + 1 - k) .snil) :: zcQ k)
theorem zyr (H1 : zaa) (d : Nat) : ReV (XA H1 d (d + 1)) (NI H1 (zce (d + 1))) := by
 have e : XA H1 d (d + 1) = H1 ++ (AB.cells (vcs (H1.length + 1) (zce (d + 1))) :: zcQ (d + 1)) := by simp [XA]
 rw [e]
 refine ⟨by simp [NX], fun i => ?_⟩
 unfold NI NX
 by_cases h1 : i < H1.length
 ·left; rw [List.getElem?_append_left h1, List.getElem?_append_left h1]
 ·rw [List.getElem?_append_right (by omega), List.getElem?_append_right (by omega)]
  cases hj : i - H1.length with
  | zero => left; rfl
  | succ j =>
   simp only [List.getElem?_cons_succ]
   by_cases h2 : j < d + 1
   ·right
    refine ⟨zak, 2, 1, [.int .i64 j, .snil], [.int .i64 j, .sl [] .none], by simp [zcQ, h2], by simp [vbs, zce, h2, IT.cs, IT.css], ⟨.refl _, .snil, trivial⟩⟩
   ·left
    rw [List.getElem?_eq_none (by simp; omega), List.getElem?_eq_none (by simp; omega)]
theorem zCw {K : Kt} (H1 : zaa) (hs1 : HSc H1) (d : Nat) (hd : d ≤ 1000) (hpost : K (.tup [.ms H1.length 0 (d + 1) (d + 1), .bool true]) (XA H1 d (d + 1))) :
  zod (.ms H1.length 0 (d + 1) (d + 1)) (.int .i64 (d + 1 : Nat)) (.int .i64 0) (H1 ++ [.cells (List.replicate (d + 1) .snil)]) K := by
 refine zFA (Inv := fun q t63 H' => ∃ k : Nat, k ≤ d + 1 ∧ q = d + 1 - k ∧ t63 = .int .i64 k ∧ H' = XA H1 d k) (d + 1) ?_ ?_
 ·intro _; exact ⟨0, by omega, by omega, rfl, by simp [XA, zce, zcQ, vcs]⟩
 ·rintro q t63 H' ⟨k, hk, rfl, rfl, rfl⟩ hsc hlen hsF Kb hKb
  by_cases hlt : k < d + 1
  ·have hrep : List.replicate (d + 1 - k) AV.snil = .snil :: List.replicate (d - k) .snil := by rw [show d + 1 - k = (d - k) + 1 by omega, List.replicate_succ]
   have hk1 : (k : Int) < (d : Int) + 1 := by omega
   have hX : XA H1 d (k + 1) = H1 ++ (AB.cells (vcs (H1.length + 1) (zce k) ++ .ov (H1.length + 1 + k) 1 :: List.replicate (d - k) .snil) :: (zcQ k ++ [AB.vec zak 2 1 [.int .i64 k, .snil]])) := by
    rw [XA, zyO, zyM, zun, show d + 1 - (k + 1) = d - k by omega]
    simp [vcs]
   simp only [zoa]
   simp [hk1, zau, zaH, zcO, XA]
   refine ⟨⟨rfl, rfl⟩, by omega, ?_⟩
   have hdr : List.drop (k + 1) (vcs (H1.length + 1) (zce k) ++ List.replicate (d + 1 - k) AV.snil) = List.replicate (d - k) .snil := by
    rw [hrep, List.drop_append, List.drop_of_length_le (by simp)]
    simp
   rw [hdr, show H1.length + (k + 1) = H1.length + 1 + k by omega, ← hX, zam (by omega) (by omega)]
   have hs2 : HSc (XA H1 d (k + 1)) := by
    rw [hX]
    refine hs1.append ?_
    rw [List.all_cons, List.all_append]
    simp only [AB.sc, List.all_append, List.all_cons, List.all_nil, Bool.and_true, Bool.and_eq_true]
    refine ⟨⟨znl _ _ (by simp; omega), by simp [AV.scA, AV.scB]; omega, by simp [AV.scA, AV.scB]⟩, by simp [zcQ, AB.sc, AV.scA, AV.scB], by simp [AV.scA, AV.scB]⟩
   have hXl : ∀ j, (XA H1 d j).length = H1.length + 1 + j := fun j => by simp [XA]; omega
   refine hKb _ _ ⟨d + 1 - (k + 1), by omega, Back.at (J := []) (H2 := XA H1 d (k + 1)) (by simp) (by rw [hXl]; simp) hs2 ?_ ⟨.int .i64 ((k : Int) + 1), rfl, k + 1, by omega, rfl, by simp, rfl⟩⟩
   rw [hXl]
   simp [zjt, AV.sc, AV.scV, AV.scA, AV.scB]
   omega
  ·obtain rfl : k = d + 1 := by omega
   simp only [zoa]
   simp
   exact ⟨⟨rfl, rfl⟩, hpost⟩
def Ud (P : VT → Int → Option (List VT)) (nc : VT → Nat) : Nat → VT → Option LL
 | 0 => fun _ => none
 | d + 1 => upF P nc d
theorem zul (P : VT → Int → Option (List VT)) (nc : VT → Nat) (d : Nat) : upF P nc d = upS P nc d (Ud P nc d) := by cases d <;> rfl
structure GdOk (data : List Dat) (Gd : VT → Prop) : Prop where
 nodes : ∀ t, Gd t → t.nodes ≤ 1000
 kids : ∀ k n ks, Gd (.mk k n ks) → ∀ x ∈ ks, Gd x
 num : ∀ t, Gd t → t.kind = 5 → 0 ≤ t.num ∧ t.num.toNat < data.length
 pay : ∀ t c ps, Gd t → zan data t c = some ps → ∀ x ∈ ps, Gd x
theorem zc7 {data : List Dat} {t : VT} {c : Int} {ps : List VT} (h : zan data t c = some ps) : 0 ≤ c ∧ c < ncF data t := by
 obtain ⟨k, n, ks⟩ := t
 unfold zan at h
 cases hf : za7 data (.mk k n ks) c with
 | none => rw [hf] at h; simp at h
 | some l =>
  obtain ⟨_, _, h2, hn, hc, _⟩ := zem hf
  refine ⟨h2, ?_⟩
  simp only [ncF, VT.num, List.getElem?_eq_getElem hn]
  omega
theorem zs1 {data : List Dat} (hk : zaP data) {t : VT} {c : Int} {ps : List VT} (h : zan data t c = some ps) : ps.length ≤ 1000 := by
 obtain ⟨k, n, ks⟩ := t
 unfold zan at h
 cases hf : za7 data (.mk k n ks) c with
 | none => rw [hf] at h; simp at h
 | some l =>
  rw [hf] at h
  simp at h
  obtain ⟨_, _, h2, hn, hc, _, hl, _⟩ := zem hf
  have := ((hk.2 _ (List.getElem_mem hn)).2.2 _ (List.getElem_mem hc)).2.1
  have h3 := ziq l ((zis data (VT.mk k n ks).num.toNat).getD c.toNat [])
  simp only [List.getD_eq_getElem?_getD] at h3
  rw [h] at h3
  rw [hl] at h3
  simp at h3
  omega
def OpenC (data : List Dat) (d : Nat) (t : VT) : Prop :=
 ∀ (H : zaa) (K : Kt), (∀ r H', H <+: H' → UpO H' H.length r (upF (zan data) (ncF data) d t) → K r H') → ACalls tP zgf [.sl (data.map Dat.cs) .none, .agg t.cs, .int .i64 d] H K
theorem OpenC.closed {data : List Dat} {d : Nat} {t : VT} (hd : d ≤ 6) (h : OpenC data d t) : UpC data d t (upF (zan data) (ncF data) d t) := by
 have hok := zdz (P := zan data) (nc := ncF data) (fun t c ps h => zc7 h) d t (by omega)
 refine ⟨fun s hs => ?_, fun H K hK => ACalls.out3 (ACalls.preSc fun hs => h H _ fun r H' hp hr => hr.out hs hp hK)⟩
 rw [hs] at hok
 exact ⟨hok.1.len, hok.2⟩
theorem zvp {data : List Dat} (hk : zaP data) {Gd : VT → Prop} (hG : GdOk data Gd) (d : Nat) (hd : d ≤ 6) (ihd : 0 < d → ∀ t, Gd t → UpC data (d - 1) t (Ud (zan data) (ncF data) d t)) : ∀ m t, t.nodes ≤ m → Gd t → OpenC data d t := by
 intro m
 induction m with
 | zero => intro t h; have := t.nodes_pos; omega
 | succ m ih =>
  intro t hm hg H K hK
  obtain ⟨k, n, ks⟩ := t
  have ht := hG.nodes _ hg
  have hnn : (VT.mk k n ks).nodes = VT.nodesL ks + 1 := by simp [VT.nodes]
  rw [zul, upS] at hK
  refine ACalls.reVecs (zFE fun hs => ?_)
  have hs1 : HSc (H ++ [AB.cells [AV.int IntKind.i64 k, AV.int IntKind.i64 n, AV.sl (VT.css ks) Tok.none]]) := hs.append (by simp [AB.sc, AV.scA, AV.scB])
  have hln1 : (H ++ [AB.cells [AV.int IntKind.i64 k, AV.int IntKind.i64 n, AV.sl (VT.css ks) Tok.none]]).length = H.length + 1 := by simp
  have e1 : H ++ [AB.cells [AV.int IntKind.i64 k, AV.int IntKind.i64 n, AV.sl (VT.css ks) Tok.none], AB.cells (List.replicate (d + 1) AV.snil)] = (H ++ [AB.cells [AV.int IntKind.i64 k, AV.int IntKind.i64 n, AV.sl (VT.css ks) Tok.none]]) ++ [AB.cells (List.replicate (d + 1) AV.snil)] := by simp
  simp [zvj, VT.cs]
  rw [zam (by omega) (by omega)]
  simp [za4]
  refine ⟨by omega, ?_⟩
  by_cases h6 : k = 6
  ·subst h6
   simp only [if_true, zni] at hK
   simp
   rw [← zul] at hK
   have hks : ks.length ≤ 1000 := by have := VT.len_le ks; omega
   refine zwc data d hd (upF (zan data) (ncF data) d) ks (fun x hx => OpenC.closed hd (ih x ?_ (hG.kids _ _ _ hg x hx))) hks _ _ ?_
   ·obtain ⟨i, hi, rfl⟩ := List.mem_iff_getElem.1 hx
    have := VT.kid_lt (k := 6) (n := n) hi; omega
   cases hr : zb5 d (ks.map (upF (zan data) (ncF data) d)) with
   | none =>
    rw [hr] at hK
    simp [zgA]
    refine zvm (Inv := fun q t33 H' => t33 = .int .i64 0 ∧ H <+: H') 1 (fun _ => ⟨rfl, _, rfl⟩) ?_
    rintro q t33 H' ⟨rfl, hp⟩ _ _ _ Kb _
    simp only [zjs]
    simp
    exact ⟨⟨rfl, rfl⟩, H', ReV.refl _, hK _ _ hp ⟨_, rfl, rfl⟩⟩
   | some ls =>
    rw [hr] at hK
    have hl := zto (fun u hu s hs => by
     obtain ⟨x, hx, rfl⟩ := List.mem_map.1 hu
     have hok := zdz (P := zan data) (nc := ncF data) (fun t c ps h => zc7 h) d x (by omega)
     rw [hs] at hok
     exact hok.1.len) hr
    simp [zgA, zsv]
    rw [e1]
    have key := zCx (K := fun r H' => ∃ H'', ReV H' H'' ∧ K r H'') _ hs1 d (by omega) ls hl.1 hl.2 ⟨_, ReV.refl _, hK _ _ (List.IsPrefix.trans ⟨_, rfl⟩ (zca _ _ _ _ _)) ⟨_, rfl, by
     have := zlc H.length (H ++ [AB.cells [AV.int IntKind.i64 6, AV.int IntKind.i64 n, AV.sl (VT.css ks) Tok.none]]) (zb4 ls) (by simp)
     have hml : (zb4 ls).length = d + 1 := by simp [zb4, hl.1]
     rw [hml] at this
     exact this⟩⟩
    rw [hln1] at key
    unfold zjv at key ⊢
    exact ALoop.nx IT.cs zak 2 (d + 1) key
  ·rw [if_neg h6] at hK
   have hb6 : (k == 6) = false := by simpa using h6
   simp only [hb6, zcq]
   by_cases h7 : k = 7
   ·subst h7
    rw [if_pos rfl] at hK
    simp
    rw [e1]
    have key := zCw (K := fun r H' => ∃ H'', ReV H' H'' ∧ K r H'') _ hs1 d (by omega) ⟨_, zyr _ d, hK _ _ (List.IsPrefix.trans ⟨_, rfl⟩ (zca IT.cs zak 2 (H ++ [AB.cells [AV.int IntKind.i64 7, AV.int IntKind.i64 n, AV.sl (VT.css ks) Tok.none]]) (zce (d + 1)))) ⟨_, rfl, by
     have := zlc H.length (H ++ [AB.cells [AV.int IntKind.i64 7, AV.int IntKind.i64 n, AV.sl (VT.css ks) Tok.none]]) (zce (d + 1)) (by simp)
     rw [zyN] at this
     exact this⟩⟩
    rw [hln1] at key
    simpa using key
   ·rw [if_neg h7] at hK
    have hb7 : (k == 7) = false := by simpa using h7
    simp only [hb7, zcq]
    by_cases h5 : k = 5
    ·subst h5
     rw [if_pos rfl] at hK
     simp
     obtain ⟨hn0, hn1⟩ := hG.num _ hg rfl
     refine zHK data hk d hd (Ud (zan data) (ncF data) d) (.mk 5 n ks) ht hn0 hn1 (fun c ps h0 hp => ⟨zs1 hk hp, fun p hpp => ihd h0 p (hG.pay _ _ _ hg hp p hpp)⟩) _ _ fun r H' hpre hr => ?_
     have hp2 : H <+: H' := List.IsPrefix.trans ⟨_, rfl⟩ hpre
     cases hsq : zcT (zan data) (ncF data) d (Ud (zan data) (ncF data) d) (.mk 5 n ks) with
     | none =>
      rw [hsq] at hr hK
      obtain ⟨x, hx, rfl⟩ := hr
      simp
      exact ⟨⟨hx, rfl⟩, H', ReV.refl _, hK _ _ hp2 ⟨x, hx, rfl⟩⟩
     | some ls =>
      rw [hsq] at hr hK
      obtain ⟨x, rfl, hx⟩ := hr
      simp
      have hx2 := hx.lower (lo' := H.length) (by simp)
      obtain ⟨id, cs, h1, rfl, h3⟩ := hx2
      exact ⟨⟨rfl, rfl⟩, H', ReV.refl _, hK _ _ hp2 ⟨_, rfl, id, cs, h1, rfl, h3⟩⟩
    ·rw [if_neg h5] at hK
     have hb5 : (k == 5) = false := by simpa using h5
     simp [hb5, zau, zaH, zcO]
     refine ⟨⟨rfl, rfl⟩, ⟨rfl, rfl⟩, H ++ [AB.cells [AV.int IntKind.i64 k, AV.int IntKind.i64 n, AV.sl (VT.css ks) Tok.none], AB.cells (AV.ov (List.length H + 2) 1 :: List.replicate d AV.snil), AB.vec zak 2 1 [AV.int IntKind.i64 0, AV.sl [] .none]], ⟨by simp, fun i => ?_⟩, hK _ _ ⟨_, rfl⟩ ⟨_, rfl, H.length + 1, .ov (H.length + 2) 1 :: List.replicate d .snil, by omega, by simp, by simp, ?_, ?_⟩⟩
     ·by_cases h1 : i < H.length
      ·left; rw [List.getElem?_append_left h1, List.getElem?_append_left h1]
      ·rw [List.getElem?_append_right (by omega), List.getElem?_append_right (by omega)]
       rcases (by omega : i - H.length = 0 ∨ i - H.length = 1 ∨ i - H.length = 2 ∨ 3 ≤ i - H.length) with h | h | h | h
       ·left; rw [h]; rfl
       ·left; rw [h]; rfl
       ·right; rw [h]
        exact ⟨zak, 2, 1, [.int .i64 0, .snil], [.int .i64 0, .sl [] .none], rfl, rfl, ⟨.refl _, .snil, trivial⟩⟩
       ·left; rw [List.getElem?_eq_none (by simpa using h), List.getElem?_eq_none (by simpa using h)]
     ·exact ⟨.inr ⟨H.length + 2, by omega, rfl, by simp [IT.cs, IT.css]⟩, All2.replicate (.inl ⟨rfl, rfl⟩) d⟩
     ·rw [List.pairwise_cons]
      refine ⟨fun c hc b n b' n' _ e => ?_, ?_⟩
      ·rw [List.eq_of_mem_replicate hc] at e; cases e
      ·rw [List.pairwise_replicate]
       exact .inr fun b n b' n' e => by cases e
theorem zFF {data : List Dat} (hk : zaP data) {Gd : VT → Prop} (hG : GdOk data Gd) : ∀ d, d ≤ 6 → ∀ t, Gd t → OpenC data d t := by
 intro d
 induction d with
 | zero => intro _ t hg; exact zvp hk hG 0 (by omega) (fun h => by omega) _ t (Nat.le_refl _) hg
 | succ d ihd =>
  intro hd t hg
  exact zvp hk hG (d + 1) hd (fun _ t hg => (ihd (by omega) t hg).closed (by omega)) _ t (Nat.le_refl _) hg
end Go.Proofs.YtddlhljflggenaaGreatDoor
namespace Go.Proofs.YtddlhljflggenaaGreatDoor
open Go Go.Abs
set_option maxRecDepth 100000
def zkF : Nat → List Bool
 | 7 => rl false [0,1,1,1,1,1,3,2,40]
 | _ => []
noncomputable def zp9 : Code := Tryz.f8.body.getD .skip
noncomputable def zKe : List ResultVar := Tryz.f8.results.toList
def zhg (t0 t2 t4 t8 t9 : AV) : List AV := t0 :: ux 1 (t2 :: ux 1 (t4 :: ux 3 (t8 :: t9 :: ux 40 [])))
def zKc : List Bool := zkF 7
noncomputable def zKa : Code := zao [1, 1, 1, 1, 0, 1, 0, 0] zp9
def zJ9 (K : Kt) : AExit → List AV → zaa → Prop := zap tP zkF [1, 1, 1, 1, 0, 1, 0] zp9 (zaA tP zKe K)
def zkG (t0 t2 t4 t8 t9 : AV) (H : zaa) (K : Kt) : Prop := ALoop tP zKa (zJ9 K) (zhg t0 t2 t4 t8 t9) H
def zp8 (t0 t2 t4 t8 t9 : AV) (H : zaa) (K : Kt) (Kb7 : Lt) : Prop :=
 zac .leq false t9 t2 fun t24 =>
 zaf t24
 (zad true 3 t4 H fun t29 =>
 ACalls tP ze0 [t0, t29, t9] H fun t31 H =>
 zav t31 0 fun t32 =>
 zav t31 1 fun t33 =>
 aUn .not t33 fun t35 =>
 zab t35 false H (fun K' => K' t8 H) fun t37 H =>
 zab t35 false H (fun K' => zah 1 t37 (K' · H)) fun t38 H =>
 zab t35 false H (fun K' => K' t32 H) fun t39 H =>
 zab t35 false H (fun K' => zah 1 t39 (K' · H)) fun t40 H =>
 zab t35 false H (fun K' => zac .add false t38 t40 (K' · H)) fun t41 H =>
 zab t35 false H (fun K' => zac .gtr false t41 (.int .i64 500) (K' · H)) fun t42 H =>
 zai t35 (.bool true) t42 fun t43 =>
 zaf t43
 (zaw [.snil, (.int .i64 9)] (K · H))
 (ACalls tP zgg [t32] H fun t45 H =>
 zat zak 2 32 t8 t32 H fun t48 H =>
 zac .add false t9 (.int .i64 1) fun t26 =>
 Kb7 (zhg t0 t2 t4 t48 t26) H))
 (zaw [t8, (.int .i64 0)] (K · H))
def zq6 (t0 t1 t2 : AV) (H : zaa) (K : Kt) : Prop :=
 zax t1 H fun t4 H =>
 zad true 3 t4 H fun t13 =>
 ACalls tP zmi [t0, t13] H fun t14 H =>
 aUn .not t14 fun t15 =>
 zaf t15
 (zaw [.snil, (.int .i64 1)] (K · H))
 (zac .lss false t2 (.int .i64 0) fun t17 =>
 zab t17 false H (fun K' => K' t2 H) fun t19 H =>
 zab t17 false H (fun K' => zac .gtr false t19 (.int .i64 6) (K' · H)) fun t20 H =>
 zai t17 (.bool true) t20 fun t21 =>
 zaf t21
 (zaw [.snil, (.int .i64 8)] (K · H))
 (zkG t0 t2 t4 .snil (.int .i64 0) H K))
theorem zKb {t0 t2 t4 t8 t9 : AV} {H : zaa} {K : Kt} (Inv : Nat → AV → AV → zaa → Prop) (n : Nat) (h0 : HSc H → Inv n t8 t9 H)
  (round : Rd2 (fun t8 => fun t9 => zhg t0 t2 t4 t8 t9) (fun t8 => fun t9 => fun H Kb7 => zp8 t0 t2 t4 t8 t9 H K Kb7) H Inv) : zkG t0 t2 t4 t8 t9 H K :=
 lp2 (M := zkF) zKc t8 t9 (by kernel_rfl) Inv n h0 round
theorem zKd {t0 t1 t2 : AV} {H : zaa} {K : Kt} (h : HSc H → zq6 t0 t1 t2 H K) : ACalls tP zmx [t0, t1, t2] H K :=
 zar (M := zkF) Tryz.func8 (c := zp9) (by kernel_rfl) (fun hs => Eq.mpr (by kernel_rfl) (h hs))
def zbV : Nat → List Bool
 | 6 => rl false [9,2,27,3,109]
 | 18 => rl false [0,1,1,1,1,1,8,2,135]
 | 24 => rl false [0,1,1,1,1,1,8,3,70,2,62]
 | 32 => rl false [0,1,1,1,1,1,8,3,1,1,68,2,31,3,28]
 | 35 => rl false [0,1,1,1,1,1,8,3,1,1,5,1,62,2,31,3,3,3,22]
 | _ => []
noncomputable def zgQ : Code := Tryz.f25.body.getD .skip
noncomputable def zvA : List ResultVar := Tryz.f25.results.toList
def zfs (t9 t10 t38 t39 t40 : AV) : List AV := ux 9 (t9 :: t10 :: ux 27 (t38 :: t39 :: t40 :: ux 109 []))
def zF3 : List Bool := zbV 6
noncomputable def zFX : Code := zao [1, 0, 1, 0, 1, 0, 1, 1, 0, 1, 0, 0] zgQ
def zFV (K : Kt) : AExit → List AV → zaa → Prop := zap tP zbV [1, 0, 1, 0, 1, 0, 1, 1, 0, 1, 0] zgQ (zaA tP zvA K)
def zgU (t9 t10 t38 t39 t40 : AV) (H : zaa) (K : Kt) : Prop := ALoop tP zFX (zFV K) (zfs t9 t10 t38 t39 t40) H
def zjz (t9 t10 t38 t39 t40 : AV) (H : zaa) (K : Kt) (Kb6 : Lt) : Prop :=
 zac .lss false t40 t39 fun t41 =>
 zaf t41
 (zaj 1 t38 t40 fun t42 =>
 zad false 1 t42 H fun t43 =>
 zau [(.int .i64 0), .snil] [(0, 1), (1, 1)] [(1, t43)] fun t46 =>
 zay 2 [(.int .i64 0), .snil] 1 [(0, t46)] fun t47 =>
 zat zak 2 32 t10 t47 H fun t48 H =>
 zac .add false t40 (.int .i64 1) fun t49 =>
 Kb6 (zfs t9 t48 t38 t39 t49) H)
 (zaw [t10, t9] (K · H))
def zgR (t0 t2 t4 t13 t14 : AV) : List AV := t0 :: ux 1 (t2 :: ux 1 (t4 :: ux 8 (t13 :: t14 :: ux 135 [])))
def zvx : List Bool := zbV 18
noncomputable def zol : Code := zao [1, 0, 1, 0, 1, 1, 1, 1, 1, 0, 1, 1, 0, 1, 0, 0] zgQ
def zvt (K : Kt) : AExit → List AV → zaa → Prop := zap tP zbV [1, 0, 1, 0, 1, 1, 1, 1, 1, 0, 1, 1, 0, 1, 0] zgQ (zaA tP zvA K)
def zgT (t0 t2 t4 t13 t14 : AV) (H : zaa) (K : Kt) : Prop := ALoop tP zol (zvt K) (zgR t0 t2 t4 t13 t14) H
def zfq (t0 t2 t4 t13 t14 t15 t86 t87 : AV) : List AV := t0 :: ux 1 (t2 :: ux 1 (t4 :: ux 8 (t13 :: t14 :: t15 :: ux 70 (t86 :: t87 :: ux 62 []))))
def zvy : List Bool := zbV 24
noncomputable def zom : Code := zao [1, 0, 0, 1, 1, 1, 0, 0] zol
def zvu (K : Kt) (Kb18 : Lt) : AExit → List AV → zaa → Prop := zap tP zbV [1, 0, 0, 1, 1, 1, 0] zol (zaU zvx Kb18 (zvt K))
def zop (t0 t2 t4 t13 t14 t15 t86 t87 : AV) (H : zaa) (K : Kt) (Kb18 : Lt) : Prop := ALoop tP zom (zvu K Kb18) (zfq t0 t2 t4 t13 t14 t15 t86 t87) H
def zoo (t0 t2 t4 t13 t14 t15 t86 t87 : AV) (H : zaa) (K : Kt) (Kb18 : Lt) (Kb24 : Lt) : Prop :=
 zac .add false t87 (.int .i64 1) fun t144 =>
 Kb24 (zfq t0 t2 t4 t13 t14 t15 t86 t144) H
def zjA (t0 t2 t4 t13 t14 t15 t86 t87 : AV) (H : zaa) (K : Kt) (Kb18 : Lt) (Kb24 : Lt) : Prop :=
 zoo t0 t2 t4 t13 t14 t15 t86 t87 H K Kb18 Kb24
def zgS (t0 t2 t4 t13 t14 t15 t17 t86 t87 t119 t120 t121 : AV) : List AV := t0 :: ux 1 (t2 :: ux 1 (t4 :: ux 8 (t13 :: t14 :: t15 :: ux 1 (t17 :: ux 68 (t86 :: t87 :: ux 31 (t119 :: t120 :: t121 :: ux 28 []))))))
def zvz : List Bool := zbV 32
noncomputable def zon : Code := zao [1, 1, 0, 0, 1, 1, 1, 1, 1, 1, 0, 0] zom
def zvv (K : Kt) (Kb18 : Lt) (Kb24 : Lt) : AExit → List AV → zaa → Prop := zap tP zbV [1, 1, 0, 0, 1, 1, 1, 1, 1, 1, 0] zom (zaU zvy Kb24 (zvu K Kb18))
def zoq (t0 t2 t4 t13 t14 t15 t17 t86 t87 t119 t120 t121 : AV) (H : zaa) (K : Kt) (Kb18 : Lt) (Kb24 : Lt) : Prop := ALoop tP zon (zvv K Kb18 Kb24) (zgS t0 t2 t4 t13 t14 t15 t17 t86 t87 t119 t120 t121) H
def zfr (t0 t2 t4 t13 t14 t15 t17 t23 t86 t87 t119 t120 t121 t125 t126 t127 : AV) : List AV := t0 :: ux 1 (t2 :: ux 1 (t4 :: ux 8 (t13 :: t14 :: t15 :: ux 1 (t17 :: ux 5 (t23 :: ux 62 (t86 :: t87 :: ux 31 (t119 :: t120 :: t121 :: ux 3 (t125 :: t126 :: t127 :: ux 22 []))))))))
def zF2 : List Bool := zbV 35
noncomputable def zFW : Code := zao [1, 1, 0, 0, 1, 1, 0, 0] zon
def zFU (K : Kt) (Kb18 : Lt) (Kb24 : Lt) (Kb32 : Lt) : AExit → List AV → zaa → Prop := zap tP zbV [1, 1, 0, 0, 1, 1, 0] zon (zaU zvz Kb32 (zvv K Kb18 Kb24))
def zor (t0 t2 t4 t13 t14 t15 t17 t23 t86 t87 t119 t120 t121 t125 t126 t127 : AV) (H : zaa) (K : Kt) (Kb18 : Lt) (Kb24 : Lt) (Kb32 : Lt) : Prop := ALoop tP zFW (zFU K Kb18 Kb24 Kb32) (zfr t0 t2 t4 t13 t14 t15 t17 t23 t86 t87 t119 t120 t121 t125 t126 t127) H
def zok (t0 t2 t4 t13 t14 t15 t17 t23 t86 t87 t119 t120 t121 t125 t126 t127 : AV) (H : zaa) (K : Kt) (Kb18 : Lt) (Kb24 : Lt) (Kb32 : Lt) (Kb35 : Lt) : Prop :=
 zac .lss false t127 t126 fun t128 =>
 zaf t128
 (zaj 2 t125 t127 fun t129 =>
 zad true 2 t129 H fun t130 =>
 zaz [(.int .i64 0), .snil] H fun t25 H =>
 zal 2 t25 t130 H fun H =>
 zau [(.int .i64 0), .snil] [(0, 1), (1, 1)] [(0, t17), (1, t23)] fun t134 =>
 zay 2 [(.int .i64 0), .snil] 1 [(0, t134)] fun t135 =>
 zag 1 t25 fun t136 =>
 zad false 1 t136 H fun t137 =>
 zat zak 2 32 t135 t137 H fun t138 H =>
 zau [(.int .i64 0), .snil] [(0, 1), (1, 1)] [(1, t138)] fun t139 =>
 zay 2 [(.int .i64 0), .snil] 1 [(0, t139)] fun t140 =>
 zat zak 2 32 t13 t140 H fun t141 H =>
 zac .add false t127 (.int .i64 1) fun t142 =>
 Kb35 (zfr t0 t2 t4 t141 t14 t15 t17 t23 t86 t87 t119 t120 t121 t125 t126 t142) H)
 (zac .add false t121 (.int .i64 1) fun t143 =>
 Kb32 (zgS t0 t2 t4 t13 t14 t15 t17 t86 t87 t119 t120 t143) H)
def zoj (t0 t2 t4 t13 t14 t15 t17 t86 t87 t119 t120 t121 : AV) (H : zaa) (K : Kt) (Kb18 : Lt) (Kb24 : Lt) (Kb32 : Lt) : Prop :=
 zac .lss false t121 t120 fun t122 =>
 zaf t122
 (zaj 1 t119 t121 fun t123 =>
 zad false 1 t123 H fun t124 =>
 zah 1 t15 fun t126 =>
 zor t0 t2 t4 t13 t14 t15 t17 t124 t86 t87 t119 t120 t121 t15 t126 (.int .i64 0) H K Kb18 Kb24 Kb32)
 (zjA t0 t2 t4 t13 t14 t15 t86 t87 H K Kb18 Kb24)
def zoi (t0 t2 t4 t13 t14 t15 t86 t87 : AV) (H : zaa) (K : Kt) (Kb18 : Lt) (Kb24 : Lt) : Prop :=
 zac .lss false t87 t86 fun t88 =>
 zaf t88
 (zad true 3 t4 H fun t92 =>
 ACalls tP zh5 [t0, t92, t87] H fun t94 H =>
 zav t94 0 fun t95 =>
 zav t94 1 fun t96 =>
 aUn .not t96 fun t98 =>
 zaf t98
 (zjA t0 t2 t4 t13 t14 t15 t86 t87 H K Kb18 Kb24)
 (ACalls tP zgl [t0, t95, t14] H fun t103 H =>
 zav t103 0 fun t104 =>
 zav t103 1 fun t105 =>
 aUn .not t105 fun t107 =>
 zab t107 false H (fun K' => K' t13 H) fun t109 H =>
 zab t107 false H (fun K' => zah 1 t109 (K' · H)) fun t110 H =>
 zab t107 false H (fun K' => K' t104 H) fun t111 H =>
 zab t107 false H (fun K' => zah 1 t111 (K' · H)) fun t112 H =>
 zab t107 false H (fun K' => K' t15 H) fun t113 H =>
 zab t107 false H (fun K' => zah 1 t113 (K' · H)) fun t114 H =>
 zab t107 false H (fun K' => zac .mul false t112 t114 (K' · H)) fun t115 H =>
 zab t107 false H (fun K' => zac .add false t110 t115 (K' · H)) fun t116 H =>
 zab t107 false H (fun K' => zac .gtr false t116 (.int .i64 500) (K' · H)) fun t117 H =>
 zai t107 (.bool true) t117 fun t118 =>
 zaf t118
 (zaw [.snil, (.bool false)] (K · H))
 (zah 1 t104 fun t120 =>
 zoq t0 t2 t4 t13 t14 t15 t87 t86 t87 t104 t120 (.int .i64 0) H K Kb18 Kb24)))
 (zac .add false t14 (.int .i64 1) fun t67 =>
 Kb18 (zgR t0 t2 t4 t13 t67) H)
def zoh (t0 t2 t4 t13 t14 : AV) (H : zaa) (K : Kt) (Kb18 : Lt) : Prop :=
 zac .lss false t14 t2 fun t65 =>
 zaf t65
 (zad true 3 t4 H fun t70 =>
 zac .sub false t2 (.int .i64 1) fun t72 =>
 zac .sub false t72 t14 fun t74 =>
 ACalls tP ze0 [t0, t70, t74] H fun t75 H =>
 zav t75 0 fun t76 =>
 zav t75 1 fun t77 =>
 aUn .not t77 fun t79 =>
 zaf t79
 (zaw [.snil, (.bool false)] (K · H))
 (zag 1 t4 fun t81 =>
 zad false 1 t81 H fun t82 =>
 zaj 3 t0 t82 fun t83 =>
 zag 2 t83 fun t84 =>
 zad false 1 t84 H fun t85 =>
 zah 1 t85 fun t86 =>
 zop t0 t2 t4 t13 t14 t76 t86 (.int .i64 0) H K Kb18))
 (zaw [t13, (.bool true)] (K · H))
def zvs (t0 t1 t2 : AV) (H : zaa) (K : Kt) : Prop :=
 zax t1 H fun t4 H =>
 zag 0 t4 fun t26 =>
 zad false 1 t26 H fun t27 =>
 zac .eql false t27 (.int .i64 6) fun t29 =>
 zaf t29
 (zag 2 t4 fun t32 =>
 zad false 1 t32 H fun t33 =>
 ACalls tP zgl [t0, t33, t2] H fun t35 H =>
 zav t35 0 fun t36 =>
 zav t35 1 fun t37 =>
 zah 1 t36 fun t39 =>
 zgU t37 .snil t36 t39 (.int .i64 0) H K)
 (zac .eql false t27 (.int .i64 7) fun t53 =>
 zaf t53
 (zau [(.int .i64 0), .snil] [(0, 1), (1, 1)] [(0, t2)] fun t55 =>
 zay 2 [(.int .i64 0), .snil] 1 [(0, t55)] fun t56 =>
 zaw [t56, (.bool true)] (K · H))
 (zac .eql false t27 (.int .i64 5) fun t58 =>
 zaf t58
 (zac .eql false t2 (.int .i64 0) fun t60 =>
 zaf t60
 (zau [(.int .i64 0), .snil] [(0, 1), (1, 1)] [] fun t61 =>
 zay 2 [(.int .i64 0), .snil] 1 [(0, t61)] fun t62 =>
 zaw [t62, (.bool true)] (K · H))
 (zgT t0 t2 t4 .snil (.int .i64 0) H K))
 (zac .gtr false t2 (.int .i64 0) fun t147 =>
 zaf t147
 (zaw [.snil, (.bool true)] (K · H))
 (zau [(.int .i64 0), .snil] [(0, 1), (1, 1)] [] fun t148 =>
 zay 2 [(.int .i64 0), .snil] 1 [(0, t148)] fun t149 =>
 zaw [t149, (.bool true)] (K · H)))))
theorem zvw {t9 t10 t38 t39 t40 : AV} {H : zaa} {K : Kt} (Inv : Nat → AV → AV → zaa → Prop) (n : Nat) (h0 : HSc H → Inv n t10 t40 H)
  (round : Rd2 (fun t10 => fun t40 => zfs t9 t10 t38 t39 t40) (fun t10 => fun t40 => fun H Kb6 => zjz t9 t10 t38 t39 t40 H K Kb6) H Inv) : zgU t9 t10 t38 t39 t40 H K :=
 lp2 (M := zbV) zF3 t10 t40 (by kernel_rfl) Inv n h0 round
theorem zF1 {t0 t2 t4 t13 t14 t15 t17 t23 t86 t87 t119 t120 t121 t125 t126 t127 : AV} {H : zaa} {K : Kt} {Kb18 : Lt} {Kb24 : Lt} {Kb32 : Lt} (Inv : Nat → AV → AV → zaa → Prop) (n : Nat) (h0 : HSc H → Inv n t13 t127 H)
  (round : Rd2 (fun t13 => fun t127 => zfr t0 t2 t4 t13 t14 t15 t17 t23 t86 t87 t119 t120 t121 t125 t126 t127) (fun t13 => fun t127 => fun H Kb35 => zok t0 t2 t4 t13 t14 t15 t17 t23 t86 t87 t119 t120 t121 t125 t126 t127 H K Kb18 Kb24 Kb32 Kb35) H Inv) : zor t0 t2 t4 t13 t14 t15 t17 t23 t86 t87 t119 t120 t121 t125 t126 t127 H K Kb18 Kb24 Kb32 :=
 lp2 (M := zbV) zF2 t13 t127 (by kernel_rfl) Inv n h0 round
theorem zF0 {t0 t2 t4 t13 t14 t15 t17 t86 t87 t119 t120 t121 : AV} {H : zaa} {K : Kt} {Kb18 : Lt} {Kb24 : Lt} (Inv : Nat → AV → AV → zaa → Prop) (n : Nat) (h0 : HSc H → Inv n t13 t121 H)
  (round : Rd2 (fun t13 => fun t121 => zgS t0 t2 t4 t13 t14 t15 t17 t86 t87 t119 t120 t121) (fun t13 => fun t121 => fun H Kb32 => zoj t0 t2 t4 t13 t14 t15 t17 t86 t87 t119 t120 t121 H K Kb18 Kb24 Kb32) H Inv) : zoq t0 t2 t4 t13 t14 t15 t17 t86 t87 t119 t120 t121 H K Kb18 Kb24 :=
 lp2 (M := zbV) zvz t13 t121 (by kernel_rfl) Inv n h0 round
theorem zFZ {t0 t2 t4 t13 t14 t15 t86 t87 : AV} {H : zaa} {K : Kt} {Kb18 : Lt} (Inv : Nat → AV → AV → zaa → Prop) (n : Nat) (h0 : HSc H → Inv n t13 t87 H)
  (round : Rd2 (fun t13 => fun t87 => zfq t0 t2 t4 t13 t14 t15 t86 t87) (fun t13 => fun t87 => fun H Kb24 => zoi t0 t2 t4 t13 t14 t15 t86 t87 H K Kb18 Kb24) H Inv) : zop t0 t2 t4 t13 t14 t15 t86 t87 H K Kb18 :=
 lp2 (M := zbV) zvy t13 t87 (by kernel_rfl) Inv n h0 round
theorem zFY {t0 t2 t4 t13 t14 : AV} {H : zaa} {K : Kt} (Inv : Nat → AV → AV → zaa → Prop) (n : Nat) (h0 : HSc H → Inv n t13 t14 H)
  (round : Rd2 (fun t13 => fun t14 => zgR t0 t2 t4 t13 t14) (fun t13 => fun t14 => fun H Kb18 => zoh t0 t2 t4 t13 t14 H K Kb18) H Inv) : zgT t0 t2 t4 t13 t14 H K :=
 lp2 (M := zbV) zvx t13 t14 (by kernel_rfl) Inv n h0 round
theorem zF4 {t0 t1 t2 : AV} {H : zaa} {K : Kt} (h : HSc H → zvs t0 t1 t2 H K) : ACalls tP ze0 [t0, t1, t2] H K :=
 zar (M := zbV) Tryz.func25 (c := zgQ) (by kernel_rfl) (fun hs => Eq.mpr (by kernel_rfl) (h hs))
def zey : Nat → List Bool
 | 1 => rl false [0,1,1,1,41]
 | 4 => rl false [0,1,1,2,40]
 | 400004 => rl false [0,1]
 | 400006 => rl false [0,1]
 | _ => []
noncomputable def zou : Code := Tryz.f26.body.getD .skip
noncomputable def zGb : List ResultVar := Tryz.f26.results.toList
def zft (t0 t2 : AV) : List AV := t0 :: ux 1 (t2 :: ux 41 [])
def zvF : List Bool := zey 1
noncomputable def zov : Code := zao [1, 0, 0] zou
def zvB (K : Kt) : AExit → List AV → zaa → Prop := zap tP zey [1, 0] zou (zaA tP zGb K)
def zvC (t0 t2 : AV) (H : zaa) (K : Kt) : Prop := ALoop tP zov (zvB K) (zft t0 t2) H
def zgV (t0 t2 t3 : AV) : List AV := t0 :: ux 1 (t2 :: t3 :: ux 40 [])
def zF9 : List Bool := zey 4
noncomputable def zF7 : Code := zao [1, 0, 0, 1, 0, 0] zov
def zF6 (K : Kt) (Kb1 : Lt) : AExit → List AV → zaa → Prop := zap tP zey [1, 0, 0, 1, 0] zov (zaU zvF Kb1 (zvB K))
def zvD (t0 t2 t3 : AV) (H : zaa) (K : Kt) (Kb1 : Lt) : Prop := ALoop tP zF7 (zF6 K Kb1) (zgV t0 t2 t3) H
def zot (t0 t2 t3 : AV) (H : zaa) (K : Kt) (Kb1 : Lt) (Kb4 : Lt) : Prop :=
 zae H (fun K' => K' t3 H) fun t11 =>
 zae H (fun K' => zac .gtr false t11 (.int .i64 0) (K' · H)) fun t12 =>
 zae H (fun K' => K' t12 H) fun t13 =>
 zab t13 true H (fun K' => zae H (fun K'' => K'' t0 H) (K' · H)) fun t14 H =>
 zab t13 true H (fun K' => zae H (fun K'' => K'' t3 H) (K' · H)) fun t15 H =>
 zab t13 true H (fun K' => zae H (fun K'' => zaj 2 t14 t15 (K'' · H)) (K' · H)) fun t16 H =>
 zab t13 true H (fun K' => zae H (fun K'' => zad true 2 t16 H (K'' · H)) (K' · H)) fun t17 H =>
 zab t13 true H (fun K' => zae H (fun K'' => K'' t0 H) (K' · H)) fun t18 H =>
 zab t13 true H (fun K' => zae H (fun K'' => K'' t3 H) (K' · H)) fun t19 H =>
 zab t13 true H (fun K' => zae H (fun K'' => zac .sub false t19 (.int .i64 1) (K'' · H)) (K' · H)) fun t20 H =>
 zab t13 true H (fun K' => zae H (fun K'' => zaj 2 t18 t20 (K'' · H)) (K' · H)) fun t21 H =>
 zab t13 true H (fun K' => zae H (fun K'' => zad true 2 t21 H (K'' · H)) (K' · H)) fun t22 H =>
 zab t13 true H (fun K' => zbj H (fun H K'' => ACalls tP zgm [t17, t22] H K'') (K' · H)) fun t23 H =>
 zab t13 true H (fun K' => zae H (fun K'' => zac .lss false t23 (.int .i64 0) (K'' · H)) (K' · H)) fun t24 H =>
 zae H (fun K' => zai t13 t24 (.bool false) (K' · H)) fun t25 =>
 zaf t25
 (zae H (fun K' => K' t0 H) fun t28 =>
 zae H (fun K' => K' t3 H) fun t29 =>
 zae H (fun K' => K' t0 H) fun t30 =>
 zae H (fun K' => K' t3 H) fun t31 =>
 zae H (fun K' => zac .sub false t31 (.int .i64 1) (K' · H)) fun t32 =>
 zae H (fun K' => K' t0 H) fun t33 =>
 zae H (fun K' => K' t3 H) fun t34 =>
 zae H (fun K' => zac .sub false t34 (.int .i64 1) (K' · H)) fun t35 =>
 zae H (fun K' => zaj 2 t33 t35 (K' · H)) fun t36 =>
 zae H (fun K' => zad true 2 t36 H (K' · H)) fun t37 =>
 zae H (fun K' => K' t0 H) fun t38 =>
 zae H (fun K' => K' t3 H) fun t39 =>
 zae H (fun K' => zaj 2 t38 t39 (K' · H)) fun t40 =>
 zae H (fun K' => zad true 2 t40 H (K' · H)) fun t41 =>
 zae H (fun K' => zaj 2 t28 t29 (K' · H)) fun t42 =>
 zal 2 t42 t37 H fun H =>
 zae H (fun K' => zaj 2 t30 t32 (K' · H)) fun t43 =>
 zal 2 t43 t41 H fun H =>
 zac .sub false t3 (.int .i64 1) fun t27 =>
 Kb4 (zgV t0 t2 t27) H)
 (zac .add false t2 (.int .i64 1) fun t9 =>
 Kb1 (zft t0 t9) H)
def zjB (t0 t2 : AV) (H : zaa) (K : Kt) (Kb1 : Lt) : Prop :=
 zah 1 t0 fun t6 =>
 zac .lss false t2 t6 fun t7 =>
 zaf t7
 (zvD t0 t2 t2 H K Kb1)
 (zaw [] (K · H))
def zos (t0 : AV) (H : zaa) (K : Kt) : Prop :=
 zvC t0 (.int .i64 1) H K
theorem zF8 {t0 t2 t3 : AV} {H : zaa} {K : Kt} {Kb1 : Lt} (Inv : Nat → AV → zaa → Prop) (n : Nat) (h0 : HSc H → Inv n t3 H)
  (round : Rd1 (fun t3 => zgV t0 t2 t3) (fun t3 => fun H Kb4 => zot t0 t2 t3 H K Kb1 Kb4) H Inv) : zvD t0 t2 t3 H K Kb1 :=
 lp1 (M := zey) zF9 t3 (by kernel_rfl) Inv n h0 round
theorem zvE {t0 t2 : AV} {H : zaa} {K : Kt} (Inv : Nat → AV → zaa → Prop) (n : Nat) (h0 : HSc H → Inv n t2 H)
  (round : Rd1 (fun t2 => zft t0 t2) (fun t2 => fun H Kb1 => zjB t0 t2 H K Kb1) H Inv) : zvC t0 t2 H K :=
 lp1 (M := zey) zvF t2 (by kernel_rfl) Inv n h0 round
theorem zvG {t0 : AV} {H : zaa} {K : Kt} (h : HSc H → zos t0 H K) : ACalls tP zgg [t0] H K :=
 zar (M := zey) Tryz.func26 (c := zou) (by kernel_rfl) (fun hs => Eq.mpr (by kernel_rfl) (h hs))
def zdg : Nat → List Bool
 | 7 => rl false [0,3,5,2,77]
 | 17 => rl false [0,3,5,2,2,1,52,3,19]
 | 20 => rl false [0,3,5,2,2,1,1,1,50,3,3,3,13]
 | _ => []
noncomputable def zpq : Code := Tryz.f46.body.getD .skip
noncomputable def zH6 : List ResultVar := Tryz.f46.results.toList
def zfx (t0 t1 t2 t8 t9 : AV) : List AV := t0 :: t1 :: t2 :: ux 5 (t8 :: t9 :: ux 77 [])
def zwC : List Bool := zdg 7
noncomputable def zps : Code := zao [1, 1, 1, 0, 1, 0, 0] zpq
def zwA (K : Kt) : AExit → List AV → zaa → Prop := zap tP zdg [1, 1, 1, 0, 1, 0] zpq (zaA tP zH6 K)
def zkd (t0 t1 t2 t8 t9 : AV) (H : zaa) (K : Kt) : Prop := ALoop tP zps (zwA K) (zfx t0 t1 t2 t8 t9) H
def zpt (t0 t1 t2 t8 t9 : AV) (H : zaa) (K : Kt) (Kb7 : Lt) : Prop :=
 zac .add false t9 (.int .i64 1) fun t27 =>
 Kb7 (zfx t0 t1 t2 t8 t27) H
def zkc (t0 t1 t2 t8 t9 : AV) (H : zaa) (K : Kt) (Kb7 : Lt) : Prop :=
 zpt t0 t1 t2 t8 t9 H K Kb7
def zg7 (t0 t1 t2 t8 t9 t12 t65 t66 t67 : AV) : List AV := t0 :: t1 :: t2 :: ux 5 (t8 :: t9 :: ux 2 (t12 :: ux 52 (t65 :: t66 :: t67 :: ux 19 [])))
def zwB : List Bool := zdg 17
noncomputable def zpr : Code := zao [1, 0, 0, 1, 1, 1, 1, 1, 1, 0, 0] zps
def zwz (K : Kt) (Kb7 : Lt) : AExit → List AV → zaa → Prop := zap tP zdg [1, 0, 0, 1, 1, 1, 1, 1, 1, 0] zps (zaU zwC Kb7 (zwA K))
def zpu (t0 t1 t2 t8 t9 t12 t65 t66 t67 : AV) (H : zaa) (K : Kt) (Kb7 : Lt) : Prop := ALoop tP zpr (zwz K Kb7) (zg7 t0 t1 t2 t8 t9 t12 t65 t66 t67) H
def zfw (t0 t1 t2 t8 t9 t12 t14 t65 t66 t67 t71 t72 t73 : AV) : List AV := t0 :: t1 :: t2 :: ux 5 (t8 :: t9 :: ux 2 (t12 :: ux 1 (t14 :: ux 50 (t65 :: t66 :: t67 :: ux 3 (t71 :: t72 :: t73 :: ux 13 [])))))
def zH5 : List Bool := zdg 20
noncomputable def zH1 : Code := zao [1, 1, 0, 0, 1, 1, 0, 0] zpr
def zH0 (K : Kt) (Kb7 : Lt) (Kb17 : Lt) : AExit → List AV → zaa → Prop := zap tP zdg [1, 1, 0, 0, 1, 1, 0] zpr (zaU zwB Kb17 (zwz K Kb7))
def zpv (t0 t1 t2 t8 t9 t12 t14 t65 t66 t67 t71 t72 t73 : AV) (H : zaa) (K : Kt) (Kb7 : Lt) (Kb17 : Lt) : Prop := ALoop tP zH1 (zH0 K Kb7 Kb17) (zfw t0 t1 t2 t8 t9 t12 t14 t65 t66 t67 t71 t72 t73) H
def zpo (t0 t1 t2 t8 t9 t12 t14 t65 t66 t67 t71 t72 t73 : AV) (H : zaa) (K : Kt) (Kb7 : Lt) (Kb17 : Lt) (Kb20 : Lt) : Prop :=
 zac .lss false t73 t72 fun t74 =>
 zaf t74
 (zaj 1 t71 t73 fun t75 =>
 zad false 1 t75 H fun t76 =>
 zad true 2 t14 H fun t78 =>
 zay 2 [(.int .i64 0), .snil] 1 [(0, t78)] fun t79 =>
 zat zak 2 32 t79 t76 H fun t81 H =>
 zay 1 [.snil] 1 [(0, t81)] fun t82 =>
 zat za1 1 24 t8 t82 H fun t83 H =>
 zac .add false t73 (.int .i64 1) fun t84 =>
 Kb20 (zfw t0 t1 t2 t83 t9 t12 t14 t65 t66 t67 t71 t72 t84) H)
 (zac .add false t67 (.int .i64 1) fun t85 =>
 Kb17 (zg7 t0 t1 t2 t8 t9 t12 t65 t66 t85) H)
def zpn (t0 t1 t2 t8 t9 t12 t65 t66 t67 : AV) (H : zaa) (K : Kt) (Kb7 : Lt) (Kb17 : Lt) : Prop :=
 zac .lss false t67 t66 fun t68 =>
 zaf t68
 (zaj 2 t65 t67 fun t69 =>
 zad true 2 t69 H fun t70 =>
 zaz [(.int .i64 0), .snil] H fun t14 H =>
 zal 2 t14 t70 H fun H =>
 zah 1 t12 fun t72 =>
 zpv t0 t1 t2 t8 t9 t12 t14 t65 t66 t67 t12 t72 (.int .i64 0) H K Kb7 Kb17)
 (zkc t0 t1 t2 t8 t9 H K Kb7)
def zpp (t0 t1 t2 t8 t9 : AV) (H : zaa) (K : Kt) (Kb7 : Lt) : Prop :=
 zac .leq false t9 t2 fun t25 =>
 zaf t25
 (zaj 3 t1 (.int .i64 0) fun t31 =>
 zad true 3 t31 H fun t32 =>
 ACalls tP ze0 [t0, t32, t9] H fun t34 H =>
 zav t34 0 fun t35 =>
 zav t34 1 fun t36 =>
 aUn .not t36 fun t38 =>
 zaf t38
 (zaw [.snil, (.bool false)] (K · H))
 (zah 1 t35 fun t40 =>
 zac .eql false t40 (.int .i64 0) fun t41 =>
 zaf t41
 (zkc t0 t1 t2 t8 t9 H K Kb7)
 (zaK 1 3 t1 (some (.int .i64 1)) none fun t45 =>
 zac .sub false t2 t9 fun t48 =>
 ACalls tP zgl [t0, t45, t48] H fun t49 H =>
 zav t49 0 fun t50 =>
 zav t49 1 fun t51 =>
 aUn .not t51 fun t53 =>
 zab t53 false H (fun K' => K' t8 H) fun t55 H =>
 zab t53 false H (fun K' => zah 1 t55 (K' · H)) fun t56 H =>
 zab t53 false H (fun K' => K' t35 H) fun t57 H =>
 zab t53 false H (fun K' => zah 1 t57 (K' · H)) fun t58 H =>
 zab t53 false H (fun K' => K' t50 H) fun t59 H =>
 zab t53 false H (fun K' => zah 1 t59 (K' · H)) fun t60 H =>
 zab t53 false H (fun K' => zac .mul false t58 t60 (K' · H)) fun t61 H =>
 zab t53 false H (fun K' => zac .add false t56 t61 (K' · H)) fun t62 H =>
 zab t53 false H (fun K' => zac .gtr false t62 (.int .i64 500) (K' · H)) fun t63 H =>
 zai t53 (.bool true) t63 fun t64 =>
 zaf t64
 (zaw [.snil, (.bool false)] (K · H))
 (zah 1 t35 fun t66 =>
 zpu t0 t1 t2 t8 t9 t50 t35 t66 (.int .i64 0) H K Kb7))))
 (zaw [t8, (.bool true)] (K · H))
def zkb (t0 t1 t2 : AV) (H : zaa) (K : Kt) : Prop :=
 zah 1 t1 fun t18 =>
 zac .eql false t18 (.int .i64 0) fun t19 =>
 zaf t19
 (zac .gtr false t2 (.int .i64 0) fun t21 =>
 zaf t21
 (zaw [.snil, (.bool true)] (K · H))
 (zay 1 [.snil] 1 [(0, .snil)] fun t22 =>
 zaw [t22, (.bool true)] (K · H)))
 (zkd t0 t1 t2 .snil (.int .i64 0) H K)
theorem zH3 {t0 t1 t2 t8 t9 t12 t14 t65 t66 t67 t71 t72 t73 : AV} {H : zaa} {K : Kt} {Kb7 : Lt} {Kb17 : Lt} (Inv : Nat → AV → AV → zaa → Prop) (n : Nat) (h0 : HSc H → Inv n t8 t73 H)
  (round : Rd2 (fun t8 => fun t73 => zfw t0 t1 t2 t8 t9 t12 t14 t65 t66 t67 t71 t72 t73) (fun t8 => fun t73 => fun H Kb20 => zpo t0 t1 t2 t8 t9 t12 t14 t65 t66 t67 t71 t72 t73 H K Kb7 Kb17 Kb20) H Inv) : zpv t0 t1 t2 t8 t9 t12 t14 t65 t66 t67 t71 t72 t73 H K Kb7 Kb17 :=
 lp2 (M := zdg) zH5 t8 t73 (by kernel_rfl) Inv n h0 round
theorem zH2 {t0 t1 t2 t8 t9 t12 t65 t66 t67 : AV} {H : zaa} {K : Kt} {Kb7 : Lt} (Inv : Nat → AV → AV → zaa → Prop) (n : Nat) (h0 : HSc H → Inv n t8 t67 H)
  (round : Rd2 (fun t8 => fun t67 => zg7 t0 t1 t2 t8 t9 t12 t65 t66 t67) (fun t8 => fun t67 => fun H Kb17 => zpn t0 t1 t2 t8 t9 t12 t65 t66 t67 H K Kb7 Kb17) H Inv) : zpu t0 t1 t2 t8 t9 t12 t65 t66 t67 H K Kb7 :=
 lp2 (M := zdg) zwB t8 t67 (by kernel_rfl) Inv n h0 round
theorem zH4 {t0 t1 t2 t8 t9 : AV} {H : zaa} {K : Kt} (Inv : Nat → AV → AV → zaa → Prop) (n : Nat) (h0 : HSc H → Inv n t8 t9 H)
  (round : Rd2 (fun t8 => fun t9 => zfx t0 t1 t2 t8 t9) (fun t8 => fun t9 => fun H Kb7 => zpp t0 t1 t2 t8 t9 H K Kb7) H Inv) : zkd t0 t1 t2 t8 t9 H K :=
 lp2 (M := zdg) zwC t8 t9 (by kernel_rfl) Inv n h0 round
theorem zwD {t0 t1 t2 : AV} {H : zaa} {K : Kt} (h : HSc H → zkb t0 t1 t2 H K) : ACalls tP zgl [t0, t1, t2] H K :=
 zar (M := zdg) Tryz.func46 (c := zpq) (by kernel_rfl) (fun hs => Eq.mpr (by kernel_rfl) (h hs))
def zH7 (_ : Nat) : List Bool := []
noncomputable def zH8 : Code := Tryz.f47.body.getD .skip
def zpw (t0 t1 : AV) (H : zaa) (K : Kt) : Prop :=
 zax t0 H fun t2 H =>
 zax t1 H fun t3 H =>
 zag 0 t2 fun t5 =>
 zad false 1 t5 H fun t6 =>
 zag 0 t3 fun t7 =>
 zad false 1 t7 H fun t8 =>
 zac .neq false t6 t8 fun t9 =>
 zaf t9
 (zag 0 t2 fun t10 =>
 zad false 1 t10 H fun t11 =>
 zag 0 t3 fun t12 =>
 zad false 1 t12 H fun t13 =>
 zac .lss false t11 t13 fun t14 =>
 ACalls tP zig [t14] H fun t15 H =>
 K t15 H)
 (zag 1 t2 fun t16 =>
 zad false 1 t16 H fun t17 =>
 zag 1 t3 fun t18 =>
 zad false 1 t18 H fun t19 =>
 ACalls tP zmA [t17, t19] H fun t20 H =>
 K t20 H)
theorem zH9 {t0 t1 : AV} {H : zaa} {K : Kt} (h : HSc H → zpw t0 t1 H K) : ACalls tP zgm [t0, t1] H K :=
 zar (M := zH7) Tryz.func47 (c := zH8) (by kernel_rfl) (fun hs => Eq.mpr (by kernel_rfl) (h hs))
def zKK (_ : Nat) : List Bool := []
noncomputable def zKL : Code := Tryz.f81.body.getD .skip
def zxR (t0 : AV) (H : zaa) (K : Kt) : Prop :=
 zaf t0
 (K (.int .i64 (-1)) H)
 (K (.int .i64 1) H)
theorem zKM {t0 : AV} {H : zaa} {K : Kt} (h : HSc H → zxR t0 H K) : ACalls tP zig [t0] H K :=
 zar (M := zKK) Tryz.func81 (c := zKL) (by kernel_rfl) (fun hs => Eq.mpr (by kernel_rfl) (h hs))
def zkR : Nat → List Bool
 | 4 => rl false [0,2,17,2,15]
 | _ => []
noncomputable def zqo : Code := Tryz.f82.body.getD .skip
noncomputable def zKY : List ResultVar := Tryz.f82.results.toList
def zkS (t0 t1 t19 t20 : AV) : List AV := t0 :: t1 :: ux 17 (t19 :: t20 :: ux 15 [])
def zKW : List Bool := zkR 4
noncomputable def zKU : Code := zao [1, 1, 0, 1, 0, 0] zqo
def zKT (K : Kt) : AExit → List AV → zaa → Prop := zap tP zkR [1, 1, 0, 1, 0] zqo (zaA tP zKY K)
def zxT (t0 t1 t19 t20 : AV) (H : zaa) (K : Kt) : Prop := ALoop tP zKU (zKT K) (zkS t0 t1 t19 t20) H
def zqn (t0 t1 t19 t20 : AV) (H : zaa) (K : Kt) (Kb4 : Lt) : Prop :=
 zac .lss false t20 t19 fun t21 =>
 zaf t21
 (zae H (fun K' => K' t0 H) fun t23 =>
 zae H (fun K' => K' t20 H) fun t24 =>
 zae H (fun K' => zaj 2 t23 t24 (K' · H)) fun t25 =>
 zae H (fun K' => zas true 2 t25 H (K' · H)) fun t26 =>
 zae H (fun K' => K' t1 H) fun t27 =>
 zae H (fun K' => K' t20 H) fun t28 =>
 zae H (fun K' => zaj 2 t27 t28 (K' · H)) fun t29 =>
 zae H (fun K' => zas true 2 t29 H (K' · H)) fun t30 =>
 zbj H (fun H K' => ACalls tP zgm [t26, t30] H K') fun t31 =>
 zae H (fun K' => K' t31 H) fun t6 =>
 zac .neq false t6 (.int .i64 0) fun t33 =>
 zaf t33
 (K t6 H)
 (zac .add false t20 (.int .i64 1) fun t35 =>
 Kb4 (zkS t0 t1 t19 t35) H))
 (K (.int .i64 0) H)
def zqm (t0 t1 : AV) (H : zaa) (K : Kt) : Prop :=
 zah 1 t0 fun t8 =>
 zah 1 t1 fun t10 =>
 zac .neq false t8 t10 fun t11 =>
 zaf t11
 (zah 1 t0 fun t13 =>
 zah 1 t1 fun t15 =>
 zac .lss false t13 t15 fun t16 =>
 ACalls tP zig [t16] H fun t17 H =>
 K t17 H)
 (zah 1 t0 fun t19 =>
 zxT t0 t1 t19 (.int .i64 0) H K)
theorem zKV {t0 t1 t19 t20 : AV} {H : zaa} {K : Kt} (Inv : Nat → AV → zaa → Prop) (n : Nat) (h0 : HSc H → Inv n t20 H)
  (round : Rd1 (fun t20 => zkS t0 t1 t19 t20) (fun t20 => fun H Kb4 => zqn t0 t1 t19 t20 H K Kb4) H Inv) : zxT t0 t1 t19 t20 H K :=
 lp1 (M := zkR) zKW t20 (by kernel_rfl) Inv n h0 round
theorem zKX {t0 t1 : AV} {H : zaa} {K : Kt} (h : HSc H → zqm t0 t1 H K) : ACalls tP zmA [t0, t1] H K :=
 zar (M := zkR) Tryz.func82 (c := zqo) (by kernel_rfl) (fun hs => Eq.mpr (by kernel_rfl) (h hs))
def zFG (_ : Nat) : List Bool := []
noncomputable def zFH : Code := Tryz.f3.body.getD .skip
def zq1 (t0 t1 t2 : AV) (H : zaa) (K : Kt) : Prop :=
 zax t1 H fun t4 H =>
 zad true 3 t4 H fun t12 =>
 ACalls tP zgk [t0, t12] H fun t13 H =>
 aUn .not t13 fun t14 =>
 zaf t14
 (K (.bool true) H)
 (zad true 3 t4 H fun t17 =>
 ACalls tP ze2 [t0, t17, t2] H fun t19 H =>
 zav t19 0 fun t20 =>
 zav t19 1 fun t21 =>
 zad true 3 t4 H fun t24 =>
 ACalls tP zmx [t0, t24, t2] H fun t26 H =>
 zav t26 0 fun t27 =>
 zav t26 1 fun t28 =>
 zac .eql false t21 t28 fun t31 =>
 zab t31 true H (fun K' => K' t20 H) fun t33 H =>
 zab t31 true H (fun K' => K' t27 H) fun t34 H =>
 zab t31 true H (fun K' => ACalls tP zgo [t33, t34] H K') fun t35 H =>
 zai t31 t35 (.bool false) fun t36 =>
 zab t36 true H (fun K' => ACalls tP zeq [] H K') fun t38 H =>
 zai t36 t38 (.bool false) fun t39 =>
 K t39 H)
theorem zFI {t0 t1 t2 : AV} {H : zaa} {K : Kt} (h : HSc H → zq1 t0 t1 t2 H K) : ACalls tP zl3 [t0, t1, t2] H K :=
 zar (M := zFG) Tryz.func3 (c := zFH) (by kernel_rfl) (fun hs => Eq.mpr (by kernel_rfl) (h hs))
def zjJ : Nat → List Bool
 | 8 => rl false [0,1,2,1,1,2,2,1,1,1,25,3,66]
 | _ => []
noncomputable def zoC : Code := Tryz.f4.body.getD .skip
noncomputable def zGI : List ResultVar := Tryz.f4.results.toList
def zgW (t0 t3 t5 t6 t9 t11 t37 t38 t39 : AV) : List AV := t0 :: ux 2 (t3 :: ux 1 (t5 :: t6 :: ux 2 (t9 :: ux 1 (t11 :: ux 25 (t37 :: t38 :: t39 :: ux 66 [])))))
def zGG : List Bool := zjJ 8
noncomputable def zGE : Code := zao [1, 1, 1, 1, 1, 0, 1, 0, 0] zoC
def zGD (K : Kt) : AExit → List AV → zaa → Prop := zap tP zjJ [1, 1, 1, 1, 1, 0, 1, 0] zoC (zaA tP zGI K)
def zvO (t0 t3 t5 t6 t9 t11 t37 t38 t39 : AV) (H : zaa) (K : Kt) : Prop := ALoop tP zGE (zGD K) (zgW t0 t3 t5 t6 t9 t11 t37 t38 t39) H
def zoD (t0 t3 t5 t6 t9 t11 t37 t38 t39 : AV) (H : zaa) (K : Kt) (Kb8 : Lt) : Prop :=
 zac .add false t39 (.int .i64 1) fun t88 =>
 Kb8 (zgW t0 t3 t5 t6 t9 t11 t37 t38 t88) H
def zjL (t0 t3 t5 t6 t9 t11 t37 t38 t39 : AV) (H : zaa) (K : Kt) (Kb8 : Lt) : Prop :=
 zoD t0 t3 t5 t6 t9 t11 t37 t38 t39 H K Kb8
def zjK (t0 t3 t5 t6 t9 t11 t13 t37 t38 t39 : AV) (H : zaa) (K : Kt) (Kb8 : Lt) : Prop :=
 zad true 2 t6 H fun t83 =>
 zad true 2 t13 H fun t84 =>
 ACalls tP zeW [t83, t84] H fun t85 H =>
 zaf t85
 (zac .add false t11 (.int .i64 1) fun t87 =>
 zjL t0 t3 t5 t6 t9 t87 t37 t38 t39 H K Kb8)
 (zjL t0 t3 t5 t6 t9 t11 t37 t38 t39 H K Kb8)
def zjM (t11 t16 : AV) (H : zaa) (K : Kt) : Prop :=
 zac .eql false t11 t16 fun t102 =>
 zab t102 true H (fun K' => ACalls tP zeq [] H K') fun t104 H =>
 zai t102 t104 (.bool false) fun t105 =>
 K t105 H
def zoB (t0 t3 t5 t6 t9 t11 t37 t38 t39 : AV) (H : zaa) (K : Kt) (Kb8 : Lt) : Prop :=
 zac .lss false t39 t38 fun t40 =>
 zaf t40
 (zaj 2 t37 t39 fun t42 =>
 zad true 2 t42 H fun t43 =>
 zaz [(.int .i64 0), .snil] H fun t13 H =>
 zal 2 t13 t43 H fun H =>
 zad true 3 t5 H fun t45 =>
 zad true 2 t13 H fun t46 =>
 ACalls tP zdS [t0, t45, t46] H fun t47 H =>
 zac .lss false t47 (.int .i64 0) fun t49 =>
 zab t49 false H (fun K' => K' t47 H) fun t51 H =>
 zab t49 false H (fun K' => K' t3 H) fun t52 H =>
 zab t49 false H (fun K' => zac .gtr false t51 t52 (K' · H)) fun t53 H =>
 zai t49 (.bool true) t53 fun t54 =>
 zaf t54
 (K (.bool false) H)
 (zac .gtr false t39 (.int .i64 0) fun t56 =>
 zaf t56
 (zae H (fun K' => K' t0 H) fun t57 =>
 zae H (fun K' => zas true 3 t5 H (K' · H)) fun t58 =>
 zae H (fun K' => K' t9 H) fun t59 =>
 zae H (fun K' => K' t39 H) fun t60 =>
 zae H (fun K' => zac .sub false t60 (.int .i64 1) (K' · H)) fun t61 =>
 zae H (fun K' => zaj 2 t59 t61 (K' · H)) fun t62 =>
 zae H (fun K' => zas true 2 t62 H (K' · H)) fun t63 =>
 zbj H (fun H K' => ACalls tP zdS [t57, t58, t63] H K') fun t64 =>
 zae H (fun K' => K' t64 H) fun t15 =>
 zae H (fun K' => K' t15 H) fun t65 =>
 zae H (fun K' => K' t47 H) fun t66 =>
 zae H (fun K' => zac .gtr false t65 t66 (K' · H)) fun t67 =>
 zae H (fun K' => K' t67 H) fun t68 =>
 zab t68 false H (fun K' => zae H (fun K'' => K'' t15 H) (K' · H)) fun t69 H =>
 zab t68 false H (fun K' => zae H (fun K'' => K'' t47 H) (K' · H)) fun t70 H =>
 zab t68 false H (fun K' => zae H (fun K'' => zac .eql false t69 t70 (K'' · H)) (K' · H)) fun t71 H =>
 zab t68 false H (fun K' => zae H (fun K'' => K'' t71 H) (K' · H)) fun t72 H =>
 zab t72 true H (fun K' => zae H (fun K'' => K'' t9 H) (K' · H)) fun t73 H =>
 zab t72 true H (fun K' => zae H (fun K'' => K'' t39 H) (K' · H)) fun t74 H =>
 zab t72 true H (fun K' => zae H (fun K'' => zac .sub false t74 (.int .i64 1) (K'' · H)) (K' · H)) fun t75 H =>
 zab t72 true H (fun K' => zae H (fun K'' => zaj 2 t73 t75 (K'' · H)) (K' · H)) fun t76 H =>
 zab t72 true H (fun K' => zae H (fun K'' => zas true 2 t76 H (K'' · H)) (K' · H)) fun t77 H =>
 zab t72 true H (fun K' => zae H (fun K'' => zas true 2 t13 H (K'' · H)) (K' · H)) fun t78 H =>
 zab t72 true H (fun K' => zbj H (fun H K'' => ACalls tP zdT [t77, t78] H K'') (K' · H)) fun t79 H =>
 zab t72 true H (fun K' => zae H (fun K'' => zac .geq false t79 (.int .i64 0) (K'' · H)) (K' · H)) fun t80 H =>
 zab t68 false H (fun K' => zae H (fun K'' => zai t72 t80 (.bool false) (K'' · H)) (K' · H)) fun t81 H =>
 zae H (fun K' => zai t68 (.bool true) t81 (K' · H)) fun t82 =>
 zaf t82
 (K (.bool false) H)
 (zjK t0 t3 t5 t6 t9 t11 t13 t37 t38 t39 H K Kb8))
 (zjK t0 t3 t5 t6 t9 t11 t13 t37 t38 t39 H K Kb8)))
 (zad true 3 t5 H fun t90 =>
 zad true 2 t6 H fun t91 =>
 ACalls tP zdS [t0, t90, t91] H fun t92 H =>
 zac .geq false t92 (.int .i64 0) fun t94 =>
 zab t94 true H (fun K' => K' t92 H) fun t96 H =>
 zab t94 true H (fun K' => K' t3 H) fun t97 H =>
 zab t94 true H (fun K' => zac .leq false t96 t97 (K' · H)) fun t98 H =>
 zai t94 t98 (.bool false) fun t99 =>
 zaf t99
 (zjM t11 (.int .i64 1) H K)
 (zjM t11 (.int .i64 0) H K))
def zq2 (t0 t1 t2 t3 : AV) (H : zaa) (K : Kt) : Prop :=
 zax t1 H fun t5 H =>
 zax t2 H fun t6 H =>
 zad true 3 t5 H fun t19 =>
 ACalls tP zgk [t0, t19] H fun t20 H =>
 aUn .not t20 fun t21 =>
 zab t21 false H (fun K' => zad true 2 t6 H (K' · H)) fun t23 H =>
 zab t21 false H (fun K' => ACalls tP zmD [t23] H K') fun t24 H =>
 zab t21 false H (fun K' => aUn .not t24 (K' · H)) fun t25 H =>
 zai t21 (.bool true) t25 fun t26 =>
 zaf t26
 (K (.bool true) H)
 (zad true 3 t5 H fun t29 =>
 ACalls tP ze2 [t0, t29, t3] H fun t31 H =>
 zav t31 0 fun t32 =>
 zav t31 1 fun t33 =>
 zac .neq false t33 (.int .i64 0) fun t35 =>
 zaf t35
 (ACalls tP zeq [] H fun t36 H =>
 K t36 H)
 (zah 1 t32 fun t38 =>
 zvO t0 t3 t5 t6 t32 (.int .i64 0) t32 t38 (.int .i64 0) H K))
theorem zGF {t0 t3 t5 t6 t9 t11 t37 t38 t39 : AV} {H : zaa} {K : Kt} (Inv : Nat → AV → AV → zaa → Prop) (n : Nat) (h0 : HSc H → Inv n t11 t39 H)
  (round : Rd2 (fun t11 => fun t39 => zgW t0 t3 t5 t6 t9 t11 t37 t38 t39) (fun t11 => fun t39 => fun H Kb8 => zoB t0 t3 t5 t6 t9 t11 t37 t38 t39 H K Kb8) H Inv) : zvO t0 t3 t5 t6 t9 t11 t37 t38 t39 H K :=
 lp2 (M := zjJ) zGG t11 t39 (by kernel_rfl) Inv n h0 round
theorem zGH {t0 t1 t2 t3 : AV} {H : zaa} {K : Kt} (h : HSc H → zq2 t0 t1 t2 t3 H K) : ACalls tP zmg [t0, t1, t2, t3] H K :=
 zar (M := zjJ) Tryz.func4 (c := zoC) (by kernel_rfl) (fun hs => Eq.mpr (by kernel_rfl) (h hs))
def zHL (_ : Nat) : List Bool := []
noncomputable def zHM : Code := Tryz.f5.body.getD .skip
def zq3 (t0 t1 : AV) (H : zaa) (K : Kt) : Prop :=
 zax t1 H fun t3 H =>
 zad true 3 t3 H fun t12 =>
 ACalls tP zgk [t0, t12] H fun t13 H =>
 aUn .not t13 fun t14 =>
 zaf t14
 (K (.bool true) H)
 (zad true 3 t3 H fun t17 =>
 ACalls tP ze2 [t0, t17, (.int .i64 0)] H fun t18 H =>
 zav t18 0 fun t19 =>
 zav t18 1 fun t20 =>
 zad true 3 t3 H fun t23 =>
 ACalls tP zl6 [t0, t23] H fun t24 H =>
 zav t24 0 fun t25 =>
 zav t24 1 fun t26 =>
 zaz [(.int .i64 0), .snil] H fun t7 H =>
 zal 2 t7 t25 H fun H =>
 zac .eql false t20 (.int .i64 0) fun t28 =>
 zac .neq true t28 t26 fun t30 =>
 zaf t30
 (K (.bool false) H)
 (aUn .not t26 fun t32 =>
 zaf t32
 (zad true 3 t3 H fun t34 =>
 ACalls tP zhW [t0, t34] H fun t35 H =>
 aUn .not t35 fun t36 =>
 zab t36 true H (fun K' => ACalls tP zeq [] H K') fun t38 H =>
 zai t36 t38 (.bool false) fun t39 =>
 K t39 H)
 (zae H (fun K' => K' t19 H) fun t40 =>
 zae H (fun K' => zah 1 t40 (K' · H)) fun t41 =>
 zae H (fun K' => zac .neq false t41 (.int .i64 1) (K' · H)) fun t42 =>
 zae H (fun K' => K' t42 H) fun t43 =>
 zab t43 false H (fun K' => zae H (fun K'' => K'' t19 H) (K' · H)) fun t44 H =>
 zab t43 false H (fun K' => zae H (fun K'' => zaj 2 t44 (.int .i64 0) (K'' · H)) (K' · H)) fun t45 H =>
 zab t43 false H (fun K' => zae H (fun K'' => zas true 2 t45 H (K'' · H)) (K' · H)) fun t46 H =>
 zab t43 false H (fun K' => zae H (fun K'' => zas true 2 t7 H (K'' · H)) (K' · H)) fun t47 H =>
 zab t43 false H (fun K' => zbj H (fun H K'' => ACalls tP zeW [t46, t47] H K'') (K' · H)) fun t48 H =>
 zab t43 false H (fun K' => zae H (fun K'' => aUn .not t48 (K'' · H)) (K' · H)) fun t49 H =>
 zae H (fun K' => zai t43 (.bool true) t49 (K' · H)) fun t50 =>
 zaf t50
 (K (.bool false) H)
 (zad true 3 t3 H fun t53 =>
 ACalls tP ze2 [t0, t53, (.int .i64 1)] H fun t54 H =>
 zav t54 0 fun t55 =>
 zav t54 1 fun t56 =>
 zac .neq false t56 (.int .i64 0) fun t58 =>
 zab t58 false H (fun K' => K' t55 H) fun t60 H =>
 zab t58 false H (fun K' => zah 1 t60 (K' · H)) fun t61 H =>
 zab t58 false H (fun K' => zac .gtr false t61 (.int .i64 1) (K' · H)) fun t62 H =>
 zab t58 false H (fun K' => K' t0 H) fun t63 H =>
 zab t58 false H (fun K' => zad true 3 t3 H (K' · H)) fun t64 H =>
 zab t58 false H (fun K' => ACalls tP zhW [t63, t64] H K') fun t65 H =>
 zab t58 false H (fun K' => K' t65 H) fun t66 H =>
 zab t66 true H (fun K' => K' t0 H) fun t67 H =>
 zab t66 true H (fun K' => zad true 3 t3 H (K' · H)) fun t68 H =>
 zab t66 true H (fun K' => ACalls tP zhZ [t67, t68] H K') fun t69 H =>
 zab t58 false H (fun K' => zai t66 t69 (.bool false) (K' · H)) fun t70 H =>
 zab t58 false H (fun K' => zac .eql true t62 t70 (K' · H)) fun t71 H =>
 zai t58 (.bool true) t71 fun t72 =>
 zab t72 true H (fun K' => ACalls tP zeq [] H K') fun t74 H =>
 zai t72 t74 (.bool false) fun t75 =>
 K t75 H))))
theorem zHN {t0 t1 : AV} {H : zaa} {K : Kt} (h : HSc H → zq3 t0 t1 H K) : ACalls tP zml [t0, t1] H K :=
 zar (M := zHL) Tryz.func5 (c := zHM) (by kernel_rfl) (fun hs => Eq.mpr (by kernel_rfl) (h hs))
end Go.Proofs.YtddlhljflggenaaGreatDoor
namespace Go.Proofs.YtddlhljflggenaaGreatDoor
open Go Go.Abs
set_option maxRecDepth 8000
theorem zdU {H : zaa} {K : AV → zaa → Prop} {r : AV} (hsc : HSc H) (hv : r.isV = true) (hr : r.scV H.length = true) (h : K r H) : Out H.length K r H := by
 have := Out.same (J := []) rfl hsc hv hr h
 simpa using this
theorem zsJ (a : Int) (H : zaa) (K : AV → zaa → Prop) (hK : K (.bool false) H) : ACalls tP zia [.int .i64 a] H K := by
 refine ACalls.out (zIx fun hs => ?_)
 simp [zwL]
 exact zdU hs rfl rfl hK
theorem zrG (a b : Int) (H : zaa) (K : AV → zaa → Prop) (hK : K (.int .i64 (icmp a b)) H) : ACalls tP zh3 [.int .i64 a, .int .i64 b] H K := by
 refine ACalls.out (zGL fun hs => ?_)
 unfold zvP
 refine zsJ _ _ _ (zsJ _ _ _ ?_)
 have hO := zdU (K := K) (H := H) (r := .int .i64 (icmp a b)) hs rfl rfl hK
 by_cases h1 : a < b
 ·simp [h1]; simpa [icmp, h1] using hO
 ·by_cases h2 : b < a
  ·simp [h1, h2]; simpa [icmp, h1, h2] using hO
  ·simp [h1, h2]; simpa [icmp, h1, h2] using hO
def orL : List Int → Int
 | [] => 0
 | a :: l => cor a (orL l)
theorem zAE (l : List Int) (tok : Tok) (hl : l.length ≤ 1000000) (H : zaa) (K : AV → zaa → Prop) (hK : K (.int .i64 (orL l)) H) : ACalls tP zmk [.sl (l.map fun x => [.int .i64 x]) tok] H K := by
 refine ACalls.out (zGB fun hs => ?_)
 simp [zvM]
 refine zGz (Inv := fun q t8 H' => ∃ i : Nat, i ≤ l.length ∧ q = l.length - i ∧ t8 = .int .i64 i ∧ orL (l.drop i) = orL l ∧ H' = H) l.length ?_ ?_
 ·intro _; exact ⟨0, by omega, by omega, rfl, by simp, rfl⟩
 ·rintro q t8 H' ⟨i, hi, rfl, rfl, ho, rfl⟩ hsc hlen hsF Kb hKb
  by_cases hlt : i < l.length
  ·rw [List.drop_eq_getElem_cons hlt, orL] at ho
   by_cases hz : l[i] = 0
   ·rw [zlx hz] at ho
    simp [zjH, hlt, hz]
    rw [zam (by omega) (by omega)]
    refine hKb _ _ ⟨l.length - (i + 1), by omega, Back.here (Nat.le_refl _) hs ?_ ⟨_, rfl, i + 1, by omega, rfl, by simp, ho, rfl⟩⟩
    simpa [zjI, AV.sc, AV.scV, AV.scA, AV.scB] using hsF
   ·rw [zhA hz] at ho
    have hz : (l[i] != 0) = true := by simpa using hz
    simp [zjH, hlt, hz]
    rw [← ho] at hK
    exact zdU hs rfl rfl hK
  ·simp [zjH, hlt]
   obtain rfl : i = l.length := by omega
   rw [List.drop_length] at ho
   rw [← ho] at hK
   exact zdU hs rfl rfl hK
theorem zy9 (ks ks' : List IT) (he : ks.length = ks'.length) (hb : ks.length ≤ 1000000)
  (hc : ∀ (i : Nat) (h : i < ks.length) (h' : i < ks'.length) (H : zaa) (K : AV → zaa → Prop), K (.int .i64 (IT.cmp ks[i] ks'[i])) H → ACalls tP zdT [.agg ks[i].cs, .agg ks'[i].cs] H K)
  (H : zaa) (K : AV → zaa → Prop) (hK : K (.int .i64 (IT.cmpL ks ks')) H) : ACalls tP zmm [.sl (IT.css ks) .none, .sl (IT.css ks') .none, .fn zdT []] H K := by
 refine ACalls.out (zGQ fun hs => ?_)
 simp [zvQ]
 refine zGO (Inv := fun q t13 H' => ∃ i : Nat, i ≤ ks.length ∧ q = ks.length - i ∧ t13 = .int .i64 i ∧ IT.cmpL (ks.drop i) (ks'.drop i) = IT.cmpL ks ks' ∧ H' = H) ks.length ?_ ?_
 ·intro _; exact ⟨0, by omega, by omega, rfl, by simp, rfl⟩
 ·rintro q t8 H' ⟨i, hi, rfl, rfl, ho, rfl⟩ hsc hlen hsF Kb hKb
  by_cases hlt : i < ks.length
  ·have hlt' : i < ks'.length := by omega
   have hle : ¬ ks'.length ≤ i := by omega
   rw [IT.cmpL_drop hlt hlt'] at ho
   simp [zoE, hlt, hlt', hle]
   refine hc i hlt hlt' _ _ ?_
   by_cases hz : IT.cmp ks[i] ks'[i] = 0
   ·rw [zlx hz] at ho
    simp [hz]
    rw [zam (by omega) (by omega)]
    refine hKb _ _ ⟨ks.length - (i + 1), by omega, Back.same (Nat.le_refl _) hs ?_ ⟨_, rfl, i + 1, by omega, rfl, by simp, ho, rfl⟩⟩
    simp [zjO, AV.sc, AV.scV, AV.scA, AV.scB]
   ·rw [zhA hz] at ho
    have hz : (IT.cmp ks[i] ks'[i] != 0) = true := by simpa using hz
    simp [hz]
    rw [← ho] at hK
    exact Out.same rfl hs rfl rfl hK
  ·have hnl : ¬ ks.length < ks'.length := by omega
   simp [zoE, hlt, hnl]
   obtain rfl : i = ks.length := by omega
   rw [List.drop_length, he, List.drop_length] at ho
   rw [← ho] at hK
   exact zdU hs rfl rfl hK
theorem zsg : ∀ (m : Nat) (v w : IT), v.nodes ≤ m → v.nodes ≤ 1000000 → ∀ (H : zaa) (K : AV → zaa → Prop), K (.int .i64 (IT.cmp v w)) H → ACalls tP zdT [.agg v.cs, .agg w.cs] H K := by
 intro m
 induction m with
 | zero => intro v w h; have := v.nodes_pos; omega
 | succ m ih =>
  intro v w hv hb H K hK
  obtain ⟨n, ks⟩ := v
  obtain ⟨n', ks'⟩ := w
  have hnl : IT.nodesL ks + 1 ≤ 1000000 := by simpa [IT.nodes] using hb
  have hll := IT.len_le ks
  refine ACalls.out (zDP fun hs => ?_)
  simp [IT.cs, zuC]
  refine zbH _ (fun J => zrG _ _ _ _ ⟨rfl, rfl⟩) ?_
  refine zbH _ (fun J => zrG _ _ _ _ ⟨rfl, rfl⟩) ?_
  simp [zay, za8, plain, List.replicate]
  refine zbH _ (fun J => zAE [icmp n n', icmp ks.length ks'.length] _ (by simp) _ _ ⟨rfl, rfl⟩) ?_
  by_cases hz : orL [icmp n n', icmp ks.length ks'.length] = 0
  ·have hz' := hz
   simp only [orL, zfQ] at hz
   have hlen : ks.length = ks'.length := by have := (zhF _ _).mp hz.2.1; omega
   simp [hz']
   refine zy9 ks ks' hlen (by omega) (fun i h h' H K hK => ?_) _ _ ?_
   ·have := IT.kid_lt (n := n) h
    exact ih _ _ (by omega) (by omega) H K hK
   ·refine Out.same rfl hs rfl rfl ?_
    simpa [IT.cmp, hz, cor] using hK
  ·have hzb : (orL [icmp n n', icmp ks.length ks'.length] != 0) = true := by simpa using hz
   simp [hzb]
   refine Out.same rfl hs rfl rfl ?_
   have e : IT.cmp (.mk n ks) (.mk n' ks') = orL [icmp n n', icmp ks.length ks'.length] := by
    simp only [IT.cmp, orL, cor] at hz ⊢
    split <;> (try split) <;> (try split) <;> simp_all
   rwa [e] at hK
theorem zsX (b : Bool) (H : zaa) (K : AV → zaa → Prop) (hK : K (.int .i64 (if b then -1 else 1)) H) : ACalls tP zig [.bool b] H K := by
 refine ACalls.out (zKM fun hs => ?_)
 have hO := zdU (K := K) (H := H) (r := .int .i64 (if b then -1 else 1)) hs rfl rfl hK
 cases b <;> simp [zxR] <;> simpa using hO
theorem zyE (ks ks' : List IT) (hb : ks.length ≤ 1000000)
  (hc : ∀ (i : Nat) (h : i < ks.length) (h' : i < ks'.length) (H : zaa) (K : AV → zaa → Prop), K (.int .i64 (IT.cmp ks[i] ks'[i])) H → ACalls tP zgm [.agg ks[i].cs, .agg ks'[i].cs] H K)
  (H : zaa) (K : AV → zaa → Prop) (hK : K (.int .i64 (cor (icmp ks.length ks'.length) (IT.cmpL ks ks'))) H) : ACalls tP zmA [.sl (IT.css ks) .none, .sl (IT.css ks') .none] H K := by
 refine ACalls.out (zKX fun hs => ?_)
 have fin := zdU (K := K) (H := H) (r := .int .i64 (cor (icmp ks.length ks'.length) (IT.cmpL ks ks'))) hs rfl rfl hK
 by_cases he : ks.length = ks'.length
 ·have e : cor (icmp ks.length ks'.length) (IT.cmpL ks ks') = IT.cmpL ks ks' := by simp [he, zsh, cor]
  rw [e] at fin
  simp [zqm, he]
  refine zKV (Inv := fun q t13 H' => ∃ i : Nat, i ≤ ks.length ∧ q = ks.length - i ∧ t13 = .int .i64 i ∧ IT.cmpL (ks.drop i) (ks'.drop i) = IT.cmpL ks ks' ∧ H' = H) ks.length ?_ ?_
  ·intro _; exact ⟨0, by omega, by omega, rfl, by simp, rfl⟩
  ·rintro q t8 H' ⟨i, hi, rfl, rfl, ho, rfl⟩ hsc hlen hsF Kb hKb
   by_cases hlt : i < ks.length
   ·have hlt' : i < ks'.length := by omega
    rw [IT.cmpL_drop hlt hlt'] at ho
    simp [zqn, hlt, hlt']
    refine zbH _ (fun J => hc i hlt hlt' _ _ ⟨rfl, rfl⟩) ?_
    by_cases hz : IT.cmp ks[i] ks'[i] = 0
    ·rw [zlx hz] at ho
     simp [hz]
     rw [zam (by omega) (by omega)]
     refine hKb _ _ ⟨ks.length - (i + 1), by omega, Back.here (Nat.le_refl _) hs ?_ ⟨_, rfl, i + 1, by omega, rfl, by simp, ho, rfl⟩⟩
     simp [zkS, AV.sc, AV.scV, AV.scA, AV.scB]
    ·rw [zhA hz] at ho
     have hz : (IT.cmp ks[i] ks'[i] != 0) = true := by simpa using hz
     simp [hz]
     rw [ho]
     exact fin
   ·have hlt' : ¬ i < ks'.length := by omega
    simp [zqn, hlt, hlt']
    obtain rfl : i = ks.length := by omega
    rw [List.drop_length, he, List.drop_length] at ho
    simp only [IT.cmpL] at ho
    rw [← ho] at fin
    exact fin
 ·have hb : ((ks.length : Int) != ks'.length) = true := by simp; omega
  simp [zqm, hb]
  refine zsX _ _ _ ?_
  have e : cor (icmp ks.length ks'.length) (IT.cmpL ks ks') = if decide (ks.length < ks'.length) = true then -1 else 1 := by
   rw [zsf (by omega), zhA (by split <;> omega)]; simp
  rw [e] at fin
  exact fin
theorem zA2 : ∀ (m : Nat) (v w : IT), v.nodes ≤ m → v.nodes ≤ 1000000 → ∀ (H : zaa) (K : AV → zaa → Prop), K (.int .i64 (IT.cmp v w)) H → ACalls tP zgm [.agg v.cs, .agg w.cs] H K := by
 intro m
 induction m with
 | zero => intro v w h; have := v.nodes_pos; omega
 | succ m ih =>
  intro v w hv hb H K hK
  obtain ⟨n, ks⟩ := v
  obtain ⟨n', ks'⟩ := w
  have hnl : IT.nodesL ks + 1 ≤ 1000000 := by simpa [IT.nodes] using hb
  have hll := IT.len_le ks
  refine ACalls.out (zH9 fun hs => ?_)
  have fin : ∀ J, Out H.length K (.int .i64 (IT.cmp (.mk n ks) (.mk n' ks'))) (H ++ J) := fun J => Out.same rfl hs rfl rfl hK
  by_cases h2 : n = n'
  ·subst h2
   simp [IT.cs, zpw]
   have e : IT.cmp (.mk n ks) (.mk n ks') = cor (icmp ks.length ks'.length) (IT.cmpL ks ks') := by simp [IT.cmp, zsh, cor]
   rw [e] at fin
   refine zyE ks ks' (by omega) (fun i h h' H K hK => ?_) _ _ (fin _)
   have := IT.kid_lt (n := n) h
   exact ih _ _ (by omega) (by omega) H K hK
  ·have hb : (n != n') = true := by simpa using h2
   simp [IT.cs, zpw, hb]
   refine zsX _ _ _ ?_
   have e : IT.cmp (.mk n ks) (.mk n' ks') = if decide (n < n') = true then -1 else 1 := by
    simp only [IT.cmp, cor]
    rw [zsf h2]; split <;> simp <;> omega
   rw [e] at fin
   exact fin _
end Go.Proofs.YtddlhljflggenaaGreatDoor
