import Derived.Test.YtkdmpbhbmmhijaaKNum
import Derived.Test.YtkdmpbhbmmhijaaProg
import Derived.KernelRfl
import Derived.Test.YtkdmpbhbmmhijaaAbsV
import Derived.Test.YtkdmpbhbmmhijaaKS2
import Derived.Test.YtkdmpbhbmmhijaaAbsQ1
import Derived.Test.YtkdmpbhbmmhijaaVO
import Derived.Deep.Slices
import Derived.DataReads
set_option linter.unusedSimpArgs false
set_option linter.unusedVariables false
namespace Go.Proofs.Ytkdmpbhbmmhijaa
open Go Go.Abs
set_option maxRecDepth 100000
def znx (H : zaa) (K : Kt) : Prop :=
 zaA [.snil, .snil, .snil, .snil] H fun t0 H =>
 zaI [(.int .i64 0), (.int .i64 0), .snil] [(0, 1), (1, 1), (2, 1)] [(0, (.int .i64 1))] fun t2 =>
 zaA [(.int .i64 0), (.int .i64 0), .snil] H fun t1 H =>
 zar 3 t1 t2 H fun H =>
 zae true 3 t1 H fun t3 =>
 zaI [(.str []), .snil, .snil, (.int .i64 0), (.int .i64 0), .snil, (.int .i64 0)] [(0, 1), (1, 1), (2, 1), (3, 3), (6, 1)] [(0, (.str [102])), (3, t3)] fun t4 =>
 ze1 7 [(.str []), .snil, .snil, (.int .i64 0), (.int .i64 0), .snil, (.int .i64 0)] 1 [(0, t4)] H fun t5 H =>
 zae true 3 t1 H fun t6 =>
 zaI [(.int .i64 0), (.int .i64 0), .snil, .snil, .snil, (.int .i64 0), (.int .i64 0), .snil] [(0, 1), (1, 1), (2, 1), (3, 1), (4, 1), (5, 3)] [(0, (.int .i64 3)), (1, (.int .i64 1)), (5, t6)] fun t7 =>
 ze1 8 [(.int .i64 0), (.int .i64 0), .snil, .snil, .snil, (.int .i64 0), (.int .i64 0), .snil] 1 [(0, t7)] H fun t8 H =>
 zaI [.snil, .snil, .snil, .snil] [(0, 1), (1, 1), (2, 1), (3, 1)] [(1, t5), (3, t8)] fun t9 =>
 zar 4 t0 t9 H fun H =>
 zae true 4 t0 H fun r0 =>
 K r0 H
theorem zzR (H : zaa) (K : Kt) : zgA tP zuV (zas tP zFt K) (List.replicate 10 .unk) H = znx H K := by kernel_rfl
theorem zzS {H : zaa} {K : Kt} (h : HSc H → znx H K) : ACalls tP zm1 [] H K :=
 zyc Try.func20 (c := zuV) (by kernel_rfl) (fun hs => (zzR H K).mpr (h hs))
theorem bm7 (H : zaa) (K : Kt) : ze1 7 [(.str []), .snil, .snil, (.int .i64 0), (.int .i64 0), .snil, (.int .i64 0)] 1 [(0, .agg [.str [102], .snil, .snil, .int .i64 1, .int .i64 0, .snil, .int .i64 0])] H K = K (.ms H.length 0 1 1) (H ++ [.cells zmw]) := propext Iff.rfl
theorem bm8 (H : zaa) (K : Kt) : ze1 8 [(.int .i64 0), (.int .i64 0), .snil, .snil, .snil, (.int .i64 0), (.int .i64 0), .snil] 1 [(0, .agg [.int .i64 3, .int .i64 1, .snil, .snil, .snil, .int .i64 1, .int .i64 0, .snil])] H K = K (.ms H.length 0 1 1) (H ++ [.cells (zd8 1)]) := propext Iff.rfl
theorem zzT {H : zaa} {K : Kt} (hK : ∀ X Y, K (.agg [.snil, .ms (H.length + 2) 0 1 1, .snil, .ms (H.length + 3) 0 1 1]) (H ++ [X, Y, .cells zmw, .cells (zd8 1)])) : ACalls tP zm1 [] H K := by
 refine zzS fun hs => ?_
 simp [znx, zaI, zbu]
 rw [bm7]
 simp
 rw [bm8]
 simp
 exact hK _ _
end Go.Proofs.Ytkdmpbhbmmhijaa
namespace Go.Proofs.Ytkdmpbhbmmhijaa
open Go Go.Abs
set_option maxRecDepth 8000
theorem zy1 {n : Nat} {P : Int → Prop} {v : Nat} : (chi n P).getD v false = true ↔ v < n ∧ P v := by
 unfold chi
 rw [List.getD_eq_getElem?_getD, List.getElem?_map]
 by_cases h : v < n
 ·rw [List.getElem?_range h]; simp [h]
 ·rw [List.getElem?_eq_none (by simp; omega)]; simp [h]
@[simp] theorem zP0 (n : Nat) (P : Int → Prop) : (chi n P).length = n := by simp [chi]
theorem ztm (c : Cor) (P : Nat → Int → Prop) (e : Int) : (zcX c P e).length ≤ c.vars.length := by
 unfold zcX
 split
 ·have := zmU (chi c.vars.length (P e.toNat)) (chi c.vars.length (P e.toNat)).length
  simpa [mem, zch] using this
 ·simp
noncomputable def frB (c : Cor) (e : Nat) (st : List Bool) : List Bool := chi c.vars.length fun v => (st.getD v.toNat false = true ∨ Occ c e v) ∧ ¬ Bnd c e v
theorem zsh {c : Cor} {e v : Nat} {st : List Bool} : (frB c e st).getD v false = true ↔ v < c.vars.length ∧ (st.getD v false = true ∨ Occ c e v) ∧ ¬ Bnd c e v := by
 unfold frB
 rw [zy1, Int.toNat_natCast]
@[simp] theorem zQi (c : Cor) (e : Nat) (st : List Bool) : (frB c e st).length = c.vars.length := by simp [frB]
theorem zJU {c : Cor} (hk : zaK c) (hT : TreeC c) : ∀ (m e : Nat), c.exprs.length - e ≤ m → e < c.exprs.length → ∀ (st : List Bool) (H : zaa) (id : Nat), H[id]? = some (boB st) → st.length = c.vars.length → ∀ (K : Kt),
  K (.tup []) (H.set id (boB (frB c e st))) → ACalls tP zin [.agg c.cs, .int .i64 e, .ms id 0 c.vars.length c.vars.length] H K := by
 intro m
 induction m with
 | zero => intro i h1 h2; omega
 | succ m ih =>
 intro e hm hi st H id hid hst K hK
 refine ACalls.out (zJS fun hs => ?_)
 have hil := zbR hid
 have hat : c.cs = [.sl (c.data.map Dat.cs) .none, .sl (c.codes.map Cod.cs) .none, .sl (VT.css c.vars) .none, .sl (c.exprs.map CEx.cs) .none] := rfl
 have hcn := hk.2.1
 have hen := hk.2.2.1
 have hvn := hk.2.2.2.1.1
 obtain ⟨x, y, z, hvv, hx, hy, hz, hce⟩ := zcE hi
 obtain ⟨kv, kb, kk, _, kbl⟩ := zgM hk hi
 have hbk : (c.exprs[e]).binds.length = (c.exprs[e]).kids.length := by have := hT.kb e; rwa [zcQ hi, zbK hi] at this
 have hkr : ∀ x ∈ (c.exprs[e]).kids, 0 ≤ x ∧ x < (c.exprs.length : Int) := fun x hx => hT.kr e x (by rw [zbK hi]; exact hx)
 have hka : zcg c e = (c.exprs[e]).kids := zbK hi
 have hba : zcd c e = (c.exprs[e]).binds := zcQ hi
 have hva : zb6 c e = (c.exprs[e]).vars := zob hi
 have hvr : ∀ x ∈ (c.exprs[e]).vars, 0 ≤ x ∧ x < (c.vars.length : Int) := fun x hx => hT.vr e x (by rw [hva]; exact hx)
 have scB : ∀ st : List Bool, (boB st).sc H.length = true := fun st => by simp [boB, AB.sc, zcR]
 have hset : ∀ st J, (H.set id (boB st) ++ J)[id]? = some (boB st) := fun st J => zaN (zcC _ hid)
 have hss : ∀ st st2 J, (H.set id (boB st) ++ J).set id (boB st2) = H.set id (boB st2) ++ J := fun st st2 J => by rw [zc7 _ (zcC _ hid), List.set_set]
 have hss0 : ∀ st2 J, (H ++ J).set id (boB st2) = H.set id (boB st2) ++ J := fun st2 J => zc7 _ hid
 generalize hE : c.exprs[e] = E at *
 obtain ⟨X, hX⟩ : ∃ X, X = AB.cells [.int .i64 E.op, .int .i64 E.num, .sl (ints E.vars) .none, .sl (rows E.binds) .none, .sl (ints E.kids) .none, x, y, z] := ⟨_, rfl⟩
 have hidJ : ∀ J, (H ++ J)[id]? = some (boB st) := fun J => zaN hid
 have hsX : ∀ st, HSc (H.set id (boB st) ++ [.cells c.cs, X]) := fun st => by
  refine (hs.set (scB _)).append ?_
  have := VT.cs_scA E.ty (H.length + 2)
  rw [hvv] at this
  simp at this
  rw [hX]
  simp [AB.sc, Cor.cs, this]
 simp [zwQ, hat, hi, hE, hce, hx, hy, hz]
 rw [← hat, ← hX]
 refine zeb (st := st) (n := c.vars.length) (hidJ _) hst (by omega) hvr _ ?_
 rw [hss0]
 simp [hX]
 rw [← hX]
 refine zJQ (Inv := fun q t20 H' => ∃ (k : Nat) (st2 : List Bool), k ≤ E.kids.length ∧ q = E.kids.length - k ∧ t20 = .int .i64 k ∧ st2.length = c.vars.length ∧
  (∀ v : Nat, v < c.vars.length → (st2.getD v false = true ↔ (st.getD v false = true ∨ (v : Int) ∈ E.vars ∨ ∃ k' m, k' < k ∧ Kid c e k' m ∧ Occ c m v) ∧ ¬ ((∃ k', k' < k ∧ Bind c e k' v) ∨ ∃ k' m, k' < k ∧ Kid c e k' m ∧ Bnd c m v))) ∧
  H' = H.set id (boB st2) ++ [.cells c.cs, X]) E.kids.length ?_ ?_
 ·intro _
  refine ⟨0, _, by omega, by omega, rfl, by simpa using hst, fun v hvl => ?_, rfl⟩
  rw [zdt (by simpa [hst] using hvr)]
  simp
 rintro q t20 H' ⟨k, st2, hkl, rfl, rfl, hsl2, hI, rfl⟩ hsc hlen hsF Kb hKb
 by_cases hlk : k < E.kids.length
 ·have hra := hkr _ (List.getElem_mem hlk)
  obtain ⟨u, hu⟩ : ∃ u : Nat, E.kids[k] = u := ⟨(E.kids[k]).toNat, by omega⟩
  have hKid : Kid c e k u := by unfold Kid; rw [hka, List.getElem?_eq_getElem hlk, hu]
  have hul := hT.lt hKid
  have hkb : k < E.binds.length := by omega
  have hbl : (E.binds[k]).length ≤ 10 := kbl _ (List.getElem_mem hkb)
  have hbd : ∀ v, Bind c e k v ↔ v ∈ E.binds[k] := fun v => by
   unfold Bind
   rw [hba, List.getElem?_eq_getElem hkb]
   exact ⟨fun ⟨l, h1, h2⟩ => by obtain rfl := Option.some.inj h1; exact h2, fun h => ⟨_, rfl, h⟩⟩
  have hbr : ∀ x ∈ E.binds[k], 0 ≤ x ∧ x < (c.vars.length : Int) := fun x hx => hT.br ((hbd x).2 hx)
  simp [zqo, hlk, zea, hu, hat, hX]
  rw [← hat, ← hX]
  refine zc2 (.tup []) (H.set id (boB (frB c u st2)) ++ [.cells c.cs, X]) (ih u (by omega) hul.2 st2 _ id (hset _ _) hsl2 _ ⟨rfl, hss _ _ _⟩) ?_
  simp [hX, hkb, ziI]
  rw [← hX]
  refine zeb (st := frB c u st2) (n := c.vars.length) (hset _ _) (by simp) (by omega) hbr _ ?_
  rw [hss]
  rw [zaq (by omega) (by omega)]
  refine hKb _ _ ⟨E.kids.length - (k + 1), by omega, Back.here (by simp) (hsX _) ?_ ⟨_, rfl, k + 1, _, by omega, rfl, by simp, by simp, fun v hvl => ?_, rfl⟩⟩
  ·simp [zlk, AV.sc, AV.scV, AV.scA, AV.scB]
   try omega
  ·rw [ztl _ _ (fun x hx => (hbr x hx).1), zsh, hI v hvl]
   have hap : ∀ k' m', Kid c e k' m' → k' < k → Occ c u v → Bind c e k' v ∨ Bnd c m' v → False := fun k' m' h1 h2 h3 h4 => by
    have := hT.occ_apart hKid h1 h3 h4
    omega
   have hkid' : ∀ k', k' < k → ∃ m', Kid c e k' m' := fun k' h => by
    have h1 : k' < E.kids.length := by omega
    have := hkr _ (List.getElem_mem h1)
    exact ⟨(E.kids[k']).toNat, by unfold Kid; rw [hka, List.getElem?_eq_getElem h1]; congr 1; omega⟩
   have huniq : ∀ m', Kid c e k m' → m' = u := fun m' h => by
    unfold Kid at h hKid
    rw [hKid] at h
    have := Option.some.inj h
    omega
   constructor
   ·rintro ⟨⟨_, h1, h2⟩, h3⟩
    refine ⟨?_, ?_⟩
    ·rcases h1 with ⟨h1 | h1 | ⟨k', m', h1, h4⟩, _⟩ | h1
     ·exact .inl h1
     ·exact .inr (.inl h1)
     ·exact .inr (.inr ⟨k', m', by omega, h4⟩)
     ·exact .inr (.inr ⟨k, u, by omega, hKid, h1⟩)
    ·rintro (⟨k', h4, h5⟩ | ⟨k', m', h4, h5, h6⟩)
     ·by_cases h7 : k' < k
      ·rcases h1 with ⟨_, h1⟩ | h1
       ·exact h1 (.inl ⟨k', h7, h5⟩)
       ·obtain ⟨m', hm'⟩ := hkid' k' h7
        exact hap k' m' hm' h7 h1 (.inl h5)
      ·obtain rfl : k' = k := by omega
       exact h3 ((hbd _).1 h5)
     ·by_cases h7 : k' < k
      ·rcases h1 with ⟨_, h1⟩ | h1
       ·exact h1 (.inr ⟨k', m', h7, h5, h6⟩)
       ·exact hap k' m' h5 h7 h1 (.inr h6)
      ·obtain rfl : k' = k := by omega
       obtain rfl := huniq m' h5
       exact h2 h6
   ·rintro ⟨h1, h2⟩
    refine ⟨⟨hvl, ?_, fun h => h2 (.inr ⟨k, u, by omega, hKid, h⟩)⟩, fun h => h2 (.inl ⟨k, by omega, (hbd _).2 h⟩)⟩
    have h3 : ¬ ((∃ k', k' < k ∧ Bind c e k' v) ∨ ∃ k' m, k' < k ∧ Kid c e k' m ∧ Bnd c m v) := by
     rintro (⟨k', h4, h5⟩ | ⟨k', m', h4, h5⟩)
     ·exact h2 (.inl ⟨k', by omega, h5⟩)
     ·exact h2 (.inr ⟨k', m', by omega, h5⟩)
    rcases h1 with h1 | h1 | ⟨k', m', h1, h4, h5⟩
    ·exact .inl ⟨.inl h1, h3⟩
    ·exact .inl ⟨.inr (.inl h1), h3⟩
    ·by_cases h6 : k' < k
     ·exact .inl ⟨.inr (.inr ⟨k', m', h6, h4, h5⟩), h3⟩
     ·obtain rfl : k' = k := by omega
      obtain rfl := huniq m' h4
      exact .inr h5
 ·obtain rfl : k = E.kids.length := by omega
  have hend : st2 = frB c e st := zfP hsl2 fun v hvl => by
   rw [hI v hvl, Int.toNat_natCast, zx5, zxZ, hva]
   have hk1 : ∀ k' m', Kid c e k' m' → k' < E.kids.length := fun k' m' h => by
    unfold Kid at h
    rw [hka] at h
    exact (List.getElem?_eq_some_iff.1 h).1
   have hk2 : ∀ k', Bind c e k' v → k' < E.kids.length := fun k' ⟨l, h, _⟩ => by
    rw [hba] at h
    have := (List.getElem?_eq_some_iff.1 h).1
    omega
   refine and_congr (or_congr Iff.rfl (or_congr Iff.rfl ?_)) (not_congr (or_congr ?_ ?_))
   ·exact ⟨fun ⟨k', m', _, h⟩ => ⟨k', m', h⟩, fun ⟨k', m', h1, h2⟩ => ⟨k', m', hk1 _ _ h1, h1, h2⟩⟩
   ·exact ⟨fun ⟨k', _, h⟩ => ⟨k', h⟩, fun ⟨k', h⟩ => ⟨k', hk2 _ h, h⟩⟩
   ·exact ⟨fun ⟨k', m', _, h⟩ => ⟨k', m', h⟩, fun ⟨k', m', h1, h2⟩ => ⟨k', m', hk1 _ _ h1, h1, h2⟩⟩
  subst hend
  simp [zqo, zaR]
  have : Out (H.set id (boB (frB c e st))).length K (.tup []) (H.set id (boB (frB c e st)) ++ [.cells c.cs, X]) := Out.tup (bs := []) (hs.set (scB _)) hK trivial
  rwa [List.length_set] at this
theorem zGx (c : Cor) (hk : zaK c) (e : Int) (H : zaa) (K : Kt) (hK : K (.sl (ints (zd9 c e)) .none) H) : ACalls tP zm6 [.agg c.cs, .int .i64 e] H K := by
 refine ACalls.out (zGw fun hs => ?_)
 have hat : c.cs = [.sl (c.data.map Dat.cs) .none, .sl (c.codes.map Cod.cs) .none, .sl (VT.css c.vars) .none, .sl (c.exprs.map CEx.cs) .none] := rfl
 have hcn := hk.2.1
 have hen := hk.2.2.1
 have hvn := hk.2.2.2.1.1
 have hN : ¬ (0 ≤ e ∧ e < (c.exprs.length : Int) ∧ vOk c = true) → ∀ J, Out H.length K .snil (H ++ J) := fun h J => by
  rw [zd9, zcX, if_neg h] at hK
  exact zf1 hs hK
 simp [zvv, hat]
 rw [← hat]
 refine zjB c hk _ _ ?_
 cases hv : vOk c with
 | false => simp; exact hN (by simp [hv]) _
 | true =>
 have hT := ziS hk hv
 by_cases g1 : e < 0
 ·simp [hat, g1]; exact hN (by omega) _
 by_cases g2 : (c.exprs.length : Int) ≤ e
 ·simp [hat, g1, g2]; exact hN (by omega) _
 obtain ⟨e, rfl⟩ : ∃ n : Nat, e = n := ⟨e.toNat, by omega⟩
 have hel : e < c.exprs.length := by omega
 have g2' : ¬ c.exprs.length ≤ e := by omega
 rw [zd9, zcX, if_pos ⟨by omega, by omega, hv⟩, Int.toNat_natCast] at hK
 simp [hat, g1, g2']
 simp only [zaY, Int.toNat_natCast, zdA]
 refine ⟨⟨by omega, by omega, by omega, by omega⟩, ?_⟩
 simp
 rw [← hat]
 refine zJU hk hT c.exprs.length e (by omega) hel (List.replicate c.vars.length false) _ (H.length + 1) (by simp [boB]) (by simp) _ ?_
 have hst : frB c e (List.replicate c.vars.length false) = chi c.vars.length (zeu c e) := zfP (by simp) fun v hvl => by
  rw [zsh]
  unfold zeu
  have : (List.replicate c.vars.length false).getD v false = false := by
   rw [List.getD_eq_getElem?_getD, List.getElem?_replicate]
   split <;> rfl
  rw [this]
  simp [hvl]
 rw [hst]
 simp
 refine zwO (st := chi c.vars.length (zeu c e)) (by simp) (by simp) (by omega) _ ?_
 exact Out.one hs .rfl' rfl rfl hK
theorem znE (i : Nat) : ∀ (l : List Int) (st : List Int) (j : Nat), (∀ x ∈ l, 0 ≤ x) → j < st.length → (zdK i l st)[j]? = if (j : Int) ∈ l then some (i : Int) else st[j]?
 | [], st, j, _, _ => by simp [zdK]
 | k :: l, st, j, h, hj => by
  rw [zdK, znE i l _ j (fun x hx => h x (by simp [hx])) (by simpa using hj)]
  have hk := h k (by simp)
  by_cases h1 : (j : Int) ∈ l
  ·simp [h1]
  ·by_cases h2 : (j : Int) = k
   ·have : k.toNat = j := by omega
    simp [h1, h2, this, hj]
   ·have : ¬ k.toNat = j := by omega
    simp [h1, h2, List.getElem?_set, this]
theorem zsY (i : Nat) : ∀ (l : List Int) (st : List Int) (j : Nat), (∀ x ∈ l, 0 ≤ x ∧ x ≠ i) → j < st.length → (zdI i l st)[j]? = if (j : Int) ∈ l then some (st.getD i 0) else st[j]?
 | [], st, j, _, _ => by simp [zdI]
 | k :: l, st, j, h, hj => by
  have hk := h k (by simp)
  have hne : ¬ k.toNat = i := by omega
  rw [zdI, zsY i l _ j (fun x hx => h x (by simp [hx])) (by simpa using hj)]
  have hg : (st.set k.toNat (st.getD i 0)).getD i 0 = st.getD i 0 := by
   rw [List.getD_eq_getElem?_getD, List.getElem?_set, if_neg hne, ← List.getD_eq_getElem?_getD]
  rw [hg]
  by_cases h1 : (j : Int) ∈ l
  ·simp [h1]
  ·by_cases h2 : (j : Int) = k
   ·have : k.toNat = j := by omega
    simp [h1, h2, this, hj]
   ·have : ¬ k.toNat = j := by omega
    simp [h1, h2, List.getElem?_set, this]
theorem zmC {l : List CEx} {e : CEx} {r : List CEx} {i : Nat} (h : e :: r = l.drop i) : ∃ hi : i < l.length, l[i] = e ∧ r = l.drop (i + 1) := by
 have hi : i < l.length := by
  have := congrArg List.length h
  simp at this
  omega
 rw [List.drop_eq_getElem_cons hi] at h
 obtain ⟨h1, h2⟩ := List.cons.inj h
 exact ⟨hi, h1.symm, h2⟩
theorem znF {c : Cor} (hT : TreeC c) : ∀ (l : List CEx) (i : Nat) (st : List Int), l = c.exprs.drop i → st.length = c.exprs.length → ∀ j, j < c.exprs.length → (∀ p k, i ≤ p → ¬ Kid c p k j) → (zcW l i st)[j]? = st[j]?
 | [], i, st, _, _, j, _, _ => rfl
 | e :: l, i, st, h, hst, j, hj, hno => by
  obtain ⟨hi, he, hl⟩ := zmC h
  rw [zcW, znF hT l (i + 1) _ hl (by rw [zg3, hst]) j hj (fun p k h => hno p k (by omega)), znE i e.kids st j (fun x hx => (hT.kr i x (by rw [zbK hi, he]; exact hx)).1) (by omega), if_neg]
  intro hm
  obtain ⟨k, hk1, hk2⟩ := List.mem_iff_getElem.1 hm
  exact hno i k (Nat.le_refl _) (by unfold Kid; rw [zbK hi, he, List.getElem?_eq_getElem hk1, hk2])
theorem zs3 {c : Cor} (hT : TreeC c) : ∀ (l : List CEx) (i : Nat) (st : List Int), l = c.exprs.drop i → st.length = c.exprs.length → ∀ p k j, Kid c p k j → i ≤ p → (zcW l i st)[j]? = some (p : Int)
 | [], i, st, h, _, p, k, j, hk, hp => by
  have := zfb hk.mem
  have h2 := congrArg List.length h
  simp at h2
  omega
 | e :: l, i, st, h, hst, p, k, j, hk, hp => by
  obtain ⟨hi, he, hl⟩ := zmC h
  have hjl := (hT.lt hk).2
  rw [zcW]
  by_cases h1 : p = i
  ·subst h1
   rw [znF hT l (p + 1) _ hl (by rw [zg3, hst]) j hjl (fun p' k' h1 h2 => by have := (hT.uni hk h2).1; omega), znE p e.kids st j (fun x hx => (hT.kr p x (by rw [zbK hi, he]; exact hx)).1) (by omega), if_pos]
   have := hk.mem
   rwa [zbK hi, he] at this
  ·exact zs3 hT l (i + 1) _ hl (by rw [zg3, hst]) p k j hk (by omega)
theorem zz6 (c : Cor) : (zdJ c).length = c.exprs.length := by rw [zdJ, zs2]; simp
theorem zz5 {c : Cor} (hT : TreeC c) {p k j : Nat} (h : Kid c p k j) : (zdJ c)[j]? = some (p : Int) := zs3 hT c.exprs 0 _ rfl (by simp) p k j h (Nat.zero_le _)
theorem zz7 {c : Cor} (hT : TreeC c) {i j : Nat} (h : zb8 c i j) : (zdJ c)[j]? = some (-1) := by
 have hj := hT.blt h
 rw [zdJ, znF hT c.exprs 0 _ rfl (by simp) j hj (fun p k _ hk => hT.nob hk h), List.getElem?_replicate, if_pos hj]
theorem zsZ {c : Cor} (hT : TreeC c) : ∀ (l : List CEx) (i : Nat) (st : List Int), l = c.exprs.drop i → st.length = c.exprs.length → (∀ r b j, zb8 c r b → Sub c b j → (∀ p k, Kid c p k j → p < i) → st[j]? = some (r : Int)) →
  ∀ r b j, zb8 c r b → Sub c b j → (zde l i st)[j]? = some (r : Int)
 | [], i, st, h, hst, hI, r, b, j, hr, hs => by
  refine hI r b j hr hs fun p k hk => ?_
  have := zfb hk.mem
  have h2 := congrArg List.length h
  simp at h2
  omega
 | e :: l, i, st, h, hst, hI, r, b, j, hr, hs => by
  obtain ⟨hi, he, hl⟩ := zmC h
  rw [zde]
  refine zsZ hT l (i + 1) _ hl (by rw [znC, hst]) (fun r b j hr hs hp => ?_) r b j hr hs
  have hjl : j < c.exprs.length := hT.sub_lt hs (hT.blt hr)
  have hkr : ∀ x ∈ e.kids, 0 ≤ x ∧ x ≠ i := fun x hx => by
   have h1 : x ∈ zcg c i := by rw [zbK hi, he]; exact hx
   have h2 := hT.kr i x h1
   obtain ⟨k, hk1, hk2⟩ := List.mem_iff_getElem.1 h1
   have h3 := (hT.lt (p := i) (k := k) (j := x.toNat) (by unfold Kid; rw [List.getElem?_eq_getElem hk1, hk2]; congr 1; omega)).1
   omega
  rw [zsY i e.kids st j hkr (by omega)]
  by_cases hm : (j : Int) ∈ e.kids
  ·rw [if_pos hm]
   obtain ⟨k, hk1, hk2⟩ := List.mem_iff_getElem.1 hm
   have hK : Kid c i k j := by unfold Kid; rw [zbK hi, he, List.getElem?_eq_getElem hk1, hk2]
   have hsi : Sub c b i := by
    cases hs with
    | refl => exact absurd hr (hT.nob hK)
    | step h1 h2 =>
     obtain ⟨rfl, _⟩ := hT.uni hK h2
     exact h1
   have := hI r b i hr hsi fun p k hk => (hT.lt hk).1
   rw [List.getD_eq_getElem?_getD, this]
   rfl
  ·rw [if_neg hm]
   refine hI r b j hr hs fun p k hk => ?_
   have h1 := hp p k hk
   by_cases h2 : p = i
   ·subst h2
    have := hk.mem
    rw [zbK hi, he] at this
    exact absurd this hm
   ·omega
theorem zsW {c : Cor} (hT : TreeC c) (hB : BodP c) : ∀ (l : List Cod) (i : Nat) (st : List Int), l = c.codes.drop i → st.length = c.exprs.length → ∀ r b, zb8 c r b → (ownC l i st)[b]? = if i ≤ r then some (r : Int) else st[b]?
 | [], i, st, h, hst, r, b, hr => by
  have h2 := congrArg List.length h
  simp at h2
  have := hr.1
  rw [ownC, if_neg (by omega)]
 | f :: l, i, st, h, hst, r, b, hr => by
  have hi : i < c.codes.length := by
   have := congrArg List.length h
   simp at this
   omega
  have h' := h
  rw [List.drop_eq_getElem_cons hi] at h'
  obtain ⟨hf, hl⟩ := List.cons.inj h'
  have hbl := hT.blt hr
  rw [ownC, zsW hT hB l (i + 1) _ hl (by simpa using hst) r b hr]
  by_cases h1 : i + 1 ≤ r
  ·rw [if_pos h1, if_pos (by omega)]
  ·rw [if_neg h1]
   by_cases h2 : i = r
   ·subst h2
    obtain ⟨_, hb⟩ := hr
    rw [if_pos (Nat.le_refl _), hf, hb, Int.toNat_natCast, List.getElem?_set_self (by omega)]
   ·rw [if_neg (by omega), List.getElem?_set_ne]
    intro h3
    obtain ⟨b', h4, _⟩ := hB.body i hi
    have : zb8 c i b := ⟨hi, by rw [← hf] at h4 ⊢; omega⟩
    exact h2 (hT.bod this hr)
theorem zz4 {c : Cor} (hT : TreeC c) (hB : BodP c) {r b j : Nat} (hr : zb8 c r b) (hs : Sub c b j) : (zef c)[j]? = some (r : Int) := by
 refine zsZ hT c.exprs 0 _ rfl (by rw [znB]; simp) (fun r b j hr hs hp => ?_) r b j hr hs
 cases hs with
 | refl => rw [zsW hT hB c.codes 0 _ rfl (by simp) r b hr, if_pos (Nat.zero_le _)]
 | step h1 h2 => exact absurd (hp _ _ h2) (by omega)
theorem ztE {c : Cor} (hT : TreeC c) : ∀ (n j : Nat), j ≤ n → j < c.exprs.length → ∃ r b, zb8 c r b ∧ Sub c b j
 | n, j, hn, hj => by
  rcases hT.ex hj with ⟨r, h⟩ | ⟨p, k, h⟩
  ·exact ⟨r, j, h, .refl⟩
  ·have := hT.lt h
   match n, hn with
   | 0, hn => omega
   | n + 1, hn =>
    obtain ⟨r, b, h1, h2⟩ := ztE hT n p (by omega) (by omega)
    exact ⟨r, b, h1, .step h2 h⟩
theorem zx3 {c : Cor} {a b : Nat} {v : Int} (h : Sub c a b) (hv : InS c a v) : InS c b v := by
 induction h with
 | refl => exact hv
 | step _ hk ih => exact .up hk ih
theorem zGt (c : Cor) (hk : zaK c) (e : Int) (H : zaa) (K : Kt) (hK : K (.sl (ints (zds c e)) .none) H) : ACalls tP zm5 [.agg c.cs, .int .i64 e] H K := by
 refine ACalls.out (zGr fun hs => ?_)
 have hat : c.cs = [.sl (c.data.map Dat.cs) .none, .sl (c.codes.map Cod.cs) .none, .sl (VT.css c.vars) .none, .sl (c.exprs.map CEx.cs) .none] := rfl
 have hcn := hk.2.1
 have hen := hk.2.2.1
 have hvn := hk.2.2.2.1.1
 have hN : ¬ (0 ≤ e ∧ e < (c.exprs.length : Int) ∧ vOk c = true) → ∀ J, Out H.length K .snil (H ++ J) := fun h J => by
  rw [zds, zcX, if_neg h] at hK
  exact zf1 hs hK
 simp [zvp, hat]
 rw [← hat]
 refine zjB c hk _ _ ?_
 cases hv : vOk c with
 | false => simp; exact hN (by simp [hv]) _
 | true =>
 have hT := ziS hk hv
 have hB := zmn hv
 by_cases g1 : e < 0
 ·simp [hat, g1]; exact hN (by omega) _
 by_cases g2 : (c.exprs.length : Int) ≤ e
 ·simp [hat, g1, g2]; exact hN (by omega) _
 obtain ⟨e, rfl⟩ : ∃ n : Nat, e = n := ⟨e.toNat, by omega⟩
 have hel : e < c.exprs.length := by omega
 have g2' : ¬ c.exprs.length ≤ e := by omega
 rw [zds, zcX, if_pos ⟨by omega, by omega, hv⟩, Int.toNat_natCast] at hK
 simp [hat, g1, g2']
 simp only [zaY, Int.toNat_natCast, zdA]
 refine ⟨⟨by omega, by omega, by omega, by omega⟩, ?_⟩
 simp
 rw [← hat]
 refine zFY c hk _ _ ?_
 rw [ziE, if_pos hv]
 obtain ⟨r, b, hr, hsub⟩ := ztE hT e e (Nat.le_refl _) hel
 have hrl : r < c.codes.length := hr.1
 have hpl := zz6 c
 have hol : (zef c).length = c.exprs.length := by rw [zef, zsX, znB]; simp
 have hog : (zef c)[e]'(by omega) = r := by
  have := zz4 hT hB hr hsub
  rw [List.getElem?_eq_getElem (by omega)] at this
  exact Option.some.inj this
 obtain ⟨x, y, z, hvv, hx, hy, hz, hce⟩ := zd6 hrl
 obtain ⟨_, kp, kc, _⟩ := zrR hk hrl
 have hpar : ∀ v : Int, Par c r v ↔ v ∈ (c.codes[r]).params ∨ v ∈ (c.codes[r]).capt := fun v => ⟨fun ⟨_, h⟩ => List.mem_append.1 h, fun h => ⟨hrl, List.mem_append.2 h⟩⟩
 have hrp : ∀ x ∈ (c.codes[r]).params, 0 ≤ x ∧ x < (c.vars.length : Int) := fun x hx => hT.pr ((hpar x).2 (.inl hx))
 have hrc : ∀ x ∈ (c.codes[r]).capt, 0 ≤ x ∧ x < (c.vars.length : Int) := fun x hx => hT.pr ((hpar x).2 (.inr hx))
 generalize hF : c.codes[r] = F at *
 have heo : e < (zef c).length := by omega
 simp [hat]
 rw [← hat]
 refine zaw (.sl (ints (zef c)) .none) (fun J => zFM c hk _ _ ⟨by rw [ziD, if_pos hv], rfl⟩) ?_
 simp [zea, heo, hog, hrl, hF, hce, hx, hy, hz, hat]
 rw [← hat]
 obtain ⟨X, hX⟩ : ∃ X, X = AB.cells [.str F.name, .sl (ints F.params) .none, .sl (ints F.capt) .none, x, y, z, .int .i64 F.body] := ⟨_, rfl⟩
 rw [← hX]
 have hsX : ∀ st, HSc (H ++ [.cells c.cs, boB st, X]) := fun st => hs.append (by
  have := VT.cs_scA F.res (H.length + 3)
  rw [hvv] at this
  simp at this
  simp [hX, AB.sc, Cor.cs, boB, zcR, this])
 refine zeb (st := List.replicate c.vars.length false) (n := c.vars.length) (by simp [boB]) (by simp) (by omega) hrp _ ?_
 simp [hX]
 rw [← hX]
 refine zeb (st := zay (List.replicate c.vars.length false) F.params true) (n := c.vars.length) (by simp [boB]) (by simp) (by omega) hrc _ ?_
 simp
 have hst0 : ∀ v : Nat, (zay (zay (List.replicate c.vars.length false) F.params true) F.capt true).getD v false = true ↔ Par c r v := fun v => by
  rw [zdt (by simpa using hrc), zdt (by simpa using hrp), hpar]
  have : (List.replicate c.vars.length false).getD v false = false := by
   rw [List.getD_eq_getElem?_getD, List.getElem?_replicate]
   split <;> rfl
  rw [this]
  simp
 have hl0 : (zay (zay (List.replicate c.vars.length false) F.params true) F.capt true).length = c.vars.length := by simp
 generalize zay (zay (List.replicate c.vars.length false) F.params true) F.capt true = st0 at *
 refine zGp (Inv := fun q t8 H' => ∃ (i : Nat) (st : List Bool), i = q ∧ t8 = .int .i64 i ∧ i < c.exprs.length ∧ Sub c b i ∧ Sub c i e ∧ st.length = c.vars.length ∧ (∀ v : Nat, Par c r v → st.getD v false = true) ∧
  (∀ v : Int, InS c e v ↔ (∃ n : Nat, v = n ∧ st.getD n false = true) ∨ InS c i v) ∧ H' = H ++ [.cells c.cs, boB st, X]) e ?_ ?_
 ·intro _
  refine ⟨e, st0, rfl, rfl, hel, hsub, .refl, hl0, fun v => (hst0 v).2, fun v => ⟨.inr, ?_⟩, rfl⟩
  rintro (⟨n, rfl, h⟩ | h)
  ·exact zx3 hsub (.root hr ((hst0 n).1 h))
  ·exact h
 rintro q t8 H' ⟨i, st, rfl, rfl, hil, hbi, hie, hsl, hps, hI, rfl⟩ hsc hlen hsF Kb hKb
 have hip : i < (zdJ c).length := by omega
 rcases hT.ex hil with ⟨r', hr'⟩ | ⟨p, kk, hkid⟩
 ·have hpi : (zdJ c)[i] = -1 := by
   have := zz7 hT hr'
   rw [List.getElem?_eq_getElem hip] at this
   exact Option.some.inj this
  have hib : i = b := by
   cases hbi with
   | refl => rfl
   | step h1 h2 => exact absurd hr' (hT.nob h2)
  subst hib
  have hend : st = chi c.vars.length (InS c e) := zfP hsl fun v hvl => by
   rw [hI, hT.root_InS hr]
   constructor
   ·exact fun h => .inl ⟨v, rfl, h⟩
   ·rintro (⟨n, h3, h4⟩ | h)
    ·obtain rfl : v = n := by omega
     exact h4
    ·exact hps v h
  subst hend
  simp [zpp, zea, hip, hpi]
  refine zwO (st := chi c.vars.length (InS c e)) (by simp) hsl (by omega) _ ?_
  exact Out.one hs .rfl' rfl rfl hK
 ·have hpi : (zdJ c)[i] = p := by
   have := zz5 hT hkid
   rw [List.getElem?_eq_getElem hip] at this
   exact Option.some.inj this
  have hpl' := hT.lt hkid
  have hpL : p < c.exprs.length := by omega
  obtain ⟨x2, y2, z2, hvv2, hx2, hy2, hz2, hce2⟩ := zcE hpL
  obtain ⟨kv, kb, kks, _, kbl⟩ := zgM hk hpL
  have hbk : (c.exprs[p]).binds.length = (c.exprs[p]).kids.length := by have := hT.kb p; rwa [zcQ hpL, zbK hpL] at this
  have hka : ∀ k m, Kid c p k m ↔ (c.exprs[p]).kids[k]? = some (m : Int) := fun k m => by unfold Kid; rw [zbK hpL]
  have hbd : ∀ k v, Bind c p k v ↔ ∃ l, (c.exprs[p]).binds[k]? = some l ∧ v ∈ l := fun k v => by unfold Bind; rw [zcQ hpL]
  generalize hE : c.exprs[p] = E at *
  obtain ⟨Y, hY⟩ : ∃ Y, Y = AB.cells [.int .i64 E.op, .int .i64 E.num, .sl (ints E.vars) .none, .sl (rows E.binds) .none, .sl (ints E.kids) .none, x2, y2, z2] := ⟨_, rfl⟩
  have hp0 : (0 : Int) ≤ p := by omega
  simp [zpp, zea, hip, hpi, hat, hpL, hE, hce2, hx2, hy2, hz2]
  rw [← hat, ← hY]
  have hsY : ∀ st, HSc (H ++ [.cells c.cs, boB st, X, Y]) := fun st => by
   have := VT.cs_scA E.ty (H.length + 4)
   rw [hvv2] at this
   simp at this
   have h3 := (hsX st).append (J := [Y]) (by simp [hY, AB.sc, this])
   simpa using h3
  refine zGo (Inv := fun q t69 H' => ∃ (k : Nat) (st2 : List Bool), k ≤ E.kids.length ∧ q = E.kids.length - k ∧ t69 = .int .i64 k ∧ st2.length = c.vars.length ∧
   (∀ v : Nat, st2.getD v false = true ↔ st.getD v false = true ∨ ∃ k', k' < k ∧ Kid c p k' i ∧ Bind c p k' v) ∧ H' = H ++ [.cells c.cs, boB st2, X, Y]) E.kids.length ?_ ?_
  ·intro _
   exact ⟨0, st, by omega, by omega, rfl, hsl, fun v => by simp, rfl⟩
  rintro q2 t69 H' ⟨k, st2, hkl, rfl, rfl, hsl2, hI2, rfl⟩ hsc2 hlen2 hsF2 Kb13 hKb13
  by_cases hlk : k < E.kids.length
  ·have back : ∀ st3 : List Bool, st3.length = c.vars.length → (∀ v : Nat, st3.getD v false = true ↔ st2.getD v false = true ∨ (Kid c p k i ∧ Bind c p k v)) →
     zkj (.ptr H.length 0) (.ms (H.length + 1) 0 c.vars.length c.vars.length) (.sl (ints (zdJ c)) .none) (.int .i64 i) (.ptr (H.length + 3) 0) (.int .i64 E.kids.length) (.int .i64 k) (H ++ [.cells c.cs, boB st3, X, Y]) (Out H.length K) Kb Kb13 := fun st3 h1 h2 => by
    simp [zkj, zvr]
    rw [zaq (by omega) (by omega)]
    refine hKb13 _ _ ⟨E.kids.length - (k + 1), by omega, Back.here (by simp) (hsY _) ?_ ⟨_, rfl, k + 1, st3, by omega, rfl, by simp, h1, fun v => ?_, rfl⟩⟩
    ·simp [zkh, AV.sc, AV.scV, AV.scA, AV.scB]
    ·rw [h2, hI2, or_assoc]
     refine or_congr Iff.rfl ⟨?_, ?_⟩
     ·rintro (⟨k', h3, h4⟩ | h3)
      ·exact ⟨k', by omega, h4⟩
      ·exact ⟨k, by omega, h3⟩
     ·rintro ⟨k', h3, h4⟩
      by_cases h5 : k' < k
      ·exact .inl ⟨k', h5, h4⟩
      ·obtain rfl : k' = k := by omega
       exact .inr h4
   by_cases heq : E.kids[k] = (i : Int)
   ·have hK : Kid c p k i := by rw [hka, List.getElem?_eq_getElem hlk, heq]
    have hkb : k < E.binds.length := by omega
    have hbl : (E.binds[k]).length ≤ 10 := kbl _ (List.getElem_mem hkb)
    have hbr : ∀ x ∈ E.binds[k], 0 ≤ x ∧ x < (c.vars.length : Int) := fun x hx => hT.br ((hbd k x).2 ⟨_, List.getElem?_eq_getElem hkb, hx⟩)
    simp [zkg, hlk, hY, zea, ziI, hkb, heq]
    rw [← hY]
    refine zeb (st := st2) (n := c.vars.length) (by simp [boB]) hsl2 (by omega) hbr _ ?_
    have := back (zay st2 E.binds[k] true) (by simpa using hsl2) fun v => by
     rw [zdt (by simpa [hsl2] using hbr)]
     refine or_congr Iff.rfl ⟨fun h => ⟨hK, (hbd k v).2 ⟨_, List.getElem?_eq_getElem hkb, h⟩⟩, fun ⟨_, h⟩ => ?_⟩
     obtain ⟨l, h1, h2⟩ := (hbd k v).1 h
     rw [List.getElem?_eq_getElem hkb] at h1
     obtain rfl := Option.some.inj h1
     exact h2
    simpa using this
   ·have heq' : (E.kids[k] == (i : Int)) = false := by simpa using heq
    simp [zkg, hlk, hY, zea, heq, heq']
    rw [← hY]
    exact back st2 hsl2 fun v => by
     constructor
     ·exact .inl
     ·rintro (h | ⟨h, _⟩)
      ·exact h
      ·rw [hka, List.getElem?_eq_getElem hlk] at h
       exact absurd (Option.some.inj h) heq
  ·obtain rfl : k = E.kids.length := by omega
   simp [zkg, zea, hip, hpi]
   have hkb : ∀ v, Bind c p kk v ↔ ∃ k', k' < E.kids.length ∧ Kid c p k' i ∧ Bind c p k' v := fun v => ⟨fun h => ⟨kk, (List.getElem?_eq_some_iff.1 ((hka kk i).1 hkid)).1, hkid, h⟩, fun ⟨k', _, h1, h2⟩ => by
    obtain ⟨_, rfl⟩ := hT.uni h1 hkid
    exact h2⟩
   refine hKb _ _ ⟨p, hpl'.1, Back.at (J := [Y]) (H2 := H ++ [.cells c.cs, boB st2, X]) (by simp) (by simp) (hsX _) ?_ ⟨_, rfl, p, st2, rfl, rfl, hpL, ?_, ?_, hsl2, fun v hv => (hI2 v).2 (.inl (hps v hv)), fun v => ?_, rfl⟩⟩
   ·simp [zki, AV.sc, AV.scV, AV.scA, AV.scB]
   ·cases hbi with
    | refl => exact absurd hr (hT.nob hkid)
    | step h1 h2 =>
     obtain ⟨rfl, _⟩ := hT.uni h2 hkid
     exact h1
   ·exact Sub.trans (.step .refl hkid) hie
   ·rw [hI v, hT.kid_InS hkid]
    constructor
    ·rintro (⟨n, rfl, h⟩ | h | h)
     ·exact .inl ⟨n, rfl, (hI2 n).2 (.inl h)⟩
     ·exact .inr h
     ·have h3 := hT.br h
      obtain ⟨n, rfl⟩ : ∃ n : Nat, v = n := ⟨v.toNat, by omega⟩
      exact .inl ⟨n, rfl, (hI2 n).2 (.inr ((hkb n).1 h))⟩
    ·rintro (⟨n, rfl, h⟩ | h)
     ·rcases (hI2 n).1 h with h | h
      ·exact .inl ⟨n, rfl, h⟩
      ·exact .inr (.inr ((hkb n).2 h))
     ·exact .inr (.inl h)
end Go.Proofs.Ytkdmpbhbmmhijaa
namespace Go.Abs
open Go Go.RowKit
variable {P : Program} {B : Nat} {w : World} {G : Gh} {H : zaa}
theorem HRel.frz (h : HRel B w G H) {id : Nat} {cs : List AV} (hH : H[id]? = some (.cells cs)) :
  ∃ G', Ext B w G w G' ∧ HRel B w G' (H.set id .dead) ∧ ∃ b, G.μ[id]? = some (.blk b) ∧ G'.L b = cs.length ∧ ∃ (vs : Array Value) (e : TypeId), w.heap[b]? = some (.cells vs e (0, 0)) ∧ All2 (ARel w G) vs.toList cs := by
 have hlt : id < G.μ.length := by rw [h.len]; exact (List.getElem?_eq_some_iff.1 hH).1
 obtain ⟨gi, hgi⟩ : ∃ gi, G.μ[id]? = some gi := ⟨_, List.getElem?_eq_getElem hlt⟩
 have hok := h.ok id _ _ hH hgi
 cases gi with
 | gap => exact hok.elim
 | own v s n => exact hok.elim
 | blk b =>
  obtain ⟨hB, hL, vs, e, hw, hcs⟩ := hok
  have hl : vs.size = cs.length := by simpa using hcs.length
  have he : Ext B w G w ⟨fun x => if x = b then cs.length else G.L x, G.μ⟩ :=
   ⟨Nat.le_refl _, Below.refl _ _, fun x => by by_cases hx : x = b <;> simp [hx, hL], fun _ _ _ => rfl, fun _ gi h => ⟨gi, h, gi.le_refl⟩⟩
  refine ⟨_, he, ⟨by simp [h.len], ?_, h.dist, fun x hx => ?_, h.lt, h.base⟩, b, hgi, by simp, vs, e, hw, hcs⟩
  ·intro id' ab gi h1 h2
   by_cases hid : id' = id
   ·subst hid
    rw [List.getElem?_set_self (List.getElem?_eq_some_iff.1 hH).1] at h1
    cases h1
    have h2 : G.μ[id']? = some gi := h2
    rw [hgi] at h2
    cases h2
    exact ⟨vs, e, (0, 0), hw, by simp [hl]⟩
   ·rw [List.getElem?_set_ne (fun h => hid h.symm)] at h1
    refine (h.ok id' ab gi h1 h2).keep he (fun x hx => ⟨rfl, ?_⟩)
    have : ¬ x = b := fun hxb => hid (h.dist id' id gi _ b h2 hgi (by rw [hx, hxb]) rfl)
    simp [this]
  ·have := h.lt id _ b hgi rfl
   have h3 : ¬ x = b := by omega
   simp [h3, h.fresh x hx]
inductive FzA (id off len cap : Nat) (es : List (List AV)) : AV → AV → Prop
 | refl (a : AV) : FzA id off len cap es a a
 | ms : FzA id off len cap es (.ms id off len cap) (.sl es .none)
inductive FzT (id off len cap : Nat) (es : List (List AV)) : AV → AV → Prop
 | one {a b : AV} (h : FzA id off len cap es a b) : FzT id off len cap es a b
 | agg {asx bs : List AV} (h : All2 (FzA id off len cap es) asx bs) : FzT id off len cap es (.agg asx) (.agg bs)
theorem FzA.rel {id off len cap size : Nat} {cs : List AV} {es : List (List AV)} (hfit : off + len * size ≤ cs.length)
  (hp : zbc ((cs.drop off).take (len * size)) = some es.flatten) (hlen : es.length = len) (hsz : ∀ c ∈ es, c.length = size) (hcap : len ≤ cap) {G' : Gh} (hE : Ext B w G w G') {b : Nat} (hμ : G.μ[id]? = some (.blk b)) (hLb : G'.L b = cs.length)
  {vs0 : Array Value} {e : TypeId} (hw : w.heap[b]? = some (.cells vs0 e (0, 0))) (hcs : All2 (ARel w G) vs0.toList cs) {v : Value} {a b' : AV} (hab : FzA id off len cap es a b') (hr : ARel w G v a) : ARel w G' v b' := by
 cases hab with
 | refl a => exact hE.arel hr
 | ms =>
  obtain ⟨b2, hb2, rfl⟩ := hr
  rw [hμ] at hb2
  cases hb2
  show DRel w G'.L _ _
  subst hlen
  by_cases hne : es = []
  ·subst hne; exact .slE _ _
  ·have hl := hcs.length
   have hd := zfh ((hcs.drop off).take (es.length * size)) hp
   refine DRel.of_flat_at (zs := (vs0.toList.drop off).take (es.length * size)) hsz hne hcap (by rw [hLb]; exact hfit) (hd.mono fun _ _ => hE.drel) ?_
   intro j u hj
   rw [List.getElem?_take] at hj
   split at hj
   ·simp only [World.cell?, hw]
    simpa using hj
   ·cases hj
theorem zmg {R R' : Value → AV → Prop} {S : AV → AV → Prop} (h : ∀ v a b, S a b → R v a → R' v b) {vs : List Value} {asx bs : List AV} (hr : All2 R vs asx) (hs : All2 S asx bs) : All2 R' vs bs :=
 All2.of_get (hr.length.trans hs.length) fun i x y hx hy => by
  obtain ⟨a, ha, hxa⟩ := All2.get' hr hx
  obtain ⟨y', hy', hay⟩ := All2.get' hs ha
  rw [hy] at hy'
  cases hy'
  exact h _ _ _ hay hxa
theorem ACalls.frz {f : FuncId} {args args' : List AV} {K : Kt} (id off len cap size : Nat) (cs : List AV) (es : List (List AV)) (hH : H[id]? = some (.cells cs)) (hfit : off + len * size ≤ cs.length)
  (hp : zbc ((cs.drop off).take (len * size)) = some es.flatten) (hlen : es.length = len) (hsz : ∀ c ∈ es, c.length = size) (hcap : len ≤ cap) (ha : All2 (FzT id off len cap es) args args')
  (h : ACalls P f args' (H.set id .dead) K) : ACalls P f args H K := by
 intro B w G vs hR hv
 obtain ⟨G', hE, hR', b, hμ, hLb, vs0, e, hw, hcs⟩ := hR.frz hH
 have h1 : ∀ v a b, FzA id off len cap es a b → ARel w G v a → ARel w G' v b := fun v a b' hab hr => FzA.rel hfit hp hlen hsz hcap hE hμ hLb hw hcs hab hr
 have h2 : ∀ v a b, FzT id off len cap es a b → TRel w G v a → TRel w G' v b := by
  intro v a b' hab hr
  cases hab with
  | one hab =>
   cases hab with
   | refl a => exact hE.trel hr
   | ms => exact TRel.of_v (VRel.of_a (h1 _ _ _ .ms hr))
  | agg hab =>
   obtain ⟨us, hu, hr⟩ := hr
   exact ⟨us, hu, zmg h1 hr hab⟩
 refine (h B w G' vs hR' (zmg h2 hv ha)).mono fun e w' ⟨v, r, H', G'', k1, k2, k3, k4, k5⟩ => ⟨v, r, H', G'', k1, hE.trans k2, k3, k4, k5⟩
theorem AWp.frz {c : Code} {Q : AExit → List AV → zaa → Prop} {F : List AV} (id off len cap size : Nat) (cs : List AV) (es : List (List AV)) (id2 : Nat) (cs2 cs2' : List AV) (hH : H[id]? = some (.cells cs)) (hfit : off + len * size ≤ cs.length)
  (hp : zbc ((cs.drop off).take (len * size)) = some es.flatten) (hlen : es.length = len) (hsz : ∀ c ∈ es, c.length = size) (hcap : len ≤ cap) (hne : id ≠ id2) (hH2 : H[id2]? = some (.cells cs2)) (ha : All2 (FzA id off len cap es) cs2 cs2')
  (h : AWp P c Q F ((H.set id .dead).set id2 (.cells cs2'))) : AWp P c Q F H := by
 intro B w G a hR hF hd
 obtain ⟨G', hE, hR', b, hμ, hLb, vs0, e, hw, hcs⟩ := hR.frz hH
 have h1 : ∀ v a b, FzA id off len cap es a b → ARel w G v a → ARel w G' v b := fun v a b' hab hr => FzA.rel hfit hp hlen hsz hcap hE hμ hLb hw hcs hab hr
 have hlt2 : id2 < G.μ.length := by rw [hR.len]; exact (List.getElem?_eq_some_iff.1 hH2).1
 have hH2' : (H.set id .dead)[id2]? = some (.cells cs2) := by rw [List.getElem?_set_ne hne]; exact hH2
 have hR2 : HRel B w G' ((H.set id .dead).set id2 (.cells cs2')) := by
  refine ⟨by simp [hR'.len], ?_, hR'.dist, hR'.fresh, hR'.lt, hR'.base⟩
  intro i ab gi k1 k2
  by_cases hi : i = id2
  ·subst hi
   rw [List.getElem?_set_self (List.getElem?_eq_some_iff.1 hH2').1] at k1
   cases k1
   have hok := hR'.ok i _ _ hH2' k2
   have hgi : G.μ[i]? = some gi := by
    obtain ⟨gi0, hgi0⟩ : ∃ gi0, G.μ[i]? = some gi0 := ⟨_, List.getElem?_eq_getElem hlt2⟩
    have hok0 := hR.ok i _ _ hH2 hgi0
    obtain ⟨gi1, hg1, hle⟩ := hE.ids i gi0 hgi0
    rw [k2] at hg1
    cases hg1
    cases gi0 with
    | blk x => cases gi with
     | blk y => obtain rfl : x = y := hle; exact hgi0
     | own v s n => exact hle.elim
     | gap => exact hle.elim
    | own v s n => exact hok0.elim
    | gap => exact hok0.elim
   have hok0 := hR.ok i _ _ hH2 hgi
   cases gi with
   | blk x =>
    obtain ⟨k3, k4, vs, e', k5, k6⟩ := hok
    obtain ⟨_, _, vs1, e1, k7, k8⟩ := hok0
    rw [k5] at k7
    cases k7
    exact ⟨k3, k4, vs, e', k5, zmg h1 k8 ha⟩
   | own v s n => exact hok.elim
   | gap => exact hok.elim
  ·rw [List.getElem?_set_ne (fun h => hi h.symm)] at k1
   exact hR'.ok i ab gi k1 k2
 refine wp_mono (h B w G' a hR2 (hF.ext hE) hd) fun e a' w' hp => ?_
 obtain ⟨F', H', G'', e', rfl, k1, k2, k3, k4, k5⟩ := hp
 exact ⟨F', H', G'', e', rfl, hE.trans k1, k2, k3, k4, k5⟩
theorem AWp.seq_of {x y : Code} {Q : AExit → List AV → zaa → Prop} {S : List AV → zaa → Prop} {F : List AV} (h : AWp P x (zei S Q) F H) (hS : ∀ F H, S F H → AWp P y Q F H) : AWp P (.seq x y) Q F H := by
 intro B w G a hH hF hd
 refine wp_seq (wp_mono (h B w G a hH hF hd) fun e a' w' hp => ?_)
 obtain ⟨F', H', G', e', rfl, h1, h2, h3, h4, h5⟩ := hp
 cases e' with
 | normal =>
  refine wp_mono (hS F' H' h5 B w' G' a' h2 h3 h4) fun e a'' w'' hp => ?_
  obtain ⟨F'', H'', G'', e'', rfl, k1, k2, k3, k4, k5⟩ := hp
  exact ⟨F'', H'', G'', e'', rfl, h1.trans k1, k2, k3, k4, k5⟩
 | exit id => exact Post.of (e := .exit id) h1 h2 h3 h4 h5
 | ret => exact Post.of (e := .ret) h1 h2 h3 h4 h5
theorem zyd {f : FuncId} {fn : Func} {c : Code} {args : List AV} {K : AV → zaa → Prop} (hf : P.funcs[f]? = some fn) (hb : fn.body = some c)
  (h : HSc H → AWp P c (zas P fn.results.toList K) (args ++ List.replicate (fn.ntmps - args.length) .unk) H) : ACalls P f args H K := by
 intro B w G vs hH hv
 refine calls_of_wp hf hb ?_
 have hF : FRel w G (vs ++ Array.replicate (fn.ntmps - vs.size) undef) (args ++ List.replicate (fn.ntmps - args.length) .unk) := by
  unfold FRel
  have hl : vs.size = args.length := by simpa using hv.length
  rw [hl]
  simpa using hv.append (All2.replicate (R := TRel w G) (a := undef) (b := .unk) trivial (fn.ntmps - args.length))
 refine wp_mono (h hH.sc B w G ⟨_, []⟩ hH hF rfl) fun e a' w' hp => ?_
 obtain ⟨F', H', G', e', rfl, h1, h2, h3, h4, h5⟩ := hp
 have fin : (zd2 P fn.results.toList F' H' fun vs => zaR vs (K · H')) → ∃ v, (results fn a'.tmps).run P w' = .ok v w' ∧ ∃ v' r H'' G'', Ending.returned v = .returned v' ∧ Ext B w G w' G'' ∧ HRel B w' G'' H'' ∧ TRel w' G'' v' r ∧ K r H'' := by
  intro h5
  obtain ⟨us, asx, k1, k2, k3⟩ := zg5 h2 h3 fn.results.toList _ h5
  have hres : (results fn a'.tmps).run P w' = .ok (if hh : us.toArray.size = 1 then us.toArray[0] else .tuple us.toArray) w' := by
   rw [znJ, Sem.run_bind, Array.mapM_eq_mapM_toList, Sem.run_map, k1]
   rfl
  refine ⟨_, hres, (if hh : us.toArray.size = 1 then us.toArray[0] else .tuple us.toArray), ?_⟩
  have hl := k2.length
  unfold zaR at k3
  split at k3
  ·rename_i r
   match us, hl, k2, hres with
   | [u], _, k2, _ => exact ⟨r, H', G', rfl, h1, h2, by simpa using k2.1, k3⟩
  ·rename_i hne
   refine ⟨.tup asx, H', G', rfl, h1, h2, ?_, k3.2⟩
   have hsz : ¬ us.toArray.size = 1 := by
    intro hs
    have : asx.length = 1 := by rw [← hl]; simpa using hs
    match asx, this with
    | [x], _ => exact hne x rfl
   rw [dif_neg hsz]
   exact ⟨us.toArray, rfl, zdj (p := AV.isV) (fun _ _ => zh0) k2 k3.1⟩
 cases e' with
 | normal => exact ⟨h4, fin h5⟩
 | ret => exact ⟨h4, fin h5⟩
 | exit id => exact h5.elim

end Go.Abs
namespace Go.Proofs.Ytkdmpbhbmmhijaa
open Go Go.Abs
set_option maxRecDepth 100000
def zdB : Code → Code | .seq a _ => a | c => c
def zbJ : Code → Code | .seq _ b => b | c => c
noncomputable def scT : Code := zbJ (zbJ (zbJ (zbJ (zbJ zcZ))))
def znN (t0 t1 t2 t5 : AV) (H : zaa) (K : Kt) : Prop :=
 zac H (fun K' => zai true 4 t2 H (K' · H)) fun t18 =>
 zac H (fun K' => K' t1 H) fun t19 =>
 zau H (fun H K' => ACalls tP zii [t18, t19] H K') fun t20 =>
 zac H (fun K' => zai true 4 t2 H (K' · H)) fun t21 =>
 zac H (fun K' => K' t1 H) fun t22 =>
 zau H (fun H K' => ACalls tP zm5 [t21, t22] H K') fun t23 =>
 zau H (fun H K' => ACalls tP zih [t20, t23] H K') fun t24 =>
 zac H (fun K' => K' t24 H) fun t25 =>
 zab t25 true H (fun K' => zac H (fun K'' => zai true 4 t2 H (K'' · H)) (K' · H)) fun t26 H =>
 zab t25 true H (fun K' => zac H (fun K'' => K'' t1 H) (K' · H)) fun t27 H =>
 zab t25 true H (fun K' => zau H (fun H K'' => ACalls tP zm4 [t26, t27] H K'') (K' · H)) fun t28 H =>
 zab t25 true H (fun K' => zac H (fun K'' => zai true 4 t2 H (K'' · H)) (K' · H)) fun t29 H =>
 zab t25 true H (fun K' => zac H (fun K'' => K'' t1 H) (K' · H)) fun t30 H =>
 zab t25 true H (fun K' => zau H (fun H K'' => ACalls tP zm6 [t29, t30] H K'') (K' · H)) fun t31 H =>
 zab t25 true H (fun K' => zau H (fun H K'' => ACalls tP zih [t28, t31] H K'') (K' · H)) fun t32 H =>
 zac H (fun K' => zah t25 t32 (.bool false) (K' · H)) fun t33 =>
 zac H (fun K' => K' t33 H) fun t34 =>
 zab t34 true H (fun K' => zac H (fun K'' => zai true 4 t5 H (K'' · H)) (K' · H)) fun t35 H =>
 zab t34 true H (fun K' => zau H (fun H K'' => ACalls tP zii [t35, (.int .i64 0)] H K'') (K' · H)) fun t36 H =>
 zab t34 true H (fun K' => zac H (fun K'' => zak 1 t36 (K'' · H)) (K' · H)) fun t37 H =>
 zab t34 true H (fun K' => zac H (fun K'' => zad .eql false t37 (.int .i64 1) (K'' · H)) (K' · H)) fun t38 H =>
 zac H (fun K' => zah t34 t38 (.bool false) (K' · H)) fun t39 =>
 zac H (fun K' => K' t39 H) fun t4 =>
 K t4 H
def znM (t0 t1 : AV) (H : zaa) (K : Kt) : Prop :=
 zaD t0 H fun t2 H =>
 zae true 4 t2 H fun t6 =>
 ACalls tP zmV [t6] H fun t7 H =>
 aUn .not t7 fun t8 =>
 zag t8
 (K (.bool true) H)
 (ACalls tP zm1 [] H fun t9 H =>
 zaA [.snil, .snil, .snil, .snil] H fun t5 H =>
 zar 4 t5 t9 H fun H =>
 zaf 1 t5 fun t10 =>
 zae false 1 t10 H fun t11 =>
 zaz 1 [(.int .i64 0)] 1 [(0, (.int .i64 0))] fun t12 =>
 zaj 7 t11 (.int .i64 0) fun t13 =>
 zaf 1 t13 fun t14 =>
 zar 1 t14 t12 H fun H =>
 zaI [(.int .i64 0), (.int .i64 0), .snil] [(0, 1), (1, 1), (2, 1)] [(0, (.int .i64 1))] fun t15 =>
 zaz 3 [(.int .i64 0), (.int .i64 0), .snil] 1 [(0, t15)] fun t16 =>
 zaf 2 t5 fun t17 =>
 zar 1 t17 t16 H fun H =>
 AWp tP scT (zas tP zeq K) [t0, t1, t2, .unk, .bool false, t5, t6, t7, t8, t9, t10, t11, t12, t13, t14, t15, t16, t17, .unk, .unk, .unk, .unk, .unk, .unk, .unk, .unk, .unk, .unk, .unk, .unk, .unk, .unk, .unk, .unk, .unk, .unk, .unk, .unk, .unk, .unk] H)
theorem zAY (t0 t1 t2 t5 t6 t7 t8 t9 t10 t11 t12 t13 t14 t15 t16 t17 : AV) (H : zaa) (K : Kt) : awp tP zgo scT (zas tP zeq K) [t0, t1, t2, .unk, .bool false, t5, t6, t7, t8, t9, t10, t11, t12, t13, t14, t15, t16, t17, .unk, .unk, .unk, .unk, .unk, .unk, .unk, .unk, .unk, .unk, .unk, .unk, .unk, .unk, .unk, .unk, .unk, .unk, .unk, .unk, .unk, .unk] H = znN t0 t1 t2 t5 H K := by kernel_rfl
theorem zAZ {t0 t1 t2 t5 t6 t7 t8 t9 t10 t11 t12 t13 t14 t15 t16 t17 : AV} {H : zaa} {K : Kt} (h : znN t0 t1 t2 t5 H K) : AWp tP scT (zas tP zeq K) [t0, t1, t2, .unk, .bool false, t5, t6, t7, t8, t9, t10, t11, t12, t13, t14, t15, t16, t17, .unk, .unk, .unk, .unk, .unk, .unk, .unk, .unk, .unk, .unk, .unk, .unk, .unk, .unk, .unk, .unk, .unk, .unk, .unk, .unk, .unk, .unk] H :=
 zbb _ _ _ _ ((zAY t0 t1 t2 t5 t6 t7 t8 t9 t10 t11 t12 t13 t14 t15 t16 t17 H K).mpr h)
theorem zA1 : zcZ = .seq (zdB zcZ) (.seq (zdB (zbJ zcZ)) (.seq (zdB (zbJ (zbJ zcZ))) (.seq (zdB (zbJ (zbJ (zbJ zcZ)))) (.seq (zdB (zbJ (zbJ (zbJ (zbJ zcZ))))) scT)))) := by kernel_rfl
theorem zAX (t0 t1 : AV) (H : zaa) (K : Kt) :
  awp tP zgo (zdB zcZ) (zei (fun F H =>
   awp tP zgo (zdB (zbJ zcZ)) (zei (fun F H =>
    awp tP zgo (zdB (zbJ (zbJ zcZ))) (zei (fun F H =>
     awp tP zgo (zdB (zbJ (zbJ (zbJ zcZ)))) (zei (fun F H =>
      awp tP zgo (zdB (zbJ (zbJ (zbJ (zbJ zcZ))))) (zei (fun F H => AWp tP scT (zas tP zeq K) F H) (zas tP zeq K)) F H)
     (zas tP zeq K)) F H) (zas tP zeq K)) F H) (zas tP zeq K)) F H) (zas tP zeq K)) (t0 :: t1 :: List.replicate 38 .unk) H = znM t0 t1 H K := by kernel_rfl
theorem zA2 {t0 t1 : AV} {H : zaa} {K : Kt} (h : HSc H → znM t0 t1 H K) : ACalls tP zsH [t0, t1] H K := by
 refine zyd (c := zcZ) Try.func9 (by kernel_rfl) fun hs => ?_
 have h := (zAX t0 t1 H K).mpr (h hs)
 rw [zA1]
 refine AWp.seq_of (zbb _ _ _ _ h) fun F H h => ?_
 refine AWp.seq_of (zbb _ _ _ _ h) fun F H h => ?_
 refine AWp.seq_of (zbb _ _ _ _ h) fun F H h => ?_
 refine AWp.seq_of (zbb _ _ _ _ h) fun F H h => ?_
 exact AWp.seq_of (zbb _ _ _ _ h) fun F H h => h
def d1 : Cor := ⟨[], [⟨[102], [0], [], sm 1, 0⟩], [sm 1], [⟨3, 1, [], [], [], sm 1⟩]⟩
def zgD : List AV := [.str [102], .sl [[.int .i64 0]] .none, .sl [] .none, .int .i64 1, .int .i64 0, .sl [] .none, .int .i64 0]
theorem zrY : d1.cs = [.sl [] .none, .sl [zgD] .none, .sl [(sm 1).cs] .none, .sl [zd8 1] .none] := rfl
theorem zzc : zaK d1 := by
 refine ⟨⟨by simp [d1], by simp [d1]⟩, by simp [d1], by simp [d1], ⟨by simp [d1], ?_⟩, ?_, ?_⟩
 ·intro t ht
  simp [d1] at ht
  subst ht
  simp [sm, VT.nodes, VT.nodesL]
 ·intro f hf
  simp [d1] at hf
  subst hf
  exact ⟨by simp, by simp, by simp, by simp [sm, VT.nodes, VT.nodesL]⟩
 ·intro e he
  simp [d1] at he
  subst he
  exact ⟨by simp, by simp, by simp, by simp [sm, VT.nodes, VT.nodesL], by simp⟩
theorem zza : zdh d1 := by
 intro i hi
 have h0 : i = 0 := by simp [d1] at hi; omega
 subst h0
 refine ⟨hi, fun _ => ⟨fun j hj => by omega, fun j hj => by omega, rfl⟩, by simp [d1], by simp [d1, zax, sm, VT.nodes, VT.nodesL, zbm, zbn, za2], 0, rfl, by simp [d1], by simp [d1, za7]⟩
theorem zzb : ProgV d1 := by
 refine ⟨rfl, ?_, zza, ⟨?_, ?_, ?_, rfl⟩, ⟨?_, ?_, ?_⟩, ?_, ?_, ?_⟩
 ·simp [d1, zep, zax, sm, VT.nodes, VT.nodesL, zbm, zbn, za2]
 ·intro i h
  have h0 : i = 0 := by simp [d1] at h; omega
  subst h0; rfl
 ·intro i h k hk
  have h0 : i = 0 := by simp [d1] at h; omega
  subst h0
  simp [d1] at hk
 ·simp [d1, zbH]
 ·intro x hx; simp [d1, zbP] at hx; subst hx; simp [d1]
 ·simp [d1, zbP]
 ·simp [d1, zbP]
 ·simp [d1, zcv, za0, zbA]
 ·intro i h
  have h0 : i = 0 := by simp [d1] at h; omega
  subst h0
  simp [d1, progRule, za6, zaC, za7]
 ·intro i h hn
  have h0 : i = 0 := by simp [d1] at h; omega
  subst h0
  simp [d1] at hn
theorem zzd : vOk d1 = true := (zhc d1).2 zzb
theorem zze : zds d1 0 = [0] := by
 have h : InS d1 0 0 := .root (i := 0) ⟨by simp [d1], rfl⟩ ⟨by simp [d1], by simp [d1]⟩
 rw [zds, zcX, if_pos ⟨by omega, by simp [d1], zzd⟩]
 have : chi d1.vars.length (InS d1 (0 : Int).toNat) = [true] := (zfP (by simp [d1]) fun v hv => by
  have h0 : v = 0 := by simp [d1] at hv; omega
  subst h0
  simpa using h).symm
 rw [this]
 rfl
theorem zx1 (c : Cor) (h1 : c.data.length ≤ 9223372036854775807) (h2 : c.vars.length ≤ 9223372036854775807) (v : Int) : ACalls tP zsH [.agg c.cs, .int .i64 v] [] fun r _ => r = .bool true := by
 refine zA2 fun hs => ?_
 have hat : c.cs = [.sl (c.data.map Dat.cs) .none, .sl (c.codes.map Cod.cs) .none, .sl (VT.css c.vars) .none, .sl (c.exprs.map CEx.cs) .none] := rfl
 simp [znM, hat]
 rw [← hat]
 refine zDb c h1 h2 _ _ fun b hb => ?_
 cases b with
 | false => simp
 | true =>
 have hk := hb rfl
 have hvn := hk.2.2.2.1.1
 simp [hat]
 rw [← hat]
 refine zzT fun X Y => ?_
 simp [zaz, zaI, zbu, AV.known, zmw]
 change AWp tP scT _ _ [AB.cells c.cs, X, Y, .cells [.str [102], .sl [[.int .i64 0]] .full, .sl [] .none, .int .i64 1, .int .i64 0, .sl [] .none, .int .i64 0], .cells (zd8 1), .cells [.snil, .ms 3 0 1 1, .sl [(sm 1).cs] .full, .ms 4 0 1 1]]
 refine AWp.frz 3 0 1 1 7 _ [zgD] 5 _ [.snil, .sl [zgD] .none, .sl [(sm 1).cs] .full, .ms 4 0 1 1] rfl (by simp) rfl rfl (by simp [zgD]) (Nat.le_refl _) (by omega) rfl ⟨.refl _, .ms, .refl _, .refl _, trivial⟩ ?_
 refine AWp.frz 4 0 1 1 8 (zd8 1) [zd8 1] 5 _ [.snil, .sl [zgD] .none, .sl [(sm 1).cs] .full, .sl [zd8 1] .none] rfl (by simp [zd8]) rfl rfl (by simp [zd8]) (Nat.le_refl _) (by omega) rfl ⟨.refl _, .refl _, .refl _, .ms, trivial⟩ ?_
 refine AWp.reCell (id := 5) d1.cs rfl ⟨.snil, .refl _, .sl _ _, .refl _, trivial⟩ ?_
 refine zAZ ?_
 have hsl : (zds c v).length ≤ 1000000 := Nat.le_trans (ztm c (InS c) v) (by omega)
 have hfl : (zd9 c v).length ≤ 1000000 := Nat.le_trans (ztm c (zeu c) v) (by omega)
 simp [znN, hat]
 rw [← hat]
 refine zaw (.sl (ints (zds c v)) .none) (fun J => zvh c hk v _ _ ⟨rfl, rfl⟩) ?_
 refine zaw (.sl (ints (zds c v)) .none) (fun J => zGt c hk v _ _ ⟨rfl, rfl⟩) ?_
 refine zaw (.bool true) (fun J => zro _ _ hsl _ _ ⟨by simp, rfl⟩) ?_
 simp [hat]
 rw [← hat]
 refine zaw (.sl (ints (zd9 c v)) .none) (fun J => zGl c hk v _ _ ⟨rfl, rfl⟩) ?_
 simp [hat]
 rw [← hat]
 refine zaw (.sl (ints (zd9 c v)) .none) (fun J => zGx c hk v _ _ ⟨rfl, rfl⟩) ?_
 refine zaw (.bool true) (fun J => zro _ _ hfl _ _ ⟨by simp, rfl⟩) ?_
 simp [zrY]
 rw [← zrY]
 refine zaw (.sl (ints [0]) .none) (fun J => zvh d1 zzc 0 _ _ ⟨by rw [zze], rfl⟩) ?_
 simp [ints]
end Go.Proofs.Ytkdmpbhbmmhijaa
namespace Go.Abs
open Go Go.RowKit

def zbw (P : Program) : Nat → TypeId → List AV → Prop
 | 0, _, _ => False
 | n + 1, t, asx => match P.underlying t with
  | some .bool => ∃ b, asx = [.bool b]
  | some (.int k) => ∃ m, asx = [.int k m] ∧ (Lit.int k m).wf = true
  | some .string => ∃ s, asx = [.str s] ∧ s.length ≤ maxLen
  | some (.slice e) => ∃ es, asx = [.sl es .none] ∧ es.length ≤ maxLen ∧ ∀ c ∈ es, zbw P n e c
  | some (.struct fs) => asx.length = P.cellsOf t ∧ ∀ f ∈ fs.toList, zbw P n f.type ((asx.drop f.offset).take (P.cellsOf f.type))
  | _ => False

def zeQ (P : Program) : List Field → Nat → Nat → Bool
 | [], at_, n => at_ == n
 | f :: fs, at_, n => f.offset == at_ && zeQ P fs (at_ + P.cellsOf f.type) n
def ziF (P : Program) (S : List TypeId) : Bool :=
 S.all fun t => match P.underlying t with
  | some .bool | some (.int _) | some .string => P.cellsOf t == 1
  | some (.slice e) => S.contains e && decide (0 < P.cellsOf e) && P.cellsOf t == 1
  | some (.struct fs) => fs.toList.all (fun f => S.contains f.type) && zeQ P fs.toList 0 (P.cellsOf t)
  | _ => false

section
variable {Hh : Type} {enc : TypeId × Value → Hh} {P : Program} {w : World} {base : Nat} {spare : Nat → Bool} {held : Bool}

theorem ztz {R : Value → AV → Prop} {cs : List Value} : ∀ (fs : List Field) (at_ n : Nat) (T : Field → List AV → Prop), zeQ P fs at_ n = true → cs.length = n →
  (∀ f ∈ fs, ∃ asx, All2 R ((cs.drop f.offset).take (P.cellsOf f.type)) asx ∧ T f asx) → at_ ≤ n →
  ∃ asx, All2 R (cs.drop at_) asx ∧ ∀ f ∈ fs, T f ((asx.drop (f.offset - at_)).take (P.cellsOf f.type)) ∧ at_ ≤ f.offset
 | [], at_, n, T, ht, hl, hf, hle => by
  simp [zeQ] at ht
  subst ht
  refine ⟨[], ?_, by simp⟩
  rw [List.drop_eq_nil_of_le (by omega)]
  trivial
 | f :: fs, at_, n, T, ht, hl, hf, hle => by
  simp only [zeQ, Bool.and_eq_true, beq_iff_eq] at ht
  obtain ⟨h1, h2⟩ := ht
  have hbound : ∀ (fs : List Field) (k n : Nat), zeQ P fs k n = true → k ≤ n := by
   intro fs
   induction fs with
   | nil => intro k n h; simp [zeQ] at h; omega
   | cons g gs ih => intro k n h; simp only [zeQ, Bool.and_eq_true] at h; have := ih _ _ h.2; omega
  have hb := hbound fs _ _ h2
  obtain ⟨as0, ha0, hT0⟩ := hf f (by simp)
  obtain ⟨as1, ha1, hT1⟩ := ztz fs (at_ + P.cellsOf f.type) n T h2 hl (fun g hg => hf g (by simp [hg])) hb
  have hl0 : as0.length = P.cellsOf f.type := by
   have := ha0.length
   rw [List.length_take, List.length_drop] at this
   omega
  refine ⟨as0 ++ as1, ?_, ?_⟩
  ·have : cs.drop at_ = (cs.drop f.offset).take (P.cellsOf f.type) ++ cs.drop (at_ + P.cellsOf f.type) := by
    rw [h1, ← List.drop_drop, List.take_append_drop]
   rw [this]
   exact ha0.append ha1
  ·intro g hg
   rcases List.mem_cons.1 hg with rfl | hg
   ·rw [h1, Nat.sub_self, List.drop_zero, ← hl0, List.take_left]
    exact ⟨hT0, Nat.le_refl _⟩
   ·obtain ⟨k1, k2⟩ := hT1 g hg
    refine ⟨?_, by omega⟩
    have : (as0 ++ as1).drop (g.offset - at_) = as1.drop (g.offset - (at_ + P.cellsOf f.type)) := by
     rw [List.drop_append, List.drop_eq_nil_of_le (by omega), List.nil_append]
     congr 1
     omega
    rw [this]
    exact k1

theorem zhT {a : Addr} {n : Nat} {cs : List Value} (h : w.cells? base a n = some cs) : cs.length = n ∧ ∀ j v, cs[j]? = some v → w.cell? (a.add j) = some v := by
 unfold World.cells? at h
 split at h
 ·have h1 := mapM_some_length h
  refine ⟨by simpa using h1, fun j v hj => ?_⟩
  have hjn : j < n := by
   have := (List.getElem?_eq_some_iff.1 hj).1
   simp at h1
   omega
  have := mapM_some_get h j j (by simp [hjn])
  rw [this]
  exact hj
 ·cases h

theorem zzK {b o : Nat} {v : Value} (h : w.cell? ⟨b, o, none⟩ = some v) : o < zdn w b := by
 unfold World.cell? at h
 unfold zdn
 split at h
 ·rename_i c t fr hb
  simp only [hb]
  simp at h
  exact (Array.getElem?_eq_some_iff.1 h).1
 ·cases h

theorem ztH {S : List TypeId} (hS : ziF P S = true) : ∀ (n : Nat) (t : TypeId) (cs : List Value) (x : DataW Hh × List MemPlace), t ∈ S → DataW.trod enc P w base spare held n t cs = some x →
  ∃ asx, All2 (DRel w (zdn w)) cs asx ∧ zbw P n t asx := by
 intro n
 induction n with
 | zero => intro t cs x _ h; simp [DataW.trod] at h
 | succ n ih =>
  intro t cs x ht h
  have hp := List.all_eq_true.1 hS t ht
  unfold zbw
  cases hu : P.underlying t with
  | none => simp [hu] at hp
  | some d =>
   rw [hu] at hp
   cases d <;> simp only [] at hp <;> try (cases hp; done)
   case bool =>
    obtain ⟨b, rfl, _⟩ := DataW.trod_bool hu h
    exact ⟨[.bool b], ⟨.bool b, trivial⟩, b, rfl⟩
   case int k =>
    obtain ⟨m, rfl, _, hw⟩ := DataW.trod_int hu h
    exact ⟨[.int k m], ⟨.int k m, trivial⟩, m, rfl, hw⟩
   case string =>
    obtain ⟨s, rfl, _, hw⟩ := DataW.trod_string hu h
    have hs : (⟨s.data.toList.toArray⟩ : ByteArray) = s := by simp
    refine ⟨[.str s.data.toList], ⟨?_, trivial⟩, s.data.toList, rfl, by rw [Array.length_toList]; exact hw⟩
    have := DRel.str (w := w) (L := zdn w) s.data.toList
    rwa [hs] at this
   case slice e =>
    simp only [Bool.and_eq_true, decide_eq_true_eq] at hp
    obtain ⟨⟨he, hpos⟩, _⟩ := hp
    have he : e ∈ S := by simpa using he
    rcases DataW.trod_slice hu h with ⟨rfl, _⟩ | ⟨a, len, cap, elems, rest, n', hn, rfl, _, hb, hl, hm, hlen, hel, _⟩
    ·exact ⟨[.sl [] .none], ⟨.slE _ _, trivial⟩, [], rfl, by simp, by simp⟩
    ·obtain rfl : n = n' := by omega
     have hat : ∀ i, i < len → ∃ cs asx, w.cells? base (a.add (i * P.cellsOf e)) (P.cellsOf e) = some cs ∧ All2 (DRel w (zdn w)) cs asx ∧ zbw P n e asx := by
      intro i hi
      have h1 := hel i hi
      rw [List.getElem?_eq_getElem (by omega)] at h1
      cases hc : w.cells? base (a.add (i * P.cellsOf e)) (P.cellsOf e) with
      | none => rw [hc] at h1; cases h1
      | some cs =>
       rw [hc] at h1
       obtain ⟨asx, h2, h3⟩ := ih e cs _ he h1
       exact ⟨cs, asx, rfl, h2, h3⟩
     by_cases h0 : len = 0
     ·subst h0
      exact ⟨[.sl [] .none], ⟨.slE _ _, trivial⟩, [], rfl, by simp, by simp⟩
     ·-- the address is a zbc one
      have hspot : a.spot = none := by
       obtain ⟨cs, asx, h1, h2, _⟩ := hat 0 (by omega)
       obtain ⟨h3, h4⟩ := zhT h1
       have h5 := h4 0 cs[0] (by simp)
       have := World.cell?_spot h5
       simpa [Addr.add] using this
      obtain ⟨b, off, sp⟩ := a
      simp only at hspot
      subst hspot
      obtain ⟨f, hf⟩ : ∃ f : Nat → List Value × List AV, ∀ i, i < len → w.cells? base ((⟨b, off, none⟩ : Addr).add (i * P.cellsOf e)) (P.cellsOf e) = some (f i).1 ∧ All2 (DRel w (zdn w)) (f i).1 (f i).2 ∧ zbw P n e (f i).2 :=
       Deep.choose_lt (p := fun i (y : List Value × List AV) => w.cells? base ((⟨b, off, none⟩ : Addr).add (i * P.cellsOf e)) (P.cellsOf e) = some y.1 ∧ All2 (DRel w (zdn w)) y.1 y.2 ∧ zbw P n e y.2)
        (fun i hi => by obtain ⟨cs, asx, h1, h2, h3⟩ := hat i hi; exact ⟨(cs, asx), h1, h2, h3⟩)
      have hcell : ∀ i, i < len → ∀ j v, (f i).1[j]? = some v → w.cell? ⟨b, off + i * P.cellsOf e + j, none⟩ = some v := by
       intro i hi j v hj
       have := (zhT (hf i hi).1).2 j v hj
       rw [add_lit, add_lit] at this
       exact this
      have hlen2 : ∀ i, i < len → (f i).2.length = P.cellsOf e := fun i hi => by
       rw [← (hf i hi).2.1.length]; exact (zhT (hf i hi).1).1
      refine ⟨[.sl ((List.range len).map fun i => (f i).2) .none], ⟨?_, trivial⟩, _, rfl, by simp; omega, ?_⟩
      ·have := DRel.sl (w := w) (L := zdn w) b off cap (P.cellsOf e) ((List.range len).map fun i => (f i).2) (fun i j => (f i).1.getD j undef) (by simp; exact h0) (by simpa using hl) ?_ ?_ ?_ ?_
       ·simpa using this
       ·-- the last cell is there
        have hi : len - 1 < len := by omega
        have hj : P.cellsOf e - 1 < (f (len - 1)).1.length := by rw [(zhT (hf _ hi).1).1]; omega
        have := zzK (hcell (len - 1) hi (P.cellsOf e - 1) _ (List.getElem?_eq_getElem hj))
        have hmul : (len - 1) * P.cellsOf e + P.cellsOf e = len * P.cellsOf e := by
         rw [← Nat.succ_mul]; congr 1; omega
        simp
        omega
       ·intro i hi
        simp at hi
        simpa using hlen2 i hi
       ·intro i j hi hj
        simp at hi hj
        have hjl : j < (f i).1.length := by rw [(hf i hi).2.1.length]; exact hj
        simp only [List.getD_eq_getElem?_getD, List.getElem?_eq_getElem hjl, Option.getD_some]
        exact hcell i hi j _ (List.getElem?_eq_getElem hjl)
       ·intro i j hi hj
        simp at hi hj
        have hjl : j < (f i).1.length := by rw [(hf i hi).2.1.length]; exact hj
        obtain ⟨c, h1, h2⟩ := (hf i hi).2.1.get' (List.getElem?_eq_getElem hjl)
        simp only [List.getD_eq_getElem?_getD, List.getElem?_eq_getElem hjl, Option.getD_some, List.getElem_map, List.getElem_range]
        have : (f i).2[j] = c := by rw [List.getElem?_eq_getElem hj] at h1; exact Option.some.inj h1
        rw [this]
        exact h2
      ·intro c hc
       obtain ⟨i, hi, rfl⟩ := List.mem_map.1 hc
       exact (hf i (by simpa using hi)).2.2
   case struct fs =>
    simp only [Bool.and_eq_true] at hp
    obtain ⟨hfs, htile⟩ := hp
    obtain ⟨xs, n', hn, _, hcl, hxl, hat⟩ := DataW.trod_struct hu h
    obtain rfl : n = n' := by omega
    obtain ⟨asx, h1, h2⟩ := ztz (P := P) (R := DRel w (zdn w)) (cs := cs) fs.toList 0 (P.cellsOf t) (fun f asx => zbw P n f.type asx) htile hcl (fun f hf => by
     obtain ⟨i, hi⟩ := List.mem_iff_getElem?.1 hf
     have hi' : fs[i]? = some f := by simpa using hi
     have h3 := hat i f hi'
     have hlt : i < xs.length := by rw [hxl]; exact (Array.getElem?_eq_some_iff.1 hi').1
     rw [List.getElem?_eq_getElem hlt] at h3
     exact ih f.type _ _ (by simpa using List.all_eq_true.1 hfs f hf) h3) (Nat.zero_le _)
    rw [List.drop_zero] at h1
    refine ⟨asx, h1, by rw [← h1.length]; exact hcl, fun f hf => ?_⟩
    simpa using (h2 f hf).1
end

theorem zz9 {Hh : Type} {enc : TypeId × Value → Hh} {P : Program} {w : World} {base : Nat} {spare : Nat → Bool} {held : Bool} {S : List TypeId} (hS : ziF P S = true) {t : TypeId} (ht : t ∈ S) {cs : Array Value} {d : DataW Hh} {p : List MemPlace}
  (h : DataW.Trod enc P w base spare held t (.agg cs) d p) : ∃ n asx, zbw P n t asx ∧ TRel w (G0 w) (.agg cs) (.agg asx) := by
 obtain ⟨n, hn⟩ := h
 obtain ⟨asx, h1, h2⟩ := ztH hS n t _ _ ht hn
 exact ⟨n, asx, h2, cs, rfl, h1.mono fun _ _ hd => ARel.of_b (DRel.toB (G := G0 w) hd)⟩
theorem zz8 {Hh : Type} {enc : TypeId × Value → Hh} {P : Program} {w : World} {base : Nat} {spare : Nat → Bool} {held : Bool} {S : List TypeId} (hS : ziF P S = true) {t : TypeId} (ht : t ∈ S) {v : Value} {d : DataW Hh} {p : List MemPlace} (hv : v.cells = #[v])
  (h : DataW.Trod enc P w base spare held t v d p) : ∃ n a, zbw P n t [a] ∧ TRel w (G0 w) v a := by
 obtain ⟨n, hn⟩ := h
 obtain ⟨asx, h1, h2⟩ := ztH hS n t _ _ ht hn
 rw [hv] at h1
 match asx, h1, h2 with
 | [a], h1, h2 => exact ⟨n, a, h2, TRel.of_v (VRel.of_a (ARel.of_b (DRel.toB (G := G0 w) h1.1)))⟩
section
variable {P : Program} {n : Nat} {t : TypeId} {l : List AV}
theorem zeR {k : IntKind} (hu : P.underlying t = some (.int k)) (h : zbw P n t l) : ∃ m, l = [.int k m] ∧ (Lit.int k m).wf = true := by
 cases n with
 | zero => exact h.elim
 | succ n => unfold zbw at h; rw [hu] at h; exact h
theorem zn6 (hu : P.underlying t = some .string) (h : zbw P n t l) : ∃ s, l = [.str s] ∧ s.length ≤ maxLen := by
 cases n with
 | zero => exact h.elim
 | succ n => unfold zbw at h; rw [hu] at h; exact h
theorem zdP {e : TypeId} (hu : P.underlying t = some (.slice e)) (h : zbw P n t l) : ∃ es n', n' < n ∧ l = [.sl es .none] ∧ es.length ≤ maxLen ∧ ∀ c ∈ es, zbw P n' e c := by
 cases n with
 | zero => exact h.elim
 | succ n => unfold zbw at h; rw [hu] at h; obtain ⟨es, h1, h2, h3⟩ := h; exact ⟨es, n, by omega, h1, h2, h3⟩
theorem zgc {fs : Array Field} (hu : P.underlying t = some (.struct fs)) (h : zbw P n t l) : ∃ n', n' < n ∧ l.length = P.cellsOf t ∧ ∀ f ∈ fs.toList, zbw P n' f.type ((l.drop f.offset).take (P.cellsOf f.type)) := by
 cases n with
 | zero => exact h.elim
 | succ n => unfold zbw at h; rw [hu] at h; exact ⟨n, by omega, h⟩
theorem zdF {α : Type} {cs : α → List AV} : ∀ {es : List (List AV)}, (∀ c ∈ es, ∃ x, c = cs x) → ∃ xs : List α, es = xs.map cs
 | [], _ => ⟨[], rfl⟩
 | e :: es, h => by
  obtain ⟨x, hx⟩ := h e (by simp)
  obtain ⟨xs, hxs⟩ := zdF (es := es) (fun c hc => h c (by simp [hc]))
  exact ⟨x :: xs, by simp [hx, hxs]⟩
end
end Go.Abs
namespace Go.Proofs.Ytkdmpbhbmmhijaa
open Go Go.Abs
set_option maxRecDepth 100000
theorem zrT : ziF Try.prog [27, 22, 23, 24, 25, 67, 65, 69, 41, 43, 46, 35, 39, 2, 3, 9] = true := by kernel_rfl
theorem ce3 : Try.prog.cellsOf 3 = 1 := by kernel_rfl
theorem ce2 : Try.prog.cellsOf 2 = 1 := by kernel_rfl
theorem ce9 : Try.prog.cellsOf 9 = 1 := by kernel_rfl
theorem zyQ : Try.prog.cellsOf 22 = 1 := by kernel_rfl
theorem zyR : Try.prog.cellsOf 23 = 1 := by kernel_rfl
theorem zmq : Try.prog.cellsOf 24 = 1 := by kernel_rfl
theorem zyS : Try.prog.cellsOf 25 = 1 := by kernel_rfl
theorem zrL : Try.prog.cellsOf 35 = 1 := by kernel_rfl
theorem zyU : Try.prog.cellsOf 39 = 1 := by kernel_rfl
theorem zyX : Try.prog.cellsOf 65 = 1 := by kernel_rfl
theorem zmr : Try.prog.cellsOf 41 = 3 := by kernel_rfl
theorem zyV : Try.prog.cellsOf 43 = 8 := by kernel_rfl
theorem zyW : Try.prog.cellsOf 46 = 7 := by kernel_rfl
theorem zyY : Try.prog.cellsOf 67 = 3 := by kernel_rfl
theorem zyZ : Try.prog.cellsOf 69 = 2 := by kernel_rfl
theorem zyT : Try.prog.cellsOf 27 = 4 := by kernel_rfl
theorem zi0 : ∀ (n : Nat) (l : List AV), zbw Try.prog n 41 l → ∃ v : VT, l = v.cs := by
 intro n
 induction n using Nat.strongRecOn with
 | _ n ih =>
  intro l h
  obtain ⟨n', hn, hl, hf⟩ := zgc Try.underlying41 h
  rw [zmr] at hl
  match l, hl with
  | [a, b, c], _ =>
   simp [ce3, zmq] at hf
   obtain ⟨h1, h2, h3⟩ := hf
   obtain ⟨k, hk, _⟩ := zeR Try.underlying3 h1
   obtain ⟨m, hm, _⟩ := zeR Try.underlying3 h2
   obtain ⟨es, n2, hn2, hes, _, hel⟩ := zdP Try.underlying24 h3
   obtain ⟨ks, hks⟩ := zdF (cs := VT.cs) (fun c hc => ih n2 (by omega) c (hel c hc))
   simp at hk hm hes
   exact ⟨.mk k m ks, by simp [VT.cs, VT.css_map, hk, hm, hes, hks]⟩
theorem zgK (n : Nat) (a : AV) (h : zbw Try.prog n 35 [a]) : ∃ l : List Int, a = .sl (ints l) .none := by
 obtain ⟨es, n2, hn2, hes, _, hel⟩ := zdP Try.underlying35 h
 obtain ⟨ks, hks⟩ := zdF (cs := fun n : Int => [AV.int .i64 n]) (fun c hc => by
  obtain ⟨m, hm, _⟩ := zeR Try.underlying3 (hel c hc)
  exact ⟨m, hm⟩)
 simp at hes
 exact ⟨ks, by rw [hes, hks]; rfl⟩
theorem zAI (n : Nat) (a : AV) (h : zbw Try.prog n 39 [a]) : ∃ l : List (List Int), a = .sl (rows l) .none := by
 obtain ⟨es, n2, hn2, hes, _, hel⟩ := zdP Try.underlying39 h
 obtain ⟨ks, hks⟩ := zdF (cs := fun r : List Int => [AV.sl (ints r) .none]) (fun c hc => by
  obtain ⟨es2, _, _, h2, _⟩ := zdP Try.underlying35 (hel c hc)
  subst h2
  obtain ⟨l, hl⟩ := zgK n2 _ (hel _ hc)
  exact ⟨l, by rw [hl]⟩)
 simp at hes
 exact ⟨ks, by rw [hes, hks]; rfl⟩
theorem zy7 (n : Nat) (l : List AV) (h : zbw Try.prog n 69 l) : ∃ c : Con, l = c.cs := by
 obtain ⟨n', hn, hl, hf⟩ := zgc Try.underlying69 h
 rw [zyZ] at hl
 match l, hl with
 | [a, b], _ =>
  simp [ce9, zmq] at hf
  obtain ⟨h1, h2⟩ := hf
  obtain ⟨s, hs, _⟩ := zn6 Try.underlying9 h1
  obtain ⟨es, n2, hn2, hes, _, hel⟩ := zdP Try.underlying24 h2
  obtain ⟨ks, hks⟩ := zdF (cs := VT.cs) (fun c hc => zi0 n2 c (hel c hc))
  simp at hs hes
  exact ⟨⟨s, ks⟩, by simp [Con.cs, VT.css_map, hs, hes, hks]⟩
theorem zzf (n : Nat) (l : List AV) (h : zbw Try.prog n 67 l) : ∃ d : Dat, l = d.cs := by
 obtain ⟨n', hn, hl, hf⟩ := zgc Try.underlying67 h
 rw [zyY] at hl
 match l, hl with
 | [a, b, c], _ =>
  simp [ce9, ce3, zyX] at hf
  obtain ⟨h1, h2, h3⟩ := hf
  obtain ⟨s, hs, _⟩ := zn6 Try.underlying9 h1
  obtain ⟨m, hm, _⟩ := zeR Try.underlying3 h2
  obtain ⟨es, n2, hn2, hes, _, hel⟩ := zdP Try.underlying65 h3
  obtain ⟨ks, hks⟩ := zdF (cs := Con.cs) (fun c hc => zy7 n2 c (hel c hc))
  simp at hs hm hes
  exact ⟨⟨s, m, ks⟩, by simp [Dat.cs, hs, hm, hes, hks]⟩
theorem zy5 (n : Nat) (l : List AV) (h : zbw Try.prog n 46 l) : ∃ d : Cod, l = d.cs := by
 obtain ⟨n', hn, hl, hf⟩ := zgc Try.underlying46 h
 rw [zyW] at hl
 match l, hl with
 | [a, b, c, d, e, f, g], _ =>
  simp [ce9, ce3, zrL, zmr] at hf
  obtain ⟨h1, h2, h3, h4, h5⟩ := hf
  obtain ⟨s, hs, _⟩ := zn6 Try.underlying9 h1
  obtain ⟨p, hp⟩ := zgK _ _ h2
  obtain ⟨q, hq⟩ := zgK _ _ h3
  obtain ⟨t, ht⟩ := zi0 _ _ h4
  obtain ⟨m, hm, _⟩ := zeR Try.underlying3 h5
  simp at hs hm
  exact ⟨⟨s, p, q, t, m⟩, by simp [Cod.cs, hs, hp, hq, hm, ← ht]⟩
theorem zy0 (n : Nat) (l : List AV) (h : zbw Try.prog n 43 l) : ∃ d : CEx, l = d.cs := by
 obtain ⟨n', hn, hl, hf⟩ := zgc Try.underlying43 h
 rw [zyV] at hl
 match l, hl with
 | [a, b, c, d, e, f, g, i], _ =>
  simp [ce2, ce3, zrL, zyU, zmr] at hf
  obtain ⟨h1, h2, h3, h4, h5, h6⟩ := hf
  obtain ⟨o, ho, _⟩ := zeR Try.underlying3 h1
  obtain ⟨m, hm, _⟩ := zeR Try.underlying2 h2
  obtain ⟨p, hp⟩ := zgK _ _ h3
  obtain ⟨q, hq⟩ := zAI _ _ h4
  obtain ⟨r, hr⟩ := zgK _ _ h5
  obtain ⟨t, ht⟩ := zi0 _ _ h6
  simp at ho hm
  exact ⟨⟨o, m, p, q, r, t⟩, by simp [CEx.cs, ho, hm, hp, hq, hr, ← ht]⟩
theorem zy9 (n : Nat) (l : List AV) (h : zbw Try.prog n 27 l) : ∃ c : Cor, l = c.cs ∧ c.data.length ≤ 9223372036854775807 ∧ c.vars.length ≤ 9223372036854775807 := by
 obtain ⟨n', hn, hl, hf⟩ := zgc Try.underlying27 h
 rw [zyT] at hl
 match l, hl with
 | [a, b, c, d], _ =>
  simp [zyQ, zyR, zmq, zyS] at hf
  obtain ⟨h1, h2, h3, h4⟩ := hf
  obtain ⟨es1, n1, _, hes1, hm1, hel1⟩ := zdP Try.underlying22 h1
  obtain ⟨es2, n2, _, hes2, _, hel2⟩ := zdP Try.underlying23 h2
  obtain ⟨es3, n3, _, hes3, hm3, hel3⟩ := zdP Try.underlying24 h3
  obtain ⟨es4, n4, _, hes4, _, hel4⟩ := zdP Try.underlying25 h4
  obtain ⟨k1, hk1⟩ := zdF (cs := Dat.cs) (fun c hc => zzf n1 c (hel1 c hc))
  obtain ⟨k2, hk2⟩ := zdF (cs := Cod.cs) (fun c hc => zy5 n2 c (hel2 c hc))
  obtain ⟨k3, hk3⟩ := zdF (cs := VT.cs) (fun c hc => zi0 n3 c (hel3 c hc))
  obtain ⟨k4, hk4⟩ := zdF (cs := CEx.cs) (fun c hc => zy0 n4 c (hel4 c hc))
  simp at hes1 hes2 hes3 hes4
  refine ⟨⟨k1, k2, k3, k4⟩, by simp [Cor.cs, VT.css_map, hes1, hes2, hes3, hes4, hk1, hk2, hk3, hk4], ?_, ?_⟩
  ·rw [hk1] at hm1; simpa [maxLen] using hm1
  ·rw [hk3] at hm3; simpa [maxLen] using hm3
end Go.Proofs.Ytkdmpbhbmmhijaa
