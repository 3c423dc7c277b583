import Derived.Test.YtkdmpbhbmmhijaaKSW
import Derived.Test.YtkdmpbhbmmhijaaVO
import Derived.Deep.Slices
import Derived.DataReads
import Derived.Test.YtkdmpbhbmmhijaaAbsQ
import Derived.Test.YtkdmpbhbmmhijaaProg
import Derived.KernelRfl
set_option linter.unusedSimpArgs false
set_option linter.unusedVariables false
namespace Go.Proofs.Ytkdmpbhbmmhijaa
open Go Go.Abs
set_option maxRecDepth 8000
theorem zon (l : List Int) (hl : l.length ≤ 1000000) (v : Int) (H : zaa) (K : Kt) (hK : K (.bool (decide (v ∈ l))) H) : ACalls tP ziX [.sl (ints l) .none, .int .i64 v] H K := by
 refine zJY fun hs => ?_
 simp [zqD]
 refine zJX (Inv := fun q t9 H' => ∃ j : Nat, j ≤ l.length ∧ q = l.length - j ∧ t9 = .int .i64 j ∧ (∀ (i : Nat) (h : i < l.length), i < j → l[i] ≠ v) ∧ H' = H) l.length ?_ ?_
 ·intro _; exact ⟨0, by omega, by omega, rfl, fun i h h2 => by omega, rfl⟩
 rintro q t9 H' ⟨j, hj, rfl, rfl, hno, rfl⟩ hsc hlen hsF Kb hKb
 by_cases hlt : j < l.length
 ·by_cases he : l[j] = v
  ·have he' : (l[j] == v) = true := by simpa using he
   have hm : v ∈ l := by rw [← he]; exact List.getElem_mem hlt
   simp [hm] at hK
   simp [zjm, hlt, zhg, he, he']
   exact hK
  ·have he' : (l[j] == v) = false := by simpa using he
   simp [zjm, hlt, zhg, he, he']
   rw [zar (by omega) (by omega)]
   refine hKb _ _ ⟨l.length - (j + 1), by omega, Back.here (by simp) hsc ?_ ⟨_, rfl, j + 1, by omega, rfl, by simp, fun i h h2 => ?_, rfl⟩⟩
   ·simp [zf6, AV.sc, AV.scV, AV.scA, AV.scB]
    try omega
   ·by_cases h3 : i < j
    ·exact hno i h h3
    ·obtain rfl : i = j := by omega
     exact he
 ·have hm : v ∉ l := fun h => by
   obtain ⟨i, h1, h2⟩ := List.mem_iff_getElem.1 h
   exact hno i h1 (by omega) h2
  simp [hm] at hK
  obtain rfl : j = l.length := by omega
  simp [zjm]
  exact hK
theorem zEV {st : List Bool} {v : Int} : v ∈ mem st ↔ ∃ n : Nat, v = n ∧ n < st.length ∧ st.getD n false = true := by
 unfold mem
 simp only [List.mem_map, List.mem_filter, List.mem_range]
 constructor
 ·rintro ⟨n, ⟨h1, h2⟩, h3⟩; exact ⟨n, h3.symm, h1, h2⟩
 ·rintro ⟨n, h1, h2, h3⟩; exact ⟨n, ⟨h2, h3⟩, h1.symm⟩
theorem chi_get {n : Nat} {P : Int → Prop} {v : Nat} : (chi n P).getD v false = true ↔ v < n ∧ P v := by
 unfold chi
 rw [List.getD_eq_getElem?_getD, List.getElem?_map]
 by_cases h : v < n
 ·rw [List.getElem?_range h]; simp [h]
 ·rw [List.getElem?_eq_none (by simp; omega)]; simp [h]
@[simp] theorem zRY (n : Nat) (P : Int → Prop) : (chi n P).length = n := by simp [chi]
theorem zut {c : Cor} {P : Nat → Int → Prop} {e : Nat} (h : e < c.exprs.length) (hv : vOk c = true) (hP : ∀ {v : Int}, P e v → 0 ≤ v ∧ v < (c.vars.length : Int)) {v : Int} : v ∈ zdO c P e ↔ P e v := by
 unfold zdO
 rw [if_pos ⟨by omega, by omega, hv⟩, zEV, Int.toNat_natCast]
 constructor
 ·rintro ⟨n, rfl, h1, h2⟩
  exact (chi_get.1 h2).2
 ·intro h
  have := hP h
  refine ⟨v.toNat, by omega, by simp; omega, chi_get.2 ⟨by omega, ?_⟩⟩
  rw [show ((v.toNat : Nat) : Int) = v by omega]
  exact h
theorem zpp (c : Cor) (P : Nat → Int → Prop) (e : Int) : (zdO c P e).length ≤ c.vars.length := by
 unfold zdO
 split
 ·have := ztK (chi c.vars.length (P e.toNat)) (chi c.vars.length (P e.toNat)).length
  simpa [mem, zdg] using this
 ·simp
theorem ztp {c : Cor} (hk : zaR c) {e : Nat} (h : e < c.exprs.length) (hv : vOk c = true) {v : Int} : v ∈ zbP c e ↔ zel c e v :=
 zut h hv fun hf => (zhA hk hv).InS_range ((zhA hk hv).free_scope hf)
theorem zF3 {c : Cor} (hk : zaR c) {e : Nat} (h : e < c.exprs.length) (hv : vOk c = true) {v : Int} : v ∈ zfp c e ↔ InS c e v :=
 zut h hv fun hf => (zhA hk hv).InS_range hf
theorem zDe (c : Cor) (h1 : c.data.length ≤ 9223372036854775807) (h2 : c.vars.length ≤ 9223372036854775807) (v : Int) : ACalls tP ztR [.agg c.cs, .int .i64 v] [] fun r _ => r = .bool true := by
 refine zOw fun hs => ?_
 have hat : c.cs = [.sl (c.data.map Dat.cs) .none, .sl (c.codes.map Cod.cs) .none, .sl (VT.css c.vars) .none, .sl (c.exprs.map CEx.cs) .none] := rfl
 simp [zq8, hat]
 rw [← hat]
 refine zH2 c h1 h2 _ _ fun b hb => ?_
 cases b with
 | false => simp
 | true =>
 have hk := hb rfl
 have hcn := hk.2.1
 have hen := hk.2.2.1
 have hvn := hk.2.2.2.1.1
 simp [hat]
 rw [← hat]
 refine zI9 c hk _ _ ?_
 cases hv : vOk c with
 | false => simp
 | true =>
 have hT := zhA hk hv
 by_cases g1 : v < 0
 ·simp [hat, g1]
 by_cases g2 : (c.exprs.length : Int) ≤ v
 ·simp [hat, g1, g2]
 obtain ⟨e, rfl⟩ : ∃ n : Nat, v = n := ⟨v.toNat, by omega⟩
 have hel : e < c.exprs.length := by omega
 have g2' : ¬ c.exprs.length ≤ e := by omega
 simp [hat, g1, g2']
 rw [← hat]
 refine zJU c hk e _ _ ?_
 simp [hat]
 rw [← hat]
 refine zxX c hk e _ _ ?_
 simp
 have hsc0 : HSc [AB.cells c.cs] := by
  intro b hb
  simp at hb
  subst hb
  simp [AB.sc, Cor.cs]
 refine zOv (Inv := fun q t38 H' => ∃ j : Nat, j ≤ (zbP c e).length ∧ q = (zbP c e).length - j ∧ t38 = .int .i64 j ∧ H' = [.cells c.cs]) (zbP c e).length ?_ ?_
 ·intro _; exact ⟨0, by omega, by omega, rfl, rfl⟩
 rintro q t38 H' ⟨j, hj, rfl, rfl, rfl⟩ hsc hlen hsF Kb hKb
 by_cases hlt : j < (zbP c e).length
 ·have hin : (zbP c e)[j] ∈ zfp c e := (zF3 hk hel hv).2 (hT.free_scope ((ztp hk hel hv).1 (List.getElem_mem hlt)))
  have hfl := zpp c (zel c) e
  have hfl' : (zbP c e).length ≤ c.vars.length := hfl
  simp [znv, hlt, zhg]
  refine zon (zfp c e) (by have := zpp c (InS c) e; unfold zfp; omega) _ _ _ ?_
  simp [hin]
  rw [zar (by omega) (by omega)]
  refine hKb _ _ ⟨(zbP c e).length - (j + 1), by omega, Back.here (by simp) hsc ?_ ⟨_, rfl, j + 1, by omega, rfl, by simp, rfl⟩⟩
  simp [zg1, AV.sc, AV.scV, AV.scA, AV.scB]
  try omega
 obtain rfl : j = (zbP c e).length := by omega
 simp [znv, hat]
 rw [← hat]
 refine zOt (Inv := fun q t50 H' => ∃ (i : Nat), i ≤ c.codes.length ∧ q = c.codes.length - i ∧ t50 = .int .i64 i ∧ H' = [.cells c.cs]) c.codes.length ?_ ?_
 ·intro _; exact ⟨0, by omega, by omega, rfl, rfl⟩
 rintro q t50 H' ⟨i, hi, rfl, rfl, rfl⟩ hsc2 hlen2 hsF2 Kb11 hKb11
 by_cases hli : i < c.codes.length
 ·obtain ⟨x, y, z, hvv, hx, hy, hz, hce⟩ := zet hli
  obtain ⟨_, kp, kc, _⟩ := zs0 hk hli
  obtain ⟨b, hbe, hbl, _⟩ := (((zpI c hk).1 ((zkV c).1 hv)).codes i hli).body
  have hroot : zc5 c i b := ⟨hli, hbe⟩
  have hpar : ∀ v : Int, Par c i v ↔ v ∈ (c.codes[i]).params ∨ v ∈ (c.codes[i]).capt := fun v => ⟨fun ⟨_, h⟩ => List.mem_append.1 h, fun h => ⟨hli, List.mem_append.2 h⟩⟩
  generalize hF : c.codes[i] = F at *
  simp [znt, hat, hli, hF, hce, hx, hy, hz, hbe]
  rw [← hat]
  refine zxX c hk b _ _ ?_
  have hfl : (zbP c b).length ≤ c.vars.length := zpp c (zel c) b
  simp
  refine zOu (Inv := fun q t59 H' => ∃ j : Nat, j ≤ (zbP c b).length ∧ q = (zbP c b).length - j ∧ t59 = .int .i64 j ∧ H' = [.cells c.cs, .cells [.str F.name, .sl (ints F.params) .none, .sl (ints F.capt) .none, x, y, z, .int .i64 b]]) (zbP c b).length ?_ ?_
  ·intro _; exact ⟨0, by omega, by omega, rfl, rfl⟩
  rintro q t59 H' ⟨j, hj2, rfl, rfl, rfl⟩ hsc3 hlen3 hsF3 Kb14 hKb14
  by_cases hlj : j < (zbP c b).length
  ·have hfr := (hT.root_InS hroot).1 (hT.free_scope ((ztp hk hbl hv).1 (List.getElem_mem hlj)))
   have hgo : Kb14 (zeZ (.ptr 0 0) (.ptr 1 0) (.sl (c.codes.map Cod.cs) .none) (.int .i64 c.codes.length) (.int .i64 i) (.sl (ints (zbP c b)) .none) (.int .i64 (zbP c b).length) (.int .i64 (IntKind.i64.wrap ((j : Int) + 1)))) [.cells c.cs, .cells [.str F.name, .sl (ints F.params) .none, .sl (ints F.capt) .none, x, y, z, .int .i64 b]] := by
    rw [zar (by omega) (by omega)]
    refine hKb14 _ _ ⟨(zbP c b).length - (j + 1), by omega, Back.here (by simp) hsc3 ?_ ⟨_, rfl, j + 1, by omega, rfl, by simp, rfl⟩⟩
    simp [zeZ, AV.sc, AV.scV, AV.scA, AV.scB]
    try omega
   simp [znu, hlj, zhg]
   refine zon F.params (by omega) _ _ _ ?_
   by_cases hp : (zbP c b)[j] ∈ F.params
   ·simp [hp]
    exact hgo
   ·have hc : (zbP c b)[j] ∈ F.capt := by
     rcases (hpar _).1 hfr with h | h
     ·exact absurd h hp
     ·exact h
    simp [hp]
    refine zon F.capt (by omega) _ _ _ ?_
    simp [hc]
    exact hgo
  ·obtain rfl : j = (zbP c b).length := by omega
   simp [znu]
   rw [zar (by omega) (by omega)]
   refine hKb11 _ _ ⟨c.codes.length - (i + 1), by omega, Back.at (J := [.cells [.str F.name, .sl (ints F.params) .none, .sl (ints F.capt) .none, x, y, z, .int .i64 b]]) (H2 := [.cells c.cs]) (by simp) (by simp) hsc2 ?_ ⟨_, rfl, i + 1, by omega, rfl, by simp, rfl⟩⟩
   simp [zg0, AV.sc, AV.scV, AV.scA, AV.scB]
 ·obtain rfl : i = c.codes.length := by omega
  simp [znt]
  refine zDC _ _ ?_
  simp
end Go.Proofs.Ytkdmpbhbmmhijaa
namespace Go.Abs
open Go Go.RowKit

def zbu (P : Program) : Nat → TypeId → List AV → Prop
 | 0, _, _ => False
 | n + 1, t, asx => match P.underlying t with
  | some .bool => ∃ b, asx = [.bool b]
  | some (.int k) => ∃ m, asx = [.int k m] ∧ (Lit.int k m).wf = true
  | some .string => ∃ s, asx = [.str s] ∧ s.length ≤ maxLen
  | some (.slice e) => ∃ es, asx = [.sl es .none] ∧ es.length ≤ maxLen ∧ ∀ c ∈ es, zbu P n e c
  | some (.struct fs) => asx.length = P.cellsOf t ∧ ∀ f ∈ fs.toList, zbu P n f.type ((asx.drop f.offset).take (P.cellsOf f.type))
  | _ => False

def zeK (P : Program) : List Field → Nat → Nat → Bool
 | [], at_, n => at_ == n
 | f :: fs, at_, n => f.offset == at_ && zeK P fs (at_ + P.cellsOf f.type) n
def zkD (P : Program) (S : List TypeId) : Bool :=
 S.all fun t => match P.underlying t with
  | some .bool | some (.int _) | some .string => P.cellsOf t == 1
  | some (.slice e) => S.contains e && decide (0 < P.cellsOf e) && P.cellsOf t == 1
  | some (.struct fs) => fs.toList.all (fun f => S.contains f.type) && zeK P fs.toList 0 (P.cellsOf t)
  | _ => false

section
variable {Hh : Type} {enc : TypeId × Value → Hh} {P : Program} {w : World} {base : Nat} {spare : Nat → Bool} {held : Bool}

theorem zuG {R : Value → AV → Prop} {cs : List Value} : ∀ (fs : List Field) (at_ n : Nat) (T : Field → List AV → Prop), zeK P fs at_ n = true → cs.length = n →
  (∀ f ∈ fs, ∃ asx, All2 R ((cs.drop f.offset).take (P.cellsOf f.type)) asx ∧ T f asx) → at_ ≤ n →
  ∃ asx, All2 R (cs.drop at_) asx ∧ ∀ f ∈ fs, T f ((asx.drop (f.offset - at_)).take (P.cellsOf f.type)) ∧ at_ ≤ f.offset
 | [], at_, n, T, ht, hl, hf, hle => by
  simp [zeK] at ht
  subst ht
  refine ⟨[], ?_, by simp⟩
  rw [List.drop_eq_nil_of_le (by omega)]
  trivial
 | f :: fs, at_, n, T, ht, hl, hf, hle => by
  simp only [zeK, Bool.and_eq_true, beq_iff_eq] at ht
  obtain ⟨h1, h2⟩ := ht
  have hbound : ∀ (fs : List Field) (k n : Nat), zeK P fs k n = true → k ≤ n := by
   intro fs
   induction fs with
   | nil => intro k n h; simp [zeK] at h; omega
   | cons g gs ih => intro k n h; simp only [zeK, Bool.and_eq_true] at h; have := ih _ _ h.2; omega
  have hb := hbound fs _ _ h2
  obtain ⟨as0, ha0, hT0⟩ := hf f (by simp)
  obtain ⟨as1, ha1, hT1⟩ := zuG fs (at_ + P.cellsOf f.type) n T h2 hl (fun g hg => hf g (by simp [hg])) hb
  have hl0 : as0.length = P.cellsOf f.type := by
   have := ha0.length
   rw [List.length_take, List.length_drop] at this
   omega
  refine ⟨as0 ++ as1, ?_, ?_⟩
  ·have : cs.drop at_ = (cs.drop f.offset).take (P.cellsOf f.type) ++ cs.drop (at_ + P.cellsOf f.type) := by
    rw [h1, ← List.drop_drop, List.take_append_drop]
   rw [this]
   exact ha0.append ha1
  ·intro g hg
   rcases List.mem_cons.1 hg with rfl | hg
   ·rw [h1, Nat.sub_self, List.drop_zero, ← hl0, List.take_left]
    exact ⟨hT0, Nat.le_refl _⟩
   ·obtain ⟨k1, k2⟩ := hT1 g hg
    refine ⟨?_, by omega⟩
    have : (as0 ++ as1).drop (g.offset - at_) = as1.drop (g.offset - (at_ + P.cellsOf f.type)) := by
     rw [List.drop_append, List.drop_eq_nil_of_le (by omega), List.nil_append]
     congr 1
     omega
    rw [this]
    exact k1

theorem zjU {a : Addr} {n : Nat} {cs : List Value} (h : w.cells? base a n = some cs) : cs.length = n ∧ ∀ j v, cs[j]? = some v → w.cell? (a.add j) = some v := by
 unfold World.cells? at h
 split at h
 ·have h1 := mapM_some_length h
  refine ⟨by simpa using h1, fun j v hj => ?_⟩
  have hjn : j < n := by
   have := (List.getElem?_eq_some_iff.1 hj).1
   simp at h1
   omega
  have := mapM_some_get h j j (by simp [hjn])
  rw [this]
  exact hj
 ·cases h

theorem zES {b o : Nat} {v : Value} (h : w.cell? ⟨b, o, none⟩ = some v) : o < zcC w b := by
 unfold World.cell? at h
 unfold zcC
 split at h
 ·rename_i c t fr hb
  simp only [hb]
  simp at h
  exact (Array.getElem?_eq_some_iff.1 h).1
 ·cases h

theorem zuN {S : List TypeId} (hS : zkD P S = true) : ∀ (n : Nat) (t : TypeId) (cs : List Value) (x : DataW Hh × List MemPlace), t ∈ S → DataW.trod enc P w base spare held n t cs = some x →
  ∃ asx, All2 (DRel w (zcC w)) cs asx ∧ zbu P n t asx := by
 intro n
 induction n with
 | zero => intro t cs x _ h; simp [DataW.trod] at h
 | succ n ih =>
  intro t cs x ht h
  have hp := List.all_eq_true.1 hS t ht
  unfold zbu
  cases hu : P.underlying t with
  | none => simp [hu] at hp
  | some d =>
   rw [hu] at hp
   cases d <;> simp only [] at hp <;> try (cases hp; done)
   case bool =>
    obtain ⟨b, rfl, _⟩ := DataW.trod_bool hu h
    exact ⟨[.bool b], ⟨.bool b, trivial⟩, b, rfl⟩
   case int k =>
    obtain ⟨m, rfl, _, hw⟩ := DataW.trod_int hu h
    exact ⟨[.int k m], ⟨.int k m, trivial⟩, m, rfl, hw⟩
   case string =>
    obtain ⟨s, rfl, _, hw⟩ := DataW.trod_string hu h
    have hs : (⟨s.data.toList.toArray⟩ : ByteArray) = s := by simp
    refine ⟨[.str s.data.toList], ⟨?_, trivial⟩, s.data.toList, rfl, by rw [Array.length_toList]; exact hw⟩
    have := DRel.str (w := w) (L := zcC w) s.data.toList
    rwa [hs] at this
   case slice e =>
    simp only [Bool.and_eq_true, decide_eq_true_eq] at hp
    obtain ⟨⟨he, hpos⟩, _⟩ := hp
    have he : e ∈ S := by simpa using he
    rcases DataW.trod_slice hu h with ⟨rfl, _⟩ | ⟨a, len, cap, elems, rest, n', hn, rfl, _, hb, hl, hm, hlen, hel, _⟩
    ·exact ⟨[.sl [] .none], ⟨.slE _ _, trivial⟩, [], rfl, by simp, by simp⟩
    ·obtain rfl : n = n' := by omega
     have hat : ∀ i, i < len → ∃ cs asx, w.cells? base (a.add (i * P.cellsOf e)) (P.cellsOf e) = some cs ∧ All2 (DRel w (zcC w)) cs asx ∧ zbu P n e asx := by
      intro i hi
      have h1 := hel i hi
      rw [List.getElem?_eq_getElem (by omega)] at h1
      cases hc : w.cells? base (a.add (i * P.cellsOf e)) (P.cellsOf e) with
      | none => rw [hc] at h1; cases h1
      | some cs =>
       rw [hc] at h1
       obtain ⟨asx, h2, h3⟩ := ih e cs _ he h1
       exact ⟨cs, asx, rfl, h2, h3⟩
     by_cases h0 : len = 0
     ·subst h0
      exact ⟨[.sl [] .none], ⟨.slE _ _, trivial⟩, [], rfl, by simp, by simp⟩
     ·-- the address is a zbx one
      have hspot : a.spot = none := by
       obtain ⟨cs, asx, h1, h2, _⟩ := hat 0 (by omega)
       obtain ⟨h3, h4⟩ := zjU h1
       have h5 := h4 0 cs[0] (by simp)
       have := World.cell?_spot h5
       simpa [Addr.add] using this
      obtain ⟨b, off, sp⟩ := a
      simp only at hspot
      subst hspot
      obtain ⟨f, hf⟩ : ∃ f : Nat → List Value × List AV, ∀ i, i < len → w.cells? base ((⟨b, off, none⟩ : Addr).add (i * P.cellsOf e)) (P.cellsOf e) = some (f i).1 ∧ All2 (DRel w (zcC w)) (f i).1 (f i).2 ∧ zbu P n e (f i).2 :=
       Deep.choose_lt (p := fun i (y : List Value × List AV) => w.cells? base ((⟨b, off, none⟩ : Addr).add (i * P.cellsOf e)) (P.cellsOf e) = some y.1 ∧ All2 (DRel w (zcC w)) y.1 y.2 ∧ zbu P n e y.2)
        (fun i hi => by obtain ⟨cs, asx, h1, h2, h3⟩ := hat i hi; exact ⟨(cs, asx), h1, h2, h3⟩)
      have hcell : ∀ i, i < len → ∀ j v, (f i).1[j]? = some v → w.cell? ⟨b, off + i * P.cellsOf e + j, none⟩ = some v := by
       intro i hi j v hj
       have := (zjU (hf i hi).1).2 j v hj
       rw [add_lit, add_lit] at this
       exact this
      have hlen2 : ∀ i, i < len → (f i).2.length = P.cellsOf e := fun i hi => by
       rw [← (hf i hi).2.1.length]; exact (zjU (hf i hi).1).1
      refine ⟨[.sl ((List.range len).map fun i => (f i).2) .none], ⟨?_, trivial⟩, _, rfl, by simp; omega, ?_⟩
      ·have := DRel.sl (w := w) (L := zcC w) b off cap (P.cellsOf e) ((List.range len).map fun i => (f i).2) (fun i j => (f i).1.getD j undef) (by simp; exact h0) (by simpa using hl) ?_ ?_ ?_ ?_
       ·simpa using this
       ·-- the last cell is there
        have hi : len - 1 < len := by omega
        have hj : P.cellsOf e - 1 < (f (len - 1)).1.length := by rw [(zjU (hf _ hi).1).1]; omega
        have := zES (hcell (len - 1) hi (P.cellsOf e - 1) _ (List.getElem?_eq_getElem hj))
        have hmul : (len - 1) * P.cellsOf e + P.cellsOf e = len * P.cellsOf e := by
         rw [← Nat.succ_mul]; congr 1; omega
        simp
        omega
       ·intro i hi
        simp at hi
        simpa using hlen2 i hi
       ·intro i j hi hj
        simp at hi hj
        have hjl : j < (f i).1.length := by rw [(hf i hi).2.1.length]; exact hj
        simp only [List.getD_eq_getElem?_getD, List.getElem?_eq_getElem hjl, Option.getD_some]
        exact hcell i hi j _ (List.getElem?_eq_getElem hjl)
       ·intro i j hi hj
        simp at hi hj
        have hjl : j < (f i).1.length := by rw [(hf i hi).2.1.length]; exact hj
        obtain ⟨c, h1, h2⟩ := (hf i hi).2.1.get' (List.getElem?_eq_getElem hjl)
        simp only [List.getD_eq_getElem?_getD, List.getElem?_eq_getElem hjl, Option.getD_some, List.getElem_map, List.getElem_range]
        have : (f i).2[j] = c := by rw [List.getElem?_eq_getElem hj] at h1; exact Option.some.inj h1
        rw [this]
        exact h2
      ·intro c hc
       obtain ⟨i, hi, rfl⟩ := List.mem_map.1 hc
       exact (hf i (by simpa using hi)).2.2
   case struct fs =>
    simp only [Bool.and_eq_true] at hp
    obtain ⟨hfs, htile⟩ := hp
    obtain ⟨xs, n', hn, _, hcl, hxl, hat⟩ := DataW.trod_struct hu h
    obtain rfl : n = n' := by omega
    obtain ⟨asx, h1, h2⟩ := zuG (P := P) (R := DRel w (zcC w)) (cs := cs) fs.toList 0 (P.cellsOf t) (fun f asx => zbu P n f.type asx) htile hcl (fun f hf => by
     obtain ⟨i, hi⟩ := List.mem_iff_getElem?.1 hf
     have hi' : fs[i]? = some f := by simpa using hi
     have h3 := hat i f hi'
     have hlt : i < xs.length := by rw [hxl]; exact (Array.getElem?_eq_some_iff.1 hi').1
     rw [List.getElem?_eq_getElem hlt] at h3
     exact ih f.type _ _ (by simpa using List.all_eq_true.1 hfs f hf) h3) (Nat.zero_le _)
    rw [List.drop_zero] at h1
    refine ⟨asx, h1, by rw [← h1.length]; exact hcl, fun f hf => ?_⟩
    simpa using (h2 f hf).1
end

theorem zFe {Hh : Type} {enc : TypeId × Value → Hh} {P : Program} {w : World} {base : Nat} {spare : Nat → Bool} {held : Bool} {S : List TypeId} (hS : zkD P S = true) {t : TypeId} (ht : t ∈ S) {cs : Array Value} {d : DataW Hh} {p : List MemPlace}
  (h : DataW.Trod enc P w base spare held t (.agg cs) d p) : ∃ n asx, zbu P n t asx ∧ TRel w (G0 w) (.agg cs) (.agg asx) := by
 obtain ⟨n, hn⟩ := h
 obtain ⟨asx, h1, h2⟩ := zuN hS n t _ _ ht hn
 exact ⟨n, asx, h2, cs, rfl, h1.mono fun _ _ hd => ARel.of_b (DRel.toB (G := G0 w) hd)⟩
theorem zFd {Hh : Type} {enc : TypeId × Value → Hh} {P : Program} {w : World} {base : Nat} {spare : Nat → Bool} {held : Bool} {S : List TypeId} (hS : zkD P S = true) {t : TypeId} (ht : t ∈ S) {v : Value} {d : DataW Hh} {p : List MemPlace} (hv : v.cells = #[v])
  (h : DataW.Trod enc P w base spare held t v d p) : ∃ n a, zbu P n t [a] ∧ TRel w (G0 w) v a := by
 obtain ⟨n, hn⟩ := h
 obtain ⟨asx, h1, h2⟩ := zuN hS n t _ _ ht hn
 rw [hv] at h1
 match asx, h1, h2 with
 | [a], h1, h2 => exact ⟨n, a, h2, TRel.of_v (VRel.of_a (ARel.of_b (DRel.toB (G := G0 w) h1.1)))⟩
section
variable {P : Program} {n : Nat} {t : TypeId} {l : List AV}
theorem zeL {k : IntKind} (hu : P.underlying t = some (.int k)) (h : zbu P n t l) : ∃ m, l = [.int k m] ∧ (Lit.int k m).wf = true := by
 cases n with
 | zero => exact h.elim
 | succ n => unfold zbu at h; rw [hu] at h; exact h
theorem zpC (hu : P.underlying t = some .string) (h : zbu P n t l) : ∃ s, l = [.str s] ∧ s.length ≤ maxLen := by
 cases n with
 | zero => exact h.elim
 | succ n => unfold zbu at h; rw [hu] at h; exact h
theorem zdR {e : TypeId} (hu : P.underlying t = some (.slice e)) (h : zbu P n t l) : ∃ es n', n' < n ∧ l = [.sl es .none] ∧ es.length ≤ maxLen ∧ ∀ c ∈ es, zbu P n' e c := by
 cases n with
 | zero => exact h.elim
 | succ n => unfold zbu at h; rw [hu] at h; obtain ⟨es, h1, h2, h3⟩ := h; exact ⟨es, n, by omega, h1, h2, h3⟩
theorem zhB {fs : Array Field} (hu : P.underlying t = some (.struct fs)) (h : zbu P n t l) : ∃ n', n' < n ∧ l.length = P.cellsOf t ∧ ∀ f ∈ fs.toList, zbu P n' f.type ((l.drop f.offset).take (P.cellsOf f.type)) := by
 cases n with
 | zero => exact h.elim
 | succ n => unfold zbu at h; rw [hu] at h; exact ⟨n, by omega, h⟩
theorem zdJ {α : Type} {cs : α → List AV} : ∀ {es : List (List AV)}, (∀ c ∈ es, ∃ x, c = cs x) → ∃ xs : List α, es = xs.map cs
 | [], _ => ⟨[], rfl⟩
 | e :: es, h => by
  obtain ⟨x, hx⟩ := h e (by simp)
  obtain ⟨xs, hxs⟩ := zdJ (es := es) (fun c hc => h c (by simp [hc]))
  exact ⟨x :: xs, by simp [hx, hxs]⟩
end
end Go.Abs
namespace Go.Proofs.Ytkdmpbhbmmhijaa
open Go Go.Abs
set_option maxRecDepth 100000
theorem zs2 : zkD Try.prog [27, 22, 23, 24, 25, 67, 65, 69, 41, 43, 46, 35, 39, 2, 3, 9] = true := by kernel_rfl
theorem ce3 : Try.prog.cellsOf 3 = 1 := by kernel_rfl
theorem ce2 : Try.prog.cellsOf 2 = 1 := by kernel_rfl
theorem ce9 : Try.prog.cellsOf 9 = 1 := by kernel_rfl
theorem zD5 : Try.prog.cellsOf 22 = 1 := by kernel_rfl
theorem zD6 : Try.prog.cellsOf 23 = 1 := by kernel_rfl
theorem zn3 : Try.prog.cellsOf 24 = 1 := by kernel_rfl
theorem zD7 : Try.prog.cellsOf 25 = 1 := by kernel_rfl
theorem zsT : Try.prog.cellsOf 35 = 1 := by kernel_rfl
theorem zD9 : Try.prog.cellsOf 39 = 1 := by kernel_rfl
theorem zEc : Try.prog.cellsOf 65 = 1 := by kernel_rfl
theorem zn4 : Try.prog.cellsOf 41 = 3 := by kernel_rfl
theorem zEa : Try.prog.cellsOf 43 = 8 := by kernel_rfl
theorem zEb : Try.prog.cellsOf 46 = 7 := by kernel_rfl
theorem zEd : Try.prog.cellsOf 67 = 3 := by kernel_rfl
theorem zEe : Try.prog.cellsOf 69 = 2 := by kernel_rfl
theorem zD8 : Try.prog.cellsOf 27 = 4 := by kernel_rfl
theorem zkY : ∀ (n : Nat) (l : List AV), zbu Try.prog n 41 l → ∃ v : VT, l = v.cs := by
 intro n
 induction n using Nat.strongRecOn with
 | _ n ih =>
  intro l h
  obtain ⟨n', hn, hl, hf⟩ := zhB Try.underlying41 h
  rw [zn4] at hl
  match l, hl with
  | [a, b, c], _ =>
   simp [ce3, zn3] at hf
   obtain ⟨h1, h2, h3⟩ := hf
   obtain ⟨k, hk, _⟩ := zeL Try.underlying3 h1
   obtain ⟨m, hm, _⟩ := zeL Try.underlying3 h2
   obtain ⟨es, n2, hn2, hes, _, hel⟩ := zdR Try.underlying24 h3
   obtain ⟨ks, hks⟩ := zdJ (cs := VT.cs) (fun c hc => ih n2 (by omega) c (hel c hc))
   simp at hk hm hes
   exact ⟨.mk k m ks, by simp [VT.cs, VT.css_map, hk, hm, hes, hks]⟩
theorem ziM (n : Nat) (a : AV) (h : zbu Try.prog n 35 [a]) : ∃ l : List Int, a = .sl (ints l) .none := by
 obtain ⟨es, n2, hn2, hes, _, hel⟩ := zdR Try.underlying35 h
 obtain ⟨ks, hks⟩ := zdJ (cs := fun n : Int => [AV.int .i64 n]) (fun c hc => by
  obtain ⟨m, hm, _⟩ := zeL Try.underlying3 (hel c hc)
  exact ⟨m, hm⟩)
 simp at hes
 exact ⟨ks, by rw [hes, hks]; rfl⟩
theorem zFM (n : Nat) (a : AV) (h : zbu Try.prog n 39 [a]) : ∃ l : List (List Int), a = .sl (rows l) .none := by
 obtain ⟨es, n2, hn2, hes, _, hel⟩ := zdR Try.underlying39 h
 obtain ⟨ks, hks⟩ := zdJ (cs := fun r : List Int => [AV.sl (ints r) .none]) (fun c hc => by
  obtain ⟨es2, _, _, h2, _⟩ := zdR Try.underlying35 (hel c hc)
  subst h2
  obtain ⟨l, hl⟩ := ziM n2 _ (hel _ hc)
  exact ⟨l, by rw [hl]⟩)
 simp at hes
 exact ⟨ks, by rw [hes, hks]; rfl⟩
theorem zEl (n : Nat) (l : List AV) (h : zbu Try.prog n 69 l) : ∃ c : Con, l = c.cs := by
 obtain ⟨n', hn, hl, hf⟩ := zhB Try.underlying69 h
 rw [zEe] at hl
 match l, hl with
 | [a, b], _ =>
  simp [ce9, zn3] at hf
  obtain ⟨h1, h2⟩ := hf
  obtain ⟨s, hs, _⟩ := zpC Try.underlying9 h1
  obtain ⟨es, n2, hn2, hes, _, hel⟩ := zdR Try.underlying24 h2
  obtain ⟨ks, hks⟩ := zdJ (cs := VT.cs) (fun c hc => zkY n2 c (hel c hc))
  simp at hs hes
  exact ⟨⟨s, ks⟩, by simp [Con.cs, VT.css_map, hs, hes, hks]⟩
theorem zEo (n : Nat) (l : List AV) (h : zbu Try.prog n 67 l) : ∃ d : Dat, l = d.cs := by
 obtain ⟨n', hn, hl, hf⟩ := zhB Try.underlying67 h
 rw [zEd] at hl
 match l, hl with
 | [a, b, c], _ =>
  simp [ce9, ce3, zEc] at hf
  obtain ⟨h1, h2, h3⟩ := hf
  obtain ⟨s, hs, _⟩ := zpC Try.underlying9 h1
  obtain ⟨m, hm, _⟩ := zeL Try.underlying3 h2
  obtain ⟨es, n2, hn2, hes, _, hel⟩ := zdR Try.underlying65 h3
  obtain ⟨ks, hks⟩ := zdJ (cs := Con.cs) (fun c hc => zEl n2 c (hel c hc))
  simp at hs hm hes
  exact ⟨⟨s, m, ks⟩, by simp [Dat.cs, hs, hm, hes, hks]⟩
theorem zEj (n : Nat) (l : List AV) (h : zbu Try.prog n 46 l) : ∃ d : Cod, l = d.cs := by
 obtain ⟨n', hn, hl, hf⟩ := zhB Try.underlying46 h
 rw [zEb] at hl
 match l, hl with
 | [a, b, c, d, e, f, g], _ =>
  simp [ce9, ce3, zsT, zn4] at hf
  obtain ⟨h1, h2, h3, h4, h5⟩ := hf
  obtain ⟨s, hs, _⟩ := zpC Try.underlying9 h1
  obtain ⟨p, hp⟩ := ziM _ _ h2
  obtain ⟨q, hq⟩ := ziM _ _ h3
  obtain ⟨t, ht⟩ := zkY _ _ h4
  obtain ⟨m, hm, _⟩ := zeL Try.underlying3 h5
  simp at hs hm
  exact ⟨⟨s, p, q, t, m⟩, by simp [Cod.cs, hs, hp, hq, hm, ← ht]⟩
theorem zEf (n : Nat) (l : List AV) (h : zbu Try.prog n 43 l) : ∃ d : CEx, l = d.cs := by
 obtain ⟨n', hn, hl, hf⟩ := zhB Try.underlying43 h
 rw [zEa] at hl
 match l, hl with
 | [a, b, c, d, e, f, g, i], _ =>
  simp [ce2, ce3, zsT, zD9, zn4] at hf
  obtain ⟨h1, h2, h3, h4, h5, h6⟩ := hf
  obtain ⟨o, ho, _⟩ := zeL Try.underlying3 h1
  obtain ⟨m, hm, _⟩ := zeL Try.underlying2 h2
  obtain ⟨p, hp⟩ := ziM _ _ h3
  obtain ⟨q, hq⟩ := zFM _ _ h4
  obtain ⟨r, hr⟩ := ziM _ _ h5
  obtain ⟨t, ht⟩ := zkY _ _ h6
  simp at ho hm
  exact ⟨⟨o, m, p, q, r, t⟩, by simp [CEx.cs, ho, hm, hp, hq, hr, ← ht]⟩
theorem zEn (n : Nat) (l : List AV) (h : zbu Try.prog n 27 l) : ∃ c : Cor, l = c.cs ∧ c.data.length ≤ 9223372036854775807 ∧ c.vars.length ≤ 9223372036854775807 := by
 obtain ⟨n', hn, hl, hf⟩ := zhB Try.underlying27 h
 rw [zD8] at hl
 match l, hl with
 | [a, b, c, d], _ =>
  simp [zD5, zD6, zn3, zD7] at hf
  obtain ⟨h1, h2, h3, h4⟩ := hf
  obtain ⟨es1, n1, _, hes1, hm1, hel1⟩ := zdR Try.underlying22 h1
  obtain ⟨es2, n2, _, hes2, _, hel2⟩ := zdR Try.underlying23 h2
  obtain ⟨es3, n3, _, hes3, hm3, hel3⟩ := zdR Try.underlying24 h3
  obtain ⟨es4, n4, _, hes4, _, hel4⟩ := zdR Try.underlying25 h4
  obtain ⟨k1, hk1⟩ := zdJ (cs := Dat.cs) (fun c hc => zEo n1 c (hel1 c hc))
  obtain ⟨k2, hk2⟩ := zdJ (cs := Cod.cs) (fun c hc => zEj n2 c (hel2 c hc))
  obtain ⟨k3, hk3⟩ := zdJ (cs := VT.cs) (fun c hc => zkY n3 c (hel3 c hc))
  obtain ⟨k4, hk4⟩ := zdJ (cs := CEx.cs) (fun c hc => zEf n4 c (hel4 c hc))
  simp at hes1 hes2 hes3 hes4
  refine ⟨⟨k1, k2, k3, k4⟩, by simp [Cor.cs, VT.css_map, hes1, hes2, hes3, hes4, hk1, hk2, hk3, hk4], ?_, ?_⟩
  ·rw [hk1] at hm1; simpa [maxLen] using hm1
  ·rw [hk3] at hm3; simpa [maxLen] using hm3
end Go.Proofs.Ytkdmpbhbmmhijaa
