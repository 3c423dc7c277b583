/- Tails: sets as arrays. -/
import Derived.Test.YtkdmpbhbmmhijaaKQb
import Derived.Test.YtkdmpbhbmmhijaaKGX
namespace Go.Proofs.Ytkdmpbhbmmhijaa
open Go Go.Abs
set_option linter.unusedSimpArgs false
set_option linter.unusedVariables false
set_option maxRecDepth 8000
theorem put_spec {H : Heap} {id n : Nat} {l : List Int} {st : List Bool} {b : Bool} (hid : H[id]? = some (boB st)) (hst : st.length = n) (hl : l.length ≤ 1000000) (hr : ∀ x ∈ l, 0 ≤ x ∧ x < (n : Int)) (K : Kt)
    (hK : K (.tup []) (H.set id (boB (setF st l b)))) : ACalls tP n_zq55 [.ms id 0 n n, .sl (ints l) .none, .bool b] H K := by
  refine zq55_ok fun hs => ?_
  have hil := lt_get hid
  simp [zq55]
  refine zq55_loop1 (Inv := fun q t10 H' => ∃ j : Nat, j ≤ l.length ∧ q = l.length - j ∧ t10 = .int .i64 j ∧ H' = H.set id (boB (setF st (l.take j) b))) l.length ?_ ?_
  · intro _; exact ⟨0, by omega, by omega, rfl, by simp [setF, set_self hid]⟩
  · rintro q t10 H' ⟨j, hj, rfl, rfl, rfl⟩ hsc hlen hsF Kb hKb
    have hg : ∀ st, (H.set id (boB st))[id]? = some (.cells (bools st)) := fun us => by rw [set_get _ hid]; rfl
    by_cases hjl : j < l.length
    · have hrr := hr _ (List.getElem_mem hjl)
      obtain ⟨e, he⟩ : ∃ e : Nat, l[j] = e := ⟨(l[j]).toNat, by omega⟩
      have hen : e < n := by omega
      have hnx : setF st (l.take (j + 1)) b = (setF st (l.take j) b).set e b := by rw [take_snoc hjl, setF_snoc, he]; rfl
      have hsl : (setF st (l.take j) b).length = n := by rw [setF_len, hst]
      generalize setF st (l.take j) b = st1 at *
      simp [zq55_b1, hjl, he, hen, hg, hsl]
      rw [wrap_in (by omega) (by omega), bools_set (by omega)]
      refine ⟨by omega, hKb _ _ ⟨l.length - (j + 1), by omega, Back.here (by simp) (hs.set (by simp [AB.sc, bools_sc])) ?_ ⟨_, rfl, j + 1, by omega, rfl, by simp, by rw [hnx]; rfl⟩⟩⟩
      simp [zq55_fr1, AV.sc, AV.scV, AV.scA, AV.scB]; omega
    · obtain rfl : j = l.length := by omega
      rw [List.take_length] at *
      simp [zq55_b1]
      simpa [aRet] using hK
/-- The marked numbers, ascending. -/
def mem (st : List Bool) : List Int := ((List.range st.length).filter fun i => st.getD i false).map fun (i : Nat) => (i : Int)
def memTo (st : List Bool) (k : Nat) : List Int := ((List.range k).filter fun i => st.getD i false).map fun (i : Nat) => (i : Int)
theorem memTo_succ (st : List Bool) (k : Nat) : memTo st (k + 1) = memTo st k ++ (if st.getD k false = true then [(k : Int)] else []) := by
  rw [memTo, List.range_succ, List.filter_append, List.map_append, memTo]
  cases h : st.getD k false with
  | false =>
    have h' : st[k]?.getD false = false := by simpa using h
    simp [List.filter_cons, h']
  | true =>
    have h' : st[k]?.getD false = true := by simpa using h
    simp [List.filter_cons, h']
theorem memTo_len (st : List Bool) (k : Nat) : (memTo st k).length ≤ k := by
  rw [memTo, List.length_map]
  exact Nat.le_trans (List.length_filter_le _ _) (by simp)
theorem zq56_spec {H : Heap} {id n : Nat} {st : List Bool} (hid : H[id]? = some (boB st)) (hst : st.length = n) (hn : n ≤ 1000000) (K : Kt) (hK : K (.sl (ints (mem st)) .none) H) : ACalls tP n_zq56 [.ms id 0 n n] H K := by
  refine ACalls.out (zq56_ok fun hs => ?_)
  have hil := lt_get hid
  have hgJ : ∀ J, (H ++ J)[id]? = some (.cells (bools st)) := fun J => app_get hid
  subst hst
  simp [zq56]
  unfold zq56_l3
  refine ALoop.own 3 e_int 1 rfl ?_
  show zq56_l3 (.sl [] (.own H.length)) (.ms id 0 st.length st.length) (.int .i64 st.length) (.int .i64 0) (H ++ [.perm e_int 1 0]) (Out H.length K)
  refine zq56_loop3 (Inv := fun q t3 tI H' => ∃ i : Nat, i ≤ st.length ∧ q = st.length - i ∧ tI = .int .i64 i ∧ t3 = .sl (ints (memTo st i)) (.own H.length) ∧ H' = H ++ [.perm e_int 1 (memTo st i).length]) st.length ?_ ?_
  · intro _; exact ⟨0, by omega, by omega, rfl, by simp [memTo, ints], by simp [memTo]⟩
  rintro q t3 tI H' ⟨i, hi, rfl, rfl, rfl, rfl⟩ hsc hlen hsF Kb hKb
  have hml := memTo_len st i
  by_cases hlt : i < st.length
  · have hsu := memTo_succ st i
    have hgd : st.getD i false = st[i] := by rw [List.getD_eq_getElem?_getD, List.getElem?_eq_getElem hlt]; rfl
    rw [hgd] at hsu
    have back : ∀ l, memTo st (i + 1) = l → Kb (zq56_fr3 (.sl (ints l) (.own H.length)) (.ms id 0 st.length st.length) (.int .i64 st.length) (.int .i64 ((i : Int) + 1))) (H ++ [.perm e_int 1 l.length]) := fun l h => by
      subst h
      refine hKb _ _ ⟨st.length - (i + 1), by omega, Back.here (by simp) (hs.append rfl) ?_ ⟨_, _, rfl, i + 1, by omega, rfl, by simp, rfl, rfl⟩⟩
      simp [zq56_fr3, AV.sc, AV.scV, AV.scA, AV.scB]; omega
    cases hb : st[i] with
    | false =>
      rw [hb, if_neg (by simp), List.append_nil] at hsu
      have := back _ hsu
      simp [zq56_b3, zq56_j1, zq56_j2, hlt, hgJ, aCells, hb]
      rw [wrap_in (by omega) (by omega)]
      exact this
    | true =>
      rw [hb, if_pos rfl] at hsu
      have := back _ hsu
      simp [zq56_b3, zq56_j1, zq56_j2, hlt, hgJ, aCells, hb]
      rw [show ∀ k : AV → Prop, aBuildS 1 [.int .i64 0] 1 [(0, .int .i64 (i : Int))] k = k (.sl [[.int .i64 (i : Int)]] .full) from fun k => propext Iff.rfl]
      simp [aAppend, aSrc, aAppTo]
      refine ⟨⟨by omega, by omega⟩, ?_⟩
      rw [wrap_in (by omega) (by omega)]
      simpa [ints] using this
  · obtain rfl : i = st.length := by omega
    simp [zq56_b3]
    exact Out.one hs (.atom (.sl _ _)) rfl rfl hK
theorem zq58_spec {H : Heap} {id n : Nat} {st : List Bool} (hid : H[id]? = some (boB st)) (hst : st.length = n) (hn : n ≤ 1000000) (K : Kt) (hK : K (.sl (ints (mem st)) .none) H) : ACalls tP n_zq58 [.ms id 0 n n] H K := by
  refine ACalls.out (zq58_ok fun hs => ?_)
  have hil := lt_get hid
  have hgJ : ∀ J, (H ++ J)[id]? = some (.cells (bools st)) := fun J => app_get hid
  subst hst
  simp [zq58]
  unfold zq58_l3
  refine ALoop.own 3 e_int 1 rfl ?_
  show zq58_l3 (.ms id 0 st.length st.length) (.sl [] (.own H.length)) (.int .i64 st.length) (.int .i64 0) (H ++ [.perm e_int 1 0]) (Out H.length K)
  refine zq58_loop3 (Inv := fun q t3 tI H' => ∃ i : Nat, i ≤ st.length ∧ q = st.length - i ∧ tI = .int .i64 i ∧ t3 = .sl (ints (memTo st i)) (.own H.length) ∧ H' = H ++ [.perm e_int 1 (memTo st i).length]) st.length ?_ ?_
  · intro _; exact ⟨0, by omega, by omega, rfl, by simp [memTo, ints], by simp [memTo]⟩
  rintro q t3 tI H' ⟨i, hi, rfl, rfl, rfl, rfl⟩ hsc hlen hsF Kb hKb
  have hml := memTo_len st i
  by_cases hlt : i < st.length
  · have hsu := memTo_succ st i
    have hgd : st.getD i false = st[i] := by rw [List.getD_eq_getElem?_getD, List.getElem?_eq_getElem hlt]; rfl
    rw [hgd] at hsu
    have back : ∀ l, memTo st (i + 1) = l → Kb (zq58_fr3 (.ms id 0 st.length st.length) (.sl (ints l) (.own H.length)) (.int .i64 st.length) (.int .i64 ((i : Int) + 1))) (H ++ [.perm e_int 1 l.length]) := fun l h => by
      subst h
      refine hKb _ _ ⟨st.length - (i + 1), by omega, Back.here (by simp) (hs.append rfl) ?_ ⟨_, _, rfl, i + 1, by omega, rfl, by simp, rfl, rfl⟩⟩
      simp [zq58_fr3, AV.sc, AV.scV, AV.scA, AV.scB]; omega
    cases hb : st[i] with
    | false =>
      rw [hb, if_neg (by simp), List.append_nil] at hsu
      have := back _ hsu
      simp [zq58_b3, zq58_j1, zq58_j2, hlt, hgJ, aCells, hb]
      rw [wrap_in (by omega) (by omega)]
      exact this
    | true =>
      rw [hb, if_pos rfl] at hsu
      have := back _ hsu
      simp [zq58_b3, zq58_j1, zq58_j2, hlt, hgJ, aCells, hb]
      rw [show ∀ k : AV → Prop, aBuildS 1 [.int .i64 0] 1 [(0, .int .i64 (i : Int))] k = k (.sl [[.int .i64 (i : Int)]] .full) from fun k => propext Iff.rfl]
      simp [aAppend, aSrc, aAppTo]
      refine ⟨⟨by omega, by omega⟩, ?_⟩
      rw [wrap_in (by omega) (by omega)]
      simpa [ints] using this
  · obtain rfl : i = st.length := by omega
    simp [zq58_b3]
    exact Out.one hs (.atom (.sl _ _)) rfl rfl hK
def tk (e : CEx) : List Int := if e.op = 7 then [e.kids.getD 1 0] else if e.op = 8 ∨ e.op = 9 ∨ e.op = 10 ∨ e.op = 24 then e.kids else []
def lf (e : CEx) : Bool := !(e.op == 7 || e.op == 8 || e.op == 9 || e.op == 10 || e.op == 24)
def tkAt (c : Cor) (i : Nat) : List Int := match c.exprs[i]? with | some e => tk e | none => []
def lfAt (c : Cor) (i : Nat) : Bool := match c.exprs[i]? with | some e => lf e | none => true
def tailsF (c : Cor) : Nat → Nat → List Bool → List Bool
  | 0, _, st => st
  | m + 1, i, st => if lfAt c i = true then st.set i true else (tkAt c i).foldl (fun st k => tailsF c m k.toNat st) st
inductive TR (c : Cor) (b : Nat) : Nat → Prop
  | base : TR c b b
  | step {p v : Nat} (h : TR c b p) (hk : (v : Int) ∈ tkAt c p) : TR c b v
theorem TR.front {c : Cor} {b k v : Nat} (hk : (k : Int) ∈ tkAt c b) (h : TR c k v) : TR c b v := by
  induction h with
  | base => exact .step .base hk
  | step h hk2 ih => exact .step ih hk2
theorem TR.cases_front {c : Cor} {b v : Nat} (hn : ∀ k ∈ tkAt c b, 0 ≤ k) (h : TR c b v) : v = b ∨ ∃ k : Nat, (k : Int) ∈ tkAt c b ∧ TR c k v := by
  induction h with
  | base => exact .inl rfl
  | step h hk ih =>
    rename_i p v
    rcases ih with rfl | ⟨k, h1, h2⟩
    · exact .inr ⟨v, hk, .base⟩
    · exact .inr ⟨k, h1, .step h2 hk⟩
structure TkP (c : Cor) : Prop where
  up : ∀ i, i < c.exprs.length → ∀ k ∈ tkAt c i, (i : Int) < k ∧ k < c.exprs.length
theorem lf_tk {c : Cor} {i : Nat} (h : lfAt c i = true) : tkAt c i = [] := by
  unfold lfAt at h
  unfold tkAt
  cases he : c.exprs[i]? with
  | none => rfl
  | some e =>
    rw [he] at h
    simp [lf] at h
    simp [tk, h]
theorem tailsF_len (c : Cor) : ∀ (m i : Nat) (st : List Bool), (tailsF c m i st).length = st.length := by
  intro m
  induction m with
  | zero => intro i st; rfl
  | succ m ih =>
    intro i st
    rw [tailsF]
    split
    · simp
    · generalize tkAt c i = l
      induction l generalizing st with
      | nil => rfl
      | cons k l ihl => rw [List.foldl_cons, ihl, ih]
theorem tailsF_iff {c : Cor} (hp : TkP c) : ∀ (m i : Nat), c.exprs.length - i ≤ m → i < c.exprs.length → ∀ (st : List Bool), st.length = c.exprs.length → ∀ v, (tailsF c m i st).getD v false = true ↔ st.getD v false = true ∨ (TR c i v ∧ lfAt c v = true) := by
  intro m
  induction m with
  | zero => intro i h1 h2; omega
  | succ m ih =>
    intro i hm hi st hst v
    rw [tailsF]
    have hup := hp.up i hi
    by_cases hl : lfAt c i = true
    · rw [if_pos hl, set_getD]
      have htk := lf_tk hl
      constructor
      · intro h
        by_cases hv : i = v ∧ v < st.length
        · obtain ⟨rfl, _⟩ := hv
          exact .inr ⟨.base, hl⟩
        · rw [if_neg hv] at h; exact .inl h
      · rintro (h | ⟨h, h2⟩)
        · by_cases hv : i = v ∧ v < st.length
          · rw [if_pos hv]
          · rw [if_neg hv]; exact h
        · rcases TR.cases_front (fun k hk => by rw [htk] at hk; cases hk) h with rfl | ⟨k, hk, _⟩
          · rw [if_pos ⟨rfl, by omega⟩]
          · rw [htk] at hk; cases hk
    · rw [if_neg hl]
      have key : ∀ (l : List Int), (∀ k ∈ l, (i : Int) < k ∧ k < c.exprs.length) → ∀ st : List Bool, st.length = c.exprs.length → ((l.foldl (fun st k => tailsF c m k.toNat st) st).getD v false = true ↔ st.getD v false = true ∨ ∃ k ∈ l, TR c k.toNat v ∧ lfAt c v = true) := by
        intro l
        induction l with
        | nil => intro _ st _; simp
        | cons k l ihl =>
          intro hr st hst
          have hk := hr k (by simp)
          rw [List.foldl_cons, ihl (fun x hx => hr x (by simp [hx])) _ (by rw [tailsF_len]; exact hst), ih k.toNat (by omega) (by omega) st hst v]
          simp
          grind
      rw [key _ hup st hst]
      constructor
      · rintro (h | ⟨k, hk, h1, h2⟩)
        · exact .inl h
        · have := hup k hk
          exact .inr ⟨TR.front (k := k.toNat) (by rw [Int.toNat_of_nonneg (by omega)]; exact hk) h1, h2⟩
      · rintro (h | ⟨h, h2⟩)
        · exact .inl h
        · rcases TR.cases_front (fun k hk => by have := hup k hk; omega) h with rfl | ⟨k, hk, h3⟩
          · exact absurd h2 hl
          · exact .inr ⟨k, hk, by simpa using h3, h2⟩
def tpStep (c : Cor) (i : Nat) (st : List Bool) : List Bool := if st.getD i false = false ∨ lfAt c i = true then st else setF (st.set i false) (tkAt c i) true
def tpTo (c : Cor) (b : Nat) : Nat → List Bool
  | 0 => (List.replicate c.exprs.length false).set b true
  | i + 1 => tpStep c i (tpTo c b i)
theorem tpTo_len (c : Cor) (b : Nat) : ∀ i, (tpTo c b i).length = c.exprs.length
  | 0 => by simp [tpTo]
  | i + 1 => by rw [tpTo, tpStep]; split <;> simp [tpTo_len c b i]
theorem setF_true_iff (l : List Int) : ∀ (st : List Bool), (∀ x ∈ l, 0 ≤ x ∧ x < (st.length : Int)) → ∀ v, (setF st l true).getD v false = true ↔ st.getD v false = true ∨ (v : Int) ∈ l := by
  induction l with
  | nil => intro st _ v; simp [setF]
  | cons a l ih =>
    intro st hr v
    have ha := hr a (by simp)
    rw [setF_cons, ih _ (fun x hx => by simpa using hr x (by simp [hx])) v, set_getD]
    by_cases hv : a.toNat = v ∧ v < st.length
    · rw [if_pos hv]
      have : (v : Int) = a := by omega
      simp [this]
    · rw [if_neg hv]
      have : ¬ (v : Int) = a := by intro h; exact hv (by omega)
      simp [this]
theorem tpTo_iff {c : Cor} (hp : TkP c) {b : Nat} (hb : b < c.exprs.length) : ∀ i, i ≤ c.exprs.length → ∀ v, (tpTo c b i).getD v false = true ↔ (v < i ∧ TR c b v ∧ lfAt c v = true) ∨ (i ≤ v ∧ (v = b ∨ ∃ p, p < i ∧ TR c b p ∧ (v : Int) ∈ tkAt c p)) := by
  intro i
  induction i with
  | zero =>
    intro _ v
    rw [tpTo, set_getD]
    have hrep : (List.replicate c.exprs.length false).getD v false = false := by
      rw [List.getD_eq_getElem?_getD, List.getElem?_replicate]
      split <;> rfl
    by_cases hv : b = v ∧ v < (List.replicate c.exprs.length false).length
    · rw [if_pos hv]; simp [hv.1]
    · rw [if_neg hv, hrep]
      have : ¬ v = b := by intro h; subst h; exact hv ⟨rfl, by simpa using hb⟩
      simp [this]
  | succ i ih =>
    intro hi v
    have ih := ih (by omega)
    have hlt : i < c.exprs.length := by omega
    have hTi : (tpTo c b i).getD i false = true ↔ TR c b i := by
      rw [ih i]
      constructor
      · rintro (h | ⟨_, rfl | ⟨p, _, h1, h2⟩⟩)
        · omega
        · exact .base
        · exact .step h1 h2
      · intro h
        refine .inr ⟨Nat.le_refl _, ?_⟩
        cases h with
        | base => exact .inl rfl
        | step h hk =>
          rename_i p
          refine .inr ⟨p, ?_, h, hk⟩
          by_cases hpl : p < c.exprs.length
          · have := (hp.up p hpl _ hk).1; omega
          · rw [tkAt, List.getElem?_eq_none (by omega)] at hk; cases hk
    have hln := tpTo_len c b i
    rw [tpTo, tpStep]
    by_cases h1 : (tpTo c b i).getD i false = false ∨ lfAt c i = true
    · rw [if_pos h1, ih v]
      have hno : TR c b i → lfAt c i = true := fun h => by
        rcases h1 with h2 | h2
        · rw [hTi.2 h] at h2; cases h2
        · exact h2
      have htk : TR c b i → tkAt c i = [] := fun h => lf_tk (hno h)
      constructor
      · rintro (⟨h2, h3⟩ | ⟨h2, h3⟩)
        · exact .inl ⟨by omega, h3⟩
        · by_cases hvi : v = i
          · subst hvi
            have hT := hTi.1 ((ih v).2 (.inr ⟨h2, h3⟩))
            exact .inl ⟨by omega, hT, hno hT⟩
          · refine .inr ⟨by omega, ?_⟩
            rcases h3 with h3 | ⟨p, hp1, hp2⟩
            · exact .inl h3
            · exact .inr ⟨p, by omega, hp2⟩
      · rintro (⟨h2, h3, h4⟩ | ⟨h2, h3⟩)
        · by_cases hvi : v = i
          · subst hvi
            exact (ih v).1 (hTi.2 h3)
          · exact .inl ⟨by omega, h3, h4⟩
        · refine .inr ⟨by omega, ?_⟩
          rcases h3 with h3 | ⟨p, hp1, hp2, hp3⟩
          · exact .inl h3
          · by_cases hpi : p = i
            · subst hpi; rw [htk hp2] at hp3; cases hp3
            · exact .inr ⟨p, by omega, hp2, hp3⟩
    · have h2 : (tpTo c b i).getD i false = true := by
        cases h : (tpTo c b i).getD i false with
        | true => rfl
        | false => exact absurd (.inl h) h1
      have h3 : ¬ lfAt c i = true := fun h => h1 (.inr h)
      have hT := hTi.1 h2
      have hup := hp.up i hlt
      rw [if_neg h1, setF_true_iff _ _ (fun x hx => by have := hup x hx; simp [hln]; omega) v, set_getD]
      by_cases hvi : v = i
      · subst hvi
        rw [if_pos ⟨rfl, by omega⟩]
        constructor
        · rintro (h | h)
          · cases h
          · have := hup _ h; omega
        · rintro (⟨_, _, h⟩ | ⟨h, _⟩)
          · exact absurd h h3
          · omega
      · rw [if_neg (fun h => hvi h.1.symm), ih v]
        constructor
        · rintro ((⟨h4, h5⟩ | ⟨h4, h5⟩) | h)
          · exact .inl ⟨by omega, h5⟩
          · refine .inr ⟨by omega, ?_⟩
            rcases h5 with h5 | ⟨p, hp1, hp2⟩
            · exact .inl h5
            · exact .inr ⟨p, by omega, hp2⟩
          · have := hup _ h
            exact .inr ⟨by omega, .inr ⟨i, by omega, hT, h⟩⟩
        · rintro (⟨h4, h5⟩ | ⟨h4, h5⟩)
          · exact .inl (.inl ⟨by omega, h5⟩)
          · rcases h5 with h5 | ⟨p, hp1, hp2, hp3⟩
            · exact .inl (.inr ⟨by omega, .inl h5⟩)
            · by_cases hpi : p = i
              · subst hpi; exact .inr hp3
              · exact .inl (.inr ⟨by omega, .inr ⟨p, by omega, hp2, hp3⟩⟩)
theorem tails_eq {c : Cor} (hp : TkP c) {b : Nat} (hb : b < c.exprs.length) : tpTo c b c.exprs.length = tailsF c c.exprs.length b (List.replicate c.exprs.length false) := by
  apply List.ext_getElem
  · rw [tpTo_len, tailsF_len]; simp
  · intro v h1 h2
    have hv : v < c.exprs.length := by rw [tpTo_len] at h1; exact h1
    have e1 : (tpTo c b c.exprs.length).getD v false = (tpTo c b c.exprs.length)[v] := by rw [List.getD_eq_getElem?_getD, List.getElem?_eq_getElem h1]; rfl
    have e2 : (tailsF c c.exprs.length b (List.replicate c.exprs.length false)).getD v false = (tailsF c c.exprs.length b (List.replicate c.exprs.length false))[v] := by rw [List.getD_eq_getElem?_getD, List.getElem?_eq_getElem h2]; rfl
    refine bool_eq ?_
    rw [← e1, ← e2, tpTo_iff hp hb _ (Nat.le_refl _), tailsF_iff hp _ b (by omega) hb _ (by simp)]
    have hrep : (List.replicate c.exprs.length false).getD v false = false := by
      rw [List.getD_eq_getElem?_getD, List.getElem?_replicate]
      split <;> rfl
    rw [hrep]
    constructor
    · rintro (⟨_, h⟩ | ⟨h, _⟩)
      · exact .inr h
      · omega
    · rintro (h | h)
      · cases h
      · exact .inl ⟨hv, h⟩
theorem SameInts_spec (x y : List Int) (hl : x.length ≤ 1000000) (H : Heap) (K : Kt) (hK : K (.bool (x == y)) H) : ACalls tP n_zq19 [.sl (ints x) .none, .sl (ints y) .none] H K := by
  refine ACalls.out (zq19_ok fun hs => ?_)
  have hO : ∀ r, (x == y) = r → Out H.length K (.bool r) H := fun r h => by
    have := Out.bool (H2 := H) (J := []) (n := H.length) (H' := H) (b := (x == y)) (by simp) (Nat.le_refl _) hs hK
    rwa [h] at this
  by_cases hxy : x.length = y.length
  · have h1 : ((x.length : Int) != y.length) = false := by simp [hxy]
    simp [zq19, h1]
    refine zq19_loop4 (Inv := fun q t13 H' => ∃ i : Nat, i ≤ x.length ∧ q = x.length - i ∧ t13 = .int .i64 i ∧ (x.drop i == y.drop i) = (x == y) ∧ H' = H) x.length ?_ ?_
    · intro _; exact ⟨0, by omega, by omega, rfl, by simp, rfl⟩
    rintro q t13 H' ⟨i, hi, rfl, rfl, ho, rfl⟩ hsc hlen hsF Kb hKb
    by_cases hlt : i < x.length
    · have hlt' : i < y.length := by omega
      rw [List.drop_eq_getElem_cons hlt, List.drop_eq_getElem_cons hlt', List.cons_beq_cons] at ho
      by_cases he : x[i] = y[i]
      · rw [he, beq_self_eq_true, Bool.true_and] at ho
        simp [zq19_b4, hlt, hlt', he]
        rw [wrap_in (by omega) (by omega)]
        refine hKb _ _ ⟨x.length - (i + 1), by omega, Back.here (Nat.le_refl _) hsc ?_ ⟨_, rfl, i + 1, by omega, rfl, by simp, ho, rfl⟩⟩
        simp [zq19_fr4, AV.sc, AV.scV, AV.scA, AV.scB]
      · rw [nb he, Bool.false_and] at ho
        simp [zq19_b4, hlt, hlt', nbt he]
        exact hO _ ho.symm
    · obtain rfl : i = x.length := by omega
      rw [List.drop_length, hxy, List.drop_length] at ho
      simp [zq19_b4]
      exact hO _ (by rw [← ho]; rfl)
  · have h1 : ((x.length : Int) != y.length) = true := nbt (by omega)
    simp [zq19, h1]
    refine hO _ ?_
    rw [beq_eq_false_iff_ne]
    intro h; exact hxy (by rw [h])
theorem let_shape {c : Cor} {e : CEx} (h : progRule c e = true) (h7 : e.op = 7) : ∃ x k0 k1, e.binds = [[], [x]] ∧ e.kids = [k0, k1] := by
  simp [progRule, isNum, isPar, restR, parR, h7, shapeB] at h
  obtain ⟨_, ⟨_, h1⟩, h2, _⟩ := h
  obtain ⟨k0, k1, hk⟩ := len2 (l := e.kids) (by simpa using h1)
  have hl : e.binds.length = 2 := by
    have := congrArg List.length h2
    simpa [lens] using this
  obtain ⟨b0, b1, hb⟩ := len2 (l := e.binds) (by simp [hl])
  rw [hb] at h2
  simp [lens] at h2
  obtain ⟨q1, q2⟩ := h2
  obtain ⟨x, hx⟩ := len1 (l := b1) (by simp; omega)
  exact ⟨x, k0, k1, by rw [hb, q1, hx], hk⟩
structure TaP (c : Cor) : Prop where
  k : KCore c
  kids : ∀ i (h : i < c.exprs.length), ∀ k ∈ (c.exprs[i]).kids, (i : Int) < k ∧ k < c.exprs.length
  two : ∀ i (h : i < c.exprs.length), (c.exprs[i]).op = 7 → ∃ a b, (c.exprs[i]).kids = [a, b]
theorem ta_of {c : Cor} (hk : KCore c) (h : vOk c = true) : TaP c := by
  have h := (vOk_iff c).1 h
  exact ⟨hk, h.tree.kids, fun i hi h7 => by obtain ⟨x, a, b, _, hk⟩ := let_shape (h.exprs.rule i hi) h7; exact ⟨a, b, hk⟩⟩
theorem tk_of {c : Cor} (h : TaP c) : TkP c := by
  refine ⟨fun i hi k hk => h.kids i hi k ?_⟩
  rw [tkAt, List.getElem?_eq_getElem hi] at hk
  simp only [tk] at hk
  split at hk
  · rename_i h7
    obtain ⟨a, b, hab⟩ := h.two i hi h7
    rw [hab] at hk ⊢
    simp at hk
    simp [hk]
  · split at hk
    · exact hk
    · cases hk
theorem zq57_spec {c : Cor} (hp : TaP c) : ∀ (m i : Nat), c.exprs.length - i ≤ m → i < c.exprs.length → ∀ (st : List Bool) (H : Heap) (id : Nat), H[id]? = some (boB st) → st.length = c.exprs.length → ∀ (K : Kt),
    K (.tup []) (H.set id (boB (tailsF c m i st))) → ACalls tP n_zq57 [.agg c.cs, .int .i64 i, .ms id 0 c.exprs.length c.exprs.length] H K := by
  intro m
  induction m with
  | zero => intro i h1 h2; omega
  | succ m ih =>
  intro i hm hi st H id hid hst K hK
  refine ACalls.out (zq57_ok fun hs => ?_)
  have hil := lt_get hid
  have hat : c.cs = [.sl (c.data.map Dat.cs) .none, .sl (c.codes.map Cod.cs) .none, .sl (VT.css c.vars) .none, .sl (c.exprs.map CEx.cs) .none] := rfl
  obtain ⟨x, y, z, hv, hx, hy, hz, hce⟩ := ex_at hi
  obtain ⟨k1, k2, k3, ⟨k4, k5⟩, k6, k7⟩ := hp.k
  obtain ⟨_, _, kk, _⟩ := k7 _ (List.getElem_mem hi)
  have hkd := hp.kids i hi
  have htwo := hp.two i hi
  have scB : ∀ st : List Bool, (boB st).sc H.length = true := fun st => by simp [boB, AB.sc, bools_sc]
  have hset : ∀ st J, (H.set id (boB st) ++ J)[id]? = some (boB st) := fun st J => app_get (set_get _ hid)
  have hss : ∀ st st2 J, (H.set id (boB st) ++ J).set id (boB st2) = H.set id (boB st2) ++ J := fun st st2 J => by rw [app_set _ (set_get _ hid), List.set_set]
  have hln : ∀ st J k, (H.set id (boB st) ++ J)[H.length + k]? = J[k]? := fun st J k => by
    have := get_len_add (H.set id (boB st)) J k
    rwa [List.length_set] at this
  have hT : tailsF c (m + 1) i st = if lf (c.exprs[i]) = true then st.set i true else (tk c.exprs[i]).foldl (fun st k => tailsF c m k.toNat st) st := by
    rw [tailsF, lfAt, tkAt, List.getElem?_eq_getElem hi]
  rw [hT] at hK
  have hO : ∀ st' J, (if lf (c.exprs[i]) = true then st.set i true else (tk c.exprs[i]).foldl (fun st k => tailsF c m k.toNat st) st) = st' → Out H.length K (.tup []) (H.set id (boB st') ++ J) := fun st' J h => by
    rw [h] at hK
    have : Out (H.set id (boB st')).length K (.tup []) (H.set id (boB st') ++ J) := Out.tup (bs := []) (hs.set (scB _)) hK trivial
    rwa [List.length_set] at this
  have h0 : H = H.set id (boB st) := (set_self hid).symm
  generalize hE : c.exprs[i] = E at *
  obtain ⟨X, hX⟩ : ∃ X, X = AB.cells [.int .i64 E.op, .int .i64 E.num, .sl (ints E.vars) .none, .sl (rows E.binds) .none, .sl (ints E.kids) .none, x, y, z] := ⟨_, rfl⟩
  have hidJ : ∀ J, (H ++ J)[id]? = some (.cells (bools st)) := fun J => app_get hid
  have hsX : ∀ st, HSc (H.set id (boB st) ++ [.cells c.cs, X]) := fun st => by
    refine (hs.set (scB _)).append ?_
    have := VT.cs_scA E.ty (H.length + 2)
    rw [hv] at this
    simp at this
    rw [hX]
    simp [AB.sc, Cor.cs, this]
  by_cases h7 : E.op = 7
  · obtain ⟨a, b, hab⟩ := htwo h7
    have hb := hkd b (by simp [hab])
    obtain ⟨k, rfl⟩ : ∃ k : Nat, b = k := ⟨b.toNat, by omega⟩
    have hlf : lf E = false := by simp [lf, h7]
    rw [hlf, if_neg (by simp)] at hO
    simp [zq57, hat, hi, hE, hce, hx, hy, hz, h7, hab, ints]
    rw [← hat]
    refine aDet_call (.tup []) (H.set id (boB (tailsF c m k st)) ++ [.cells c.cs, .cells [.int .i64 7, .int .i64 E.num, .sl (E.vars.map fun n => [.int .i64 n]) .none, .sl (rows E.binds) .none, .sl [[.int .i64 a], [.int .i64 (k : Int)]] .none, x, y, z]]) (ih k (by omega) (by omega) st _ id (app_get hid) hst _ ⟨rfl, app_set _ hid⟩) ?_
    simp [zq57_j1, aRet]
    exact hO _ _ (by simp [tk, h7, hab])
  have leaf : lf E = true → zq57_j2 (.int .i64 i) (.ms id 0 c.exprs.length c.exprs.length) (.ptr H.length 0) (.ptr (H.length + 1) 0) (.bool false) (H ++ [.cells c.cs, X]) (Out H.length K) := fun hl => by
    rw [hl, if_pos rfl] at hO
    simp [zq57_j2, hi, hidJ, hst, zq57_j1, aRet]
    rw [bools_set (by omega), app_set _ hid]
    exact ⟨by omega, hO _ _ rfl⟩
  have node : lf E = false → tk E = E.kids → zq57_j2 (.int .i64 i) (.ms id 0 c.exprs.length c.exprs.length) (.ptr H.length 0) (.ptr (H.length + 1) 0) (.bool true) (H ++ [.cells c.cs, X]) (Out H.length K) := fun hl htk => by
    rw [hl, if_neg (by simp), htk] at hO
    simp [zq57_j2, hX]
    rw [← hX]
    refine zq57_loop11 (Inv := fun q t36 H' => ∃ (j : Nat) (st1 : List Bool), j ≤ E.kids.length ∧ q = E.kids.length - j ∧ t36 = .int .i64 j ∧ st1.length = c.exprs.length ∧ (E.kids.drop j).foldl (fun st k => tailsF c m k.toNat st) st1 = E.kids.foldl (fun st k => tailsF c m k.toNat st) st ∧ H' = H.set id (boB st1) ++ [.cells c.cs, X]) E.kids.length ?_ ?_
    · intro _; exact ⟨0, st, by omega, by omega, rfl, hst, rfl, by rw [← h0]⟩
    rintro q t36 H' ⟨j, st1, hj, rfl, rfl, hs1, hf, rfl⟩ hsc hlen hsF Kb hKb
    by_cases hjl : j < E.kids.length
    · have hkr := hkd _ (List.getElem_mem hjl)
      obtain ⟨k, hk⟩ : ∃ k : Nat, E.kids[j] = k := ⟨(E.kids[j]).toNat, by omega⟩
      rw [List.drop_eq_getElem_cons hjl, List.foldl_cons, hk, Int.toNat_natCast] at hf
      have hl0 := hln st1 [.cells c.cs, X] 0
      simp at hl0
      simp [zq57_b11, hjl, hk, hl0, hat]
      rw [← hat]
      refine ih k (by omega) (by omega) st1 _ id (hset _ _) hs1 _ ?_
      rw [hss, wrap_in (by omega) (by omega)]
      refine hKb _ _ ⟨E.kids.length - (j + 1), by omega, Back.here (by simp) (hsX _) ?_ ⟨_, rfl, j + 1, _, by omega, rfl, by simp, by rw [tailsF_len]; exact hs1, hf, rfl⟩⟩
      simp [zq57_fr11, AV.sc, AV.scV, AV.scA, AV.scB]; omega
    · obtain rfl : j = E.kids.length := by omega
      rw [List.drop_length, List.foldl_nil] at hf
      simp [zq57_b11, zq57_j1, aRet]
      exact hO _ _ hf.symm
  rw [hX] at leaf node
  have go : ∀ b : Bool, (b = true ↔ E.op = 8 ∨ E.op = 9 ∨ E.op = 10 ∨ E.op = 24) → zq57_j2 (.int .i64 i) (.ms id 0 c.exprs.length c.exprs.length) (.ptr H.length 0) (.ptr (H.length + 1) 0) (.bool b) (H ++ [.cells c.cs, .cells [.int .i64 E.op, .int .i64 E.num, .sl (ints E.vars) .none, .sl (rows E.binds) .none, .sl (ints E.kids) .none, x, y, z]]) (Out H.length K) := fun b hb => by
    cases b with
    | true =>
      have := hb.1 rfl
      exact node (by simp [lf]; grind) (by simp [tk, h7, this])
    | false =>
      have : ¬ (E.op = 8 ∨ E.op = 9 ∨ E.op = 10 ∨ E.op = 24) := fun h => by have := hb.2 h; cases this
      exact leaf (by simp [lf]; grind)
  rw [hat] at go
  simp [zq57, hat, hi, hE, hce, hx, hy, hz, nb h7]
  by_cases h8 : E.op = 8
  · have := go true (by simp [h8]); rw [h8] at this; simpa [h8] using this
  by_cases h9 : E.op = 9
  · have := go true (by simp [h9]); rw [h9] at this; simpa [h9] using this
  by_cases h10 : E.op = 10
  · have := go true (by simp [h10]); rw [h10] at this; simpa [h10] using this
  simp [nb h8, nb h9, nb h10]
  exact go _ (by simp [h8, h9, h10])
noncomputable def tailsV (c : Cor) (v : Int) : List Int := if v < 0 ∨ (c.codes.length : Int) ≤ v ∨ vOk c = false then [] else mem (tailsF c c.exprs.length (codeAt' c v).body.toNat (List.replicate c.exprs.length false))
theorem body_of {c : Cor} (h : vOk c = true) {v : Int} (h0 : ¬ v < 0) (h1 : ¬ (c.codes.length : Int) ≤ v) : ∃ n b : Nat, v = n ∧ ∃ hn : n < c.codes.length, (c.codes[n]).body = b ∧ b < c.exprs.length ∧ codeAt' c v = c.codes[n] := by
  have hn : v.toNat < c.codes.length := by omega
  obtain ⟨_, _, _, _, b, hb, hbl, _⟩ := ((vOk_iff c).1 h).codes v.toNat hn
  exact ⟨v.toNat, b, by omega, hn, hb, hbl, by simp [codeAt', hn]⟩
theorem nilOut {H J : Heap} {K : Kt} (hs : HSc H) (hK : K (.sl (ints []) .none) H) : Out H.length K .snil (H ++ J) := Out.one hs (.atom .snil) rfl rfl hK
theorem zq25_spec (c : Cor) (hk : KCore c) (v : Int) (H : Heap) (K : Kt) (hK : K (.sl (ints (tailsV c v)) .none) H) : ACalls tP n_zq25 [.agg c.cs, .int .i64 v] H K := by
  refine ACalls.out (zq25_ok fun hs => ?_)
  have hat : c.cs = [.sl (c.data.map Dat.cs) .none, .sl (c.codes.map Cod.cs) .none, .sl (VT.css c.vars) .none, .sl (c.exprs.map CEx.cs) .none] := rfl
  have hk' := hk
  obtain ⟨k1, k2, k3, ⟨k4, k5⟩, k6, k7⟩ := hk'
  have hN : (v < 0 ∨ (c.codes.length : Int) ≤ v ∨ vOk c = false) → ∀ J, Out H.length K .snil (H ++ J) := fun h J => by
    rw [tailsV, if_pos h] at hK; exact nilOut hs hK
  simp [zq25, hat]
  rw [← hat]
  refine zq12_b c hk _ _ ?_
  cases hv : vOk c with
  | false => simp; exact hN (.inr (.inr hv)) _
  | true =>
  by_cases h0 : v < 0
  · simp [hat, h0]; exact hN (.inl h0) _
  by_cases h1 : (c.codes.length : Int) ≤ v
  · simp [hat, h0, h1]; exact hN (.inr (.inl h1)) _
  obtain ⟨n, b, rfl, hn, hb, hbl, hca⟩ := body_of hv h0 h1
  rw [tailsV, if_neg (by simp [hv]; omega), hca, hb, Int.toNat_natCast] at hK
  obtain ⟨x, y, z, hvv, hx, hy, hz, hce⟩ := cod_at hn
  have hn' : ¬ c.codes.length ≤ n := by omega
  simp [hat, h0, hn']
  simp only [aMake, Int.toNat_natCast, bools_rep]
  refine ⟨⟨by omega, by omega, by omega, by omega⟩, ?_⟩
  simp [hn, hce, hb]
  rw [← hat]
  refine aDet_call (.tup []) (H ++ [.cells c.cs, boB (tailsF c c.exprs.length b (List.replicate c.exprs.length false))]) (zq57_spec (ta_of hk hv) c.exprs.length b (by omega) hbl (List.replicate c.exprs.length false) _ (H.length + 1) (by simp [boB]) (by simp) _ ⟨rfl, by simp [boB]⟩) ?_
  refine zq58_spec (st := tailsF c c.exprs.length b (List.replicate c.exprs.length false)) (by simp) (by rw [tailsF_len]; simp) (by omega) _ ?_
  exact Out.one hs .rfl' rfl rfl hK
theorem zq24_spec (c : Cor) (hk : KCore c) (v : Int) (H : Heap) (K : Kt) (hK : K (.sl (ints (tailsV c v)) .none) H) : ACalls tP n_zq24 [.agg c.cs, .int .i64 v] H K := by
  refine ACalls.out (zq24_ok fun hs => ?_)
  have hat : c.cs = [.sl (c.data.map Dat.cs) .none, .sl (c.codes.map Cod.cs) .none, .sl (VT.css c.vars) .none, .sl (c.exprs.map CEx.cs) .none] := rfl
  have hk' := hk
  obtain ⟨k1, k2, k3, ⟨k4, k5⟩, k6, k7⟩ := hk'
  have hN : (v < 0 ∨ (c.codes.length : Int) ≤ v ∨ vOk c = false) → ∀ J, Out H.length K .snil (H ++ J) := fun h J => by
    rw [tailsV, if_pos h] at hK; exact nilOut hs hK
  by_cases h0 : v < 0
  · simp [zq24, hat, h0]; exact hN (.inl h0) _
  by_cases h1 : (c.codes.length : Int) ≤ v
  · simp [zq24, hat, h0, h1]; exact hN (.inr (.inl h1)) _
  simp [zq24, hat, h0, h1]
  rw [← hat]
  refine zq11_b c hk _ _ ?_
  cases hv : vOk c with
  | false => simp; exact hN (.inr (.inr hv)) _
  | true =>
  obtain ⟨n, b, rfl, hn, hb, hbl, hca⟩ := body_of hv h0 h1
  have hp := ta_of hk hv
  rw [tailsV, if_neg (by simp [hv]; omega), hca, hb, Int.toNat_natCast, ← tails_eq (tk_of hp) hbl] at hK
  obtain ⟨x, y, z, hvv, hx, hy, hz, hce⟩ := cod_at hn
  have hsX : ∀ st, HSc (H ++ [.cells c.cs, boB st]) := fun st => hs.append (by simp [AB.sc, Cor.cs, boB, bools_sc])
  simp [hat]
  simp only [aMake, Int.toNat_natCast, bools_rep]
  refine ⟨⟨by omega, by omega, by omega, by omega⟩, ?_⟩
  simp [hn, hce, hb, hbl]
  rw [bools_set (by simpa using hbl), ← hat]
  refine ⟨by omega, ?_⟩
  refine zq24_loop6 (Inv := fun q t37 H' => ∃ i : Nat, i ≤ c.exprs.length ∧ q = c.exprs.length - i ∧ t37 = .int .i64 i ∧ H' = H ++ [.cells c.cs, boB (tpTo c b i)]) c.exprs.length ?_ ?_
  · intro _; exact ⟨0, by omega, by omega, rfl, rfl⟩
  rintro q t37 H' ⟨i, hi, rfl, rfl, rfl⟩ hsc hlen hsF Kb hKb
  have hsl := tpTo_len c b i
  by_cases hlt : i < c.exprs.length
  · obtain ⟨x, y, z, hvv, hx, hy, hz, hce⟩ := ex_at hlt
    obtain ⟨_, _, kk, _⟩ := k7 _ (List.getElem_mem hlt)
    have hkd := hp.kids i hlt
    have htwo := hp.two i hlt
    have hS : tpTo c b (i + 1) = if (tpTo c b i).getD i false = false ∨ lf c.exprs[i] = true then tpTo c b i else setF ((tpTo c b i).set i false) (tk c.exprs[i]) true := by
      rw [tpTo, tpStep, lfAt, tkAt, List.getElem?_eq_getElem hlt]
    generalize hE : c.exprs[i] = E at *
    generalize hst : tpTo c b i = st at *
    have his : i < st.length := by omega
    have hgd : st.getD i false = st[i] := by rw [List.getD_eq_getElem?_getD, List.getElem?_eq_getElem his]; rfl
    rw [hgd] at hS
    have back : ∀ st' J, tpTo c b (i + 1) = st' → zq24_j1 (.ms (H.length + 1) 0 c.exprs.length c.exprs.length) (.sl (c.exprs.map CEx.cs) .none) (.int .i64 c.exprs.length) (.int .i64 i) (H ++ [.cells c.cs, boB st'] ++ J) (Out H.length K) Kb := fun st' J h => by
      simp [zq24_j1, zq24_j2]
      rw [wrap_in (by omega) (by omega)]
      refine hKb _ _ ⟨c.exprs.length - (i + 1), by omega, Back.at (J := J) (H2 := H ++ [.cells c.cs, boB st']) (by simp) (by simp) (hsX _) ?_ ⟨_, rfl, i + 1, by omega, rfl, by simp, by rw [h]⟩⟩
      simp [zq24_fr6, AV.sc, AV.scV, AV.scA, AV.scB]
    cases hb1 : st[i] with
    | false =>
      rw [hb1, if_pos (.inl rfl)] at hS
      have := back _ [.cells [.int .i64 E.op, .int .i64 E.num, .sl (ints E.vars) .none, .sl (rows E.binds) .none, .sl (ints E.kids) .none, x, y, z]] hS
      simp [zq24_b6, hlt, hE, hce, hx, hy, hz, boB, hsl, aCells, his, hb1] at this ⊢
      exact this
    | true =>
    rw [hb1] at hS
    by_cases h7 : E.op = 7
    · obtain ⟨a, d, had⟩ := htwo h7
      have hd := hkd d (by simp [had])
      obtain ⟨k, rfl⟩ : ∃ k : Nat, d = k := ⟨d.toNat, by omega⟩
      have hkn : k < c.exprs.length := by omega
      rw [if_neg (by simp [lf, h7])] at hS
      have hS2 : tpTo c b (i + 1) = (st.set i false).set k true := by rw [hS]; simp [tk, h7, had, setF]
      have := back _ [.cells [.int .i64 7, .int .i64 E.num, .sl (ints E.vars) .none, .sl (rows E.binds) .none, .sl (ints [a, (k : Int)]) .none, x, y, z]] hS2
      simp [zq24_b6, zq24_j3, hlt, hE, hce, hx, hy, hz, boB, hsl, aCells, his, hb1, h7, had, ints, hkn] at this ⊢
      rw [bools_set his]
      rw [bools_set (by simp; omega)]
      exact ⟨by omega, by omega, this⟩
    by_cases hop : E.op = 8 ∨ E.op = 9 ∨ E.op = 10 ∨ E.op = 24
    · rw [if_neg (by simp [lf]; grind)] at hS
      have hS2 : tpTo c b (i + 1) = setF (st.set i false) E.kids true := by rw [hS]; simp [tk, h7, hop]
      have fin := back _ [.cells [.int .i64 E.op, .int .i64 E.num, .sl (ints E.vars) .none, .sl (rows E.binds) .none, .sl (ints E.kids) .none, x, y, z]] hS2
      have j4 : zq24_j4 (.ms (H.length + 1) 0 c.exprs.length c.exprs.length) (.int .i64 i) (.ptr (H.length + 2) 0) (.sl (c.exprs.map CEx.cs) .none) (.int .i64 c.exprs.length) (.int .i64 i) (.bool true) (H ++ [.cells c.cs, boB st, .cells [.int .i64 E.op, .int .i64 E.num, .sl (ints E.vars) .none, .sl (rows E.binds) .none, .sl (ints E.kids) .none, x, y, z]]) (Out H.length K) Kb := by
        simp [zq24_j4, hlt, boB, hsl]
        rw [bools_set his]
        refine ⟨by omega, put_spec (st := st.set i false) (by simp [boB]) (by simpa using hsl) (by omega) (fun q hq => by have := hkd q hq; omega) _ ?_⟩
        simp [zq24_j3] at fin ⊢
        exact fin
      simp [zq24_b6, hlt, hE, hce, hx, hy, hz, boB, hsl, aCells, his, hb1, nb h7] at j4 ⊢
      by_cases h8 : E.op = 8
      · rw [h8] at j4; simpa [h8] using j4
      by_cases h9 : E.op = 9
      · rw [h9] at j4; simpa [h9] using j4
      by_cases h10 : E.op = 10
      · rw [h10] at j4; simpa [h10] using j4
      have h24 : E.op = 24 := by omega
      rw [h24] at j4; simpa [h24] using j4
    · rw [if_pos (.inr (by simp [lf]; grind))] at hS
      have fin := back _ [.cells [.int .i64 E.op, .int .i64 E.num, .sl (ints E.vars) .none, .sl (rows E.binds) .none, .sl (ints E.kids) .none, x, y, z]] hS
      have e8 : E.op ≠ 8 := fun h => hop (.inl h)
      have e9 : E.op ≠ 9 := fun h => hop (.inr (.inl h))
      have e10 : E.op ≠ 10 := fun h => hop (.inr (.inr (.inl h)))
      have e24 : E.op ≠ 24 := fun h => hop (.inr (.inr (.inr h)))
      simp [zq24_b6, zq24_j4, zq24_j3, hlt, hE, hce, hx, hy, hz, boB, hsl, aCells, his, hb1, nb h7, nb e8, nb e9, nb e10, nb e24] at fin ⊢
      exact fin
  · obtain rfl : i = c.exprs.length := by omega
    simp [zq24_b6]
    refine zq56_spec (st := tpTo c b c.exprs.length) (by simp) hsl (by omega) _ ?_
    exact Out.one hs .rfl' rfl rfl hK
theorem tails_one : (tailsV (c1 1) 0).length = 1 := by
  have hv := (vOk_iff _).2 c1_good
  rw [tailsV, if_neg (by simp [hv]; simp [c1])]
  rfl
theorem CoreTails_spec (c : Cor) (h1 : c.data.length ≤ 9223372036854775807) (h2 : c.vars.length ≤ 9223372036854775807) (v : Int) : ACalls tP n_zq4 [.agg c.cs, .int .i64 v] [] fun r _ => r = .bool true := by
  refine zq4_ok fun hs => ?_
  have hat : c.cs = [.sl (c.data.map Dat.cs) .none, .sl (c.codes.map Cod.cs) .none, .sl (VT.css c.vars) .none, .sl (c.exprs.map CEx.cs) .none] := rfl
  simp [zq4, hat]
  rw [← hat]
  refine zq10_spec c h1 h2 _ _ fun b hb => ?_
  cases b with
  | false => simp
  | true =>
  have hc := hb rfl
  have hl : (tailsV c v).length ≤ 1000000 := by
    rw [tailsV]; split
    · simp
    · rw [mem, List.length_map]
      refine Nat.le_trans (List.length_filter_le _ _) ?_
      have := hc.2.2.1
      rw [List.length_range, tailsF_len, List.length_replicate]; omega
  simp [hat]
  rw [← hat]
  refine aPureX_call (.sl (ints (tailsV c v)) .none) (fun J => zq24_spec c hc v _ _ ⟨rfl, rfl⟩) ?_
  refine aPureX_call (.sl (ints (tailsV c v)) .none) (fun J => zq25_spec c hc v _ _ ⟨rfl, rfl⟩) ?_
  refine aPureX_call (.bool true) (fun J => SameInts_spec _ _ hl _ _ ⟨by simp, rfl⟩) ?_
  simp
  refine aPureX_call (.agg (c1 1).cs) (fun J => one_spec _ _ ⟨rfl, rfl⟩) ?_
  refine aPureX_call (.sl (ints (tailsV (c1 1) 0)) .none) (fun J => zq24_spec (c1 1) (c1_k 1) 0 _ _ ⟨rfl, rfl⟩) ?_
  simp [tails_one]
end Go.Proofs.Ytkdmpbhbmmhijaa

