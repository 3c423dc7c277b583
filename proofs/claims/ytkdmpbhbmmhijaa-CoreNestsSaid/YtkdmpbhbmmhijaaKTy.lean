import Derived.Test.YtkdmpbhbmmhijaaKS3
import Derived.Test.YtkdmpbhbmmhijaaAbsQ1
import Derived.Test.YtkdmpbhbmmhijaaKNum
import Derived.Test.YtkdmpbhbmmhijaaProg
import Derived.KernelRfl
import Derived.Test.YtkdmpbhbmmhijaaVO
import Derived.Deep.Slices
import Derived.DataReads
set_option linter.unusedSimpArgs false
set_option linter.unusedVariables false
namespace Go.Proofs.Ytkdmpbhbmmhijaa
open Go Go.Abs
set_option maxRecDepth 8000
theorem zmI {bs : List (List Int)} {k : Nat} (h : k < bs.length) : (rows bs)[k]? = some [.sl (ints bs[k]) .none] := by
 unfold rows; rw [List.getElem?_map, List.getElem?_eq_getElem h]; rfl
theorem zfu {l : List Int} {k : Nat} (h : k < l.length) : (ints l)[k]? = some [.int .i64 l[k]] := by
 unfold ints; rw [List.getElem?_map, List.getElem?_eq_getElem h]; rfl
theorem zn9 (c : Cor) (hk : zaN c) (e : Int) (H : zaa) (K : Kt) (hK : K (.sl (ints (zbf c e)) .none) H) : ACalls tP zgv [.agg c.cs, .int .i64 e] H K := by
 refine ACalls.out (zDQ fun hs => ?_)
 have hat : c.cs = [.sl (c.data.map Dat.cs) .none, .sl (c.codes.map Cod.cs) .none, .sl (VT.css c.vars) .none, .sl (c.exprs.map CEx.cs) .none] := rfl
 have hcn := hk.2.1
 have hen := hk.2.2.1
 have hvn := hk.2.2.2.1.1
 simp [ztD, hat]
 rw [← hat]
 refine zG8 c hk e _ _ (fun h => ?_) fun h => ?_
 rotate_left
 ·simp
  rw [zbf, zdW, if_neg h] at hK
  exact zyj hs hK
 rw [zbf, zdW, if_pos h] at hK
 obtain ⟨g1, g2, hv⟩ := h
 have hT := zgJ hk hv
 obtain ⟨e, rfl⟩ : ∃ n : Nat, e = n := ⟨e.toNat, by omega⟩
 rw [Int.toNat_natCast] at hK
 have hsX : ∀ st, HSc (H ++ [.cells c.cs, boB st]) := fun st => hs.append (by simp [AB.sc, Cor.cs, boB, zdM])
 simp [hat]
 simp only [zbu, Int.toNat_natCast, zfo]
 refine ⟨⟨by omega, by omega, by omega, by omega⟩, ?_⟩
 rw [zaq (by omega) (by omega), ← hat]
 simp only [List.append_assoc, List.cons_append, List.nil_append, List.length_append, List.length_cons, List.length_nil]
 show zn8 (.ptr H.length 0) (.ms (H.length + 1) 0 c.vars.length c.vars.length) (.int .i64 e) (.int .i64 ((e : Int) - 1)) (H ++ [.cells c.cs, boB (List.replicate c.vars.length false)]) (Out H.length K)
 refine zDM (Inv := fun q t6 t7 H' => ∃ (i at' : Nat) (st : List Bool), i = q ∧ t6 = .int .i64 at' ∧ t7 = .int .i64 ((i : Int) - 1) ∧ i ≤ at' ∧ at' < c.exprs.length ∧ st.length = c.vars.length ∧
  (∀ p k, Kid c p k at' → p < i) ∧ (∀ v : Int, InS c e v ↔ (∃ n : Nat, v = n ∧ st.getD n false = true) ∨ InS c at' v) ∧ H' = H ++ [.cells c.cs, boB st]) e ?_ ?_
 ·intro _
  refine ⟨e, e, List.replicate c.vars.length false, rfl, rfl, rfl, Nat.le_refl _, by omega, by simp, fun p k h => (hT.lt h).1, fun v => ?_, rfl⟩
  constructor
  ·exact fun h => .inr h
  ·rintro (⟨n, _, h⟩ | h)
   ·rw [List.getD_eq_getElem?_getD, List.getElem?_replicate] at h
    split at h <;> simp at h
   ·exact h
 rintro q t6 t7 H' ⟨i, at', st, rfl, rfl, rfl, hia, hal, hsl, hpar, hI, rfl⟩ hsc hlen hsF Kb hKb
 by_cases h0 : i = 0
 ·subst h0
  have hroot : ∃ i, zcL c i at' := by
   rcases hT.ex hal with h | ⟨p, k, h⟩
   ·exact h
   ·have := hpar p k h; omega
  obtain ⟨ri, hroot⟩ := hroot
  simp [zn5, hat]
  rw [← hat]
  exact zDK hk hT hs e K hK hsl hroot hI
 ·obtain ⟨i, rfl⟩ : ∃ j, i = j + 1 := ⟨i - 1, by omega⟩
  have hi : i < c.exprs.length := by omega
  obtain ⟨x, y, z, hvv, hx, hy, hz, hce⟩ := zdQ hi
  obtain ⟨_, kb, kk, _, kbl⟩ := zre hk hi
  have hbk : (c.exprs[i]).binds.length = (c.exprs[i]).kids.length := by have := hT.kb i; rwa [zdp hi, zcx hi] at this
  have hkr : ∀ x ∈ (c.exprs[i]).kids, 0 ≤ x ∧ x < (c.exprs.length : Int) := fun x hx => hT.kr i x (by rw [zcx hi]; exact hx)
  have hkid : ∀ k m, Kid c i k m ↔ (c.exprs[i]).kids[k]? = some (m : Int) := fun k m => by unfold Kid; rw [zcx hi]
  have hbd : ∀ k v, Bind c i k v ↔ ∃ l, (c.exprs[i]).binds[k]? = some l ∧ v ∈ l := fun k v => by unfold Bind; rw [zdp hi]
  have e1 : ((i + 1 : Nat) : Int) - 1 = i := by omega
  generalize hE : c.exprs[i] = E at *
  have hpos : (0 : Int) ≤ i := by omega
  have back : ∀ (at2 : Nat) (st2 : List Bool), i ≤ at2 → at2 < c.exprs.length → st2.length = c.vars.length → (∀ p k, Kid c p k at2 → p < i) → (∀ v : Int, InS c e v ↔ (∃ n : Nat, v = n ∧ st2.getD n false = true) ∨ InS c at2 v) →
    zjo (.ptr H.length 0) (.ms (H.length + 1) 0 c.vars.length c.vars.length) (.int .i64 at2) (.int .i64 i) (H ++ [.cells c.cs, boB st2]) (Out H.length K) Kb := by
   intro at2 st2 h1 h2 h3 h4 h5
   simp [zjo, ztF, ztG]
   rw [zaq (by omega) (by omega)]
   refine hKb _ _ ⟨i, by omega, Back.here (by simp) (hsX _) ?_ ⟨_, _, rfl, i, at2, st2, rfl, rfl, rfl, h1, h2, h3, h4, h5, rfl⟩⟩
   simp [zjm, AV.sc, AV.scV, AV.scA, AV.scB]
   try omega
  rw [e1]
  simp [zn5, hat, hpos, hi, hE, hce]
  rw [← hat]
  refine zDN (Inv := fun q t6 t34 H' => ∃ k : Nat, k ≤ E.kids.length ∧ q = E.kids.length - k ∧ t6 = .int .i64 at' ∧ t34 = .int .i64 k ∧ (∀ k', k' < k → ¬ Kid c i k' at') ∧ H' = H ++ [.cells c.cs, boB st]) E.kids.length ?_ ?_
  ·intro _; exact ⟨0, by omega, by omega, rfl, rfl, fun _ h => by omega, rfl⟩
  rintro q t6 t34 H' ⟨k, hkl, rfl, rfl, rfl, hno, rfl⟩ hsc2 hlen2 hsF2 Kb9 hKb9
  by_cases hlt : k < E.kids.length
  ·have hra := hkr _ (List.getElem_mem hlt)
   by_cases heq : E.kids[k] = (at' : Int)
   ·have hKid : Kid c i k at' := by rw [hkid, List.getElem?_eq_getElem hlt, heq]
    have hkb : k < E.binds.length := by omega
    have hbl : (E.binds[k]).length ≤ 10 := kbl _ (List.getElem_mem hkb)
    have hbr : ∀ x ∈ E.binds[k], 0 ≤ x ∧ x < (c.vars.length : Int) := fun x hx => hT.br ((hbd k x).2 ⟨_, List.getElem?_eq_getElem hkb, hx⟩)
    simp [zjk, hlt, heq, hat, hi, hE, hce, hkb, zmI, zfu]
    refine zmF (st := st) (n := c.vars.length) (by simp) hsl (by omega) hbr _ ?_
    have := back i (zaC st E.binds[k] true) (Nat.le_refl _) hi (by simpa using hsl) (fun p k h => (hT.lt h).1) (fun v => by
     rw [hI v, hT.kid_InS hKid]
     constructor
     ·rintro (⟨n, rfl, h⟩ | h | h)
      ·exact .inl ⟨n, rfl, (zgF (by simpa [hsl] using hbr)).2 (.inl h)⟩
      ·exact .inr h
      ·obtain ⟨l, h1, h2⟩ := (hbd k v).1 h
       have h3 := hT.br h
       rw [List.getElem?_eq_getElem hkb] at h1
       obtain rfl := Option.some.inj h1
       exact .inl ⟨v.toNat, by omega, (zgF (by simpa [hsl] using hbr)).2 (.inr (by rw [show ((v.toNat : Nat) : Int) = v by omega]; exact h2))⟩
     ·rintro (⟨n, rfl, h⟩ | h)
      ·rcases (zgF (by simpa [hsl] using hbr)).1 h with h1 | h1
       ·exact .inl ⟨n, rfl, h1⟩
       ·exact .inr (.inr ((hbd k n).2 ⟨_, List.getElem?_eq_getElem hkb, h1⟩))
      ·exact .inr (.inl h))
    simpa [hat] using this
   ·have heq' : (E.kids[k] == (at' : Int)) = false := by simpa using heq
    simp [zjk, hlt, heq, heq', zfu]
    rw [zaq (by omega) (by omega)]
    refine hKb9 _ _ ⟨E.kids.length - (k + 1), by omega, Back.here (by simp) (hsX _) ?_ ⟨_, _, rfl, k + 1, by omega, rfl, rfl, by simp, fun k' h1 h2 => ?_, rfl⟩⟩
    ·simp [zjn, AV.sc, AV.scV, AV.scA, AV.scB]
     try omega
    ·by_cases h3 : k' < k
     ·exact hno k' h3 h2
     ·obtain rfl : k' = k := by omega
      rw [hkid, List.getElem?_eq_getElem hlt] at h2
      exact heq (Option.some.inj h2)
  ·obtain rfl : k = E.kids.length := by omega
   simp [zjk]
   refine back at' st (by omega) hal hsl (fun p k h => ?_) hI
   have h1 := hpar p k h
   by_cases h2 : p = i
   ·subst h2
    have h3 := (hkid k at').1 h
    exact absurd h (hno k (List.getElem?_eq_some_iff.1 h3).1)
   ·omega
end Go.Proofs.Ytkdmpbhbmmhijaa
namespace Go.Abs
open Go Go.RowKit
variable {P : Program} {B : Nat} {w : World} {G : Gh} {H : zaa}
def zeC (esz : Nat) (zero : List AV) (len : Nat) (parts : List (Nat × AV)) (H : zaa) (K : Kt) : Prop :=
 match zbw zero with
 | some z => (match zc3 esz parts (List.replicate len z) with
  | some es => K (.ms H.length 0 len len) (H ++ [.cells es.flatten])
  | none => False)
 | none => False
theorem zxu {v : Value} {a : AV} (h : DRel w G.L v a) : ARel w G v a := by
 cases h with
 | bool b => rfl
 | int k n => rfl
 | str s => rfl
 | slE a cap => exact .slE a cap
 | sl b off cap esz es vs hne hcap hL hsz hc hd => exact .sl b off cap esz es vs hne hcap hL hsz hc hd
theorem zzt {t e : TypeId} {size len : Nat} {z : Value} {parts : Array (Nat × Value)} {aparts : List (Nat × AV)} {K : AV → zaa → Prop} (hH : HRel B w G H) (he : zbj P t = some e) (hn : za8 P e = some size)
  (hz : zbM P e = some z) (h0 : 0 < size) (hlen : len * size ≤ 16777216) (hzl : (zbm z).length = size)
  (hr : All2 (fun (p : Nat × Value) (q : Nat × AV) => p.1 = q.1 ∧ TRel w G p.2 q.2) parts.toList aparts) (h : zeC size (zbm z) len aparts H K) :
  OpOK P B w G K (((do pure (.value (← Instr.buildSlice t len parts))) : Sem Next).run P w) := by
 unfold zeC at h
 split at h
 ·rename_i zc hzc
  split at h
  ·rename_i es hes
   have hzr := zen (w := w) (G := G) z
   have hzs : z.cells.size = size := by have := hzr.length; simp at this; omega
   have hzd := zfF hzr hzc
   have hm := zlX hzd (by omega) len
   rw [hzs] at hm
   have hzcl : zc.length = size := by rw [zmE hzc]; exact hzl
   have hall : ∀ c ∈ List.replicate len zc, c.length = size := fun c hc => by rw [List.eq_of_mem_replicate hc, hzcl]
   obtain ⟨cells', h1, h2, h3, h4⟩ := zlI parts.toList aparts _ _ es hall hr hm hes
   simp at h4
   obtain ⟨hx, hH'⟩ := hH.new cells' e es.flatten (h2.mono fun _ _ => zxu)
   have hrun : ((do pure (.value (← Instr.buildSlice t len parts))) : Sem Next).run P w = .ok (.value (.slice (some ⟨w.heap.size, 0, none⟩) len len)) (w.alloc (.cells cells' e)) := by
    have hbig : ¬ (2 ^ 24 < len * size) := by omega
    by_cases hl0 : len * size = 0
    ·have hl : len = 0 := by rcases Nat.mul_eq_zero.1 hl0 with h | h <;> omega
     subst hl
     simp only [Nat.zero_mul, Array.range_zero', Array.map_empty] at h1
     simp [Instr.buildSlice, za3 (zcI he), zb4 hn, h1, newRow, World.alloc_eq, Array.range_zero']
    ·simp [Instr.buildSlice, za3 (zcI he), zb4 hn, zeT hz, hbig, hl0, hzs, h1, newRow, World.alloc_eq]
   rw [hrun]
   refine ⟨.ms H.length 0 len len, _, _, hx, hH', ⟨w.heap.size, ?_, rfl⟩, h⟩
   rw [← hH.len]; simp
  ·exact h.elim
 ·exact h.elim
def zlo (P : Program) (o : Oper) (F : List AV) (H : zaa) (K : Kt) : Prop :=
 match o.op with
 | .buildSlice t len parts => (match (zbj P t).bind (za8 P), (zbj P t).bind (zbM P) with
  | some size, some z => (match decide (0 < size) && decide (len * size ≤ 16777216) && (zbm z).length == size with
   | true => zeC size (zbm z) len (parts.toList.map fun p => (p.1, ev F p.2)) H K
   | false => False)
  | _, _ => False)
 | _ => aop P o F H K
theorem zyf {o : Oper} {a : Act} {F : List AV} {K : AV → zaa → Prop} (hH : HRel B w G H) (hF : FRel w G a.tmps F) (h : zlo P o F H K) : OpOK P B w G K ((execOp a.eval o).run P w) := by
 unfold zlo at h
 split at h
 ·rename_i t len parts hop
  obtain ⟨dst, op, type, pos, after, guard⟩ := o
  simp only [] at hop
  subst hop
  simp only [execOp]
  split at h
  ·rename_i size z hs hz
   split at h
   ·rename_i hb
    simp only [Bool.and_eq_true, decide_eq_true_eq, beq_iff_eq] at hb
    cases he : zbj P t with
    | none => simp [he] at hs
    | some e =>
     simp only [he, Option.bind_some] at hs hz
     exact zzt hH he hs hz hb.1.1 hb.1.2 hb.2 (by simpa using zmD hF parts.toList) h
   ·exact h.elim
  ·exact h.elim
 ·exact zgD hH hF h
def zh9 (P : Program) : List Oper → Lt → List AV → zaa → Prop
 | [], K, F, H => K F H
 | o :: os, K, F, H => match o.guard with
  | none => zlo P o F H fun v H' => zh9 P os K (zbJ F o.dst v) H'
  | some _ => False
theorem zrX {ops : Array Oper} {K : List AV → zaa → Prop} {Q : Exit → Act → World → Prop} {w0 : World} {G0 : Gh}
  (hQ : ∀ a w G F H, Ext B w0 G0 w G → HRel B w G H → FRel w G a.tmps F → a.defers = [] → K F H → Q .normal a w) :
  ∀ (l : List Oper) (F : List AV) (H : zaa) (a : Act) (w : World) (G : Gh), Ext B w0 G0 w G → HRel B w G H → FRel w G a.tmps F → a.defers = [] → zh9 P l K F H → wpList P ops Q l a w
 | [], F, H, a, w, G, hE, hH, hF, hd, h => hQ a w G F H hE hH hF hd h
 | o :: l, F, H, a, w, G, hE, hH, hF, hd, h => by
  refine wpList_step fun K' hK' => ?_
  unfold zh9 at h
  split at h
  ·rename_i hg
   rw [if_pos (by simp [Region.wanted, hg])]
   exact zgE hF (zyf hH hF h) fun v av w' G' H' h1 h2 h3 h4 =>
    hK' _ _ (zrX hQ l _ _ _ _ G' (hE.trans h1) h2 ((hF.ext h1).put h3) (by cases hdst : o.dst <;> simpa [Act.put, hdst] using hd) h4)
  ·exact h.elim
def zgb (P : Program) : Code → (AExit → List AV → zaa → Prop) → List AV → zaa → Prop
 | .region _ ops false, Q, F, H => zh9 P ops.toList (Q .normal) F H
 | .seq a b, Q, F, H => zgb P a (zmO (zgb P b Q) Q) F H
 | .ret, Q, F, H => Q .ret F H
 | _, _, _, _ => False
theorem zwG : ∀ (c : Code) (Q : AExit → List AV → zaa → Prop) (F : List AV) (H : zaa), zgb P c Q F H → AWp P c Q F H := by
 intro c
 induction c with
 | region id ops draw =>
  intro Q F H h B w G a hH hF hd
  cases draw with
  | false =>
   refine wp_region_list ?_
   exact zrX (K := Q .normal) (fun a w G F H h1 h2 h3 h4 h5 => Post.of (e := .normal) h1 h2 h3 h4 h5) ops.toList F H a w G (Ext.refl _ _ _) hH hF hd h
  | true => exact h.elim
 | seq x y ihx ihy =>
  intro Q F H h B w G a hH hF hd
  refine wp_seq (wp_mono (ihx _ F H h B w G a hH hF hd) fun e a' w' hp => ?_)
  obtain ⟨F', H', G', e', rfl, h1, h2, h3, h4, h5⟩ := hp
  cases e' with
  | normal =>
   refine wp_mono (ihy Q F' H' h5 B w' G' a' h2 h3 h4) fun e a'' w'' hp => ?_
   obtain ⟨F'', H'', G'', e'', rfl, k1, k2, k3, k4, k5⟩ := hp
   exact ⟨F'', H'', G'', e'', rfl, h1.trans k1, k2, k3, k4, k5⟩
  | exit id => exact Post.of (e := .exit id) h1 h2 h3 h4 h5
  | ret => exact Post.of (e := .ret) h1 h2 h3 h4 h5
 | ret => intro Q F H h B w G a hH hF hd; exact wp_ret (Post.of (e := .ret) (Ext.refl _ _ _) hH hF hd h)
 | _ => intro Q F H h; exact h.elim
theorem zwq {f : FuncId} {fn : Func} {c : Code} {args : List AV} {K : AV → zaa → Prop} (hf : P.funcs[f]? = some fn) (hb : fn.body = some c)
  (h : HSc H → zgb P c (zat P fn.results.toList K) (args ++ List.replicate (fn.ntmps - args.length) .unk) H) : ACalls P f args H K := by
 intro B w G vs hH hv
 refine calls_of_wp hf hb ?_
 have hF : FRel w G (vs ++ Array.replicate (fn.ntmps - vs.size) undef) (args ++ List.replicate (fn.ntmps - args.length) .unk) := by
  unfold FRel
  have hl : vs.size = args.length := by simpa using hv.length
  rw [hl]
  simpa using hv.append (All2.replicate (R := TRel w G) (a := undef) (b := .unk) trivial (fn.ntmps - args.length))
 refine wp_mono (zwG c _ _ H (h hH.sc) B w G ⟨_, []⟩ hH hF rfl) fun e a' w' hp => ?_
 obtain ⟨F', H', G', e', rfl, h1, h2, h3, h4, h5⟩ := hp
 have fin : (zd7 P fn.results.toList F' H' fun vs => zaV vs (K · H')) → ∃ v, (results fn a'.tmps).run P w' = .ok v w' ∧ ∃ v' r H'' G'', Ending.returned v = .returned v' ∧ Ext B w G w' G'' ∧ HRel B w' G'' H'' ∧ TRel w' G'' v' r ∧ K r H'' := by
  intro h5
  obtain ⟨us, asx, k1, k2, k3⟩ := zia h2 h3 fn.results.toList _ h5
  have hres : (results fn a'.tmps).run P w' = .ok (if hh : us.toArray.size = 1 then us.toArray[0] else .tuple us.toArray) w' := by
   rw [zrU, Sem.run_bind, Array.mapM_eq_mapM_toList, Sem.run_map, k1]
   rfl
  refine ⟨_, hres, (if hh : us.toArray.size = 1 then us.toArray[0] else .tuple us.toArray), ?_⟩
  have hl := k2.length
  unfold zaV at k3
  split at k3
  ·rename_i r
   match us, hl, k2, hres with
   | [u], _, k2, _ => exact ⟨r, H', G', rfl, h1, h2, by simpa using k2.1, k3⟩
  ·rename_i hne
   refine ⟨.tup asx, H', G', rfl, h1, h2, ?_, k3.2⟩
   have hsz : ¬ us.toArray.size = 1 := by
    intro hs
    have : asx.length = 1 := by rw [← hl]; simpa using hs
    match asx, this with
    | [x], _ => exact hne x rfl
   rw [dif_neg hsz]
   exact ⟨us.toArray, rfl, zdq (p := AV.isV) (fun _ _ => zlU) k2 k3.1⟩
 cases e' with
 | normal => exact ⟨h4, fin h5⟩
 | ret => exact ⟨h4, fin h5⟩
 | exit id => exact h5.elim

theorem ACalls.pure0 {f : FuncId} {args args' : List AV} {b : Bool} (h : ACalls P f args' [] fun r _ => r = .bool b) (hread : ∀ B w G, HRel B w G H → ∀ vs : Array Value, All2 (TRel w G) vs.toList args → All2 (TRel w (G0 w)) vs.toList args') {K : Kt} (hK : K (.bool b) H) : ACalls P f args H K := by
 intro B w G vs hH hv
 refine (h w.heap.size w (G0 w) vs (zra w) (hread B w G hH vs hv)).mono fun e w' he => ?_
 obtain ⟨v, r, H', G', rfl, h1, h2, h3, rfl⟩ := he
 have hv : v = .bool b := h3
 subst hv
 have hx : Ext B w G w' G := by
  refine ⟨h1.dr, h1.below.mono hH.base, fun _ => Nat.le_refl _, fun b off ho => ?_, fun _ gi h => ⟨gi, h, gi.le_refl⟩⟩
  refine h1.below.cell ?_
  by_cases hb : b < w.heap.size
  ·exact hb
  ·have := hH.fresh b (by omega)
   omega
 have hb : ∀ b, b < w.heap.size → w'.heap[b]? = w.heap[b]? := fun b hb => h1.below.block b hb
 exact ⟨.bool b, .bool b, H, G, rfl, hx, hH.keep hx rfl (fun id gi b h3 h4 => ⟨hb b (hH.lt id gi b h3 h4), rfl⟩) (fun b hbb => hH.fresh b (by have := h1.below.size; omega)), rfl, hK⟩
def zlK : AV → Bool
 | .bool _ | .int _ _ | .str _ => true
 | .sl [] .none => true
 | _ => false
theorem zxy {v : Value} {a : AV} (hf : zlK a = true) (h : ARel w G v a) (L : Nat → Nat) : DRel w L v a := by
 cases a <;> simp [zlK] at hf
 case bool b => have h : v = .bool b := h; subst h; exact .bool b
 case int k n => have h : v = .int k n := h; subst h; exact .int k n
 case str s => have h : v = .string ⟨s.toArray⟩ := h; subst h; exact .str s
 case sl es t =>
  cases es with
  | cons _ _ => simp at hf
  | nil =>
   cases t with
   | none =>
    have h : DRel w G.L v (.sl [] .none) := h
    cases h with
    | slE a cap => exact .slE a cap
    | sl b off cap esz _ vs hne => exact absurd rfl hne
   | _ => simp at hf
theorem zrr {id : Nat} {cs : List AV} {v : Value} (hH : HRel B w G H) (hid : H[id]? = some (.cells cs)) (hf : cs.all zlK = true) (h : ARel w G v (.ms id 0 1 1)) : DRel w (zcA w) v (.sl [cs] .none) := by
 obtain ⟨b, h1, rfl⟩ := h
 obtain ⟨_, _, vs, e, h4, h5⟩ := hH.ok id _ _ hid h1
 have hl : vs.size = cs.length := by simpa using h5.length
 have := DRel.of_flat_at (w := w) (L := zcA w) (g := b) (off := 0) (size := cs.length) (cap := 1) (es := [cs]) (zs := vs.toList) (by simp) (by simp) (by simp) (by simp [zcA, h4, hl])
  (All2.of_get (by simp [hl]) fun i x y hx hy => by
   have hy' : cs[i]? = some y := by simpa using hy
   obtain ⟨x', hx', hr⟩ := All2.get h5 hy'
   rw [hx] at hx'
   cases hx'
   exact zxy (List.all_eq_true.1 hf y (List.mem_of_getElem? hy')) hr _)
  (fun j v hj => by
   simp [World.cell?, h4] 
   simpa using hj)
 simpa using this
end Go.Abs
namespace Go.Proofs.Ytkdmpbhbmmhijaa
open Go Go.Abs
set_option maxRecDepth 100000
def zDC (_ : Nat) : List Bool := []
noncomputable def zDD : Code := Try.f15.body.getD .skip
def ztB (H : zaa) (K : Kt) : Prop :=
 ACalls tP zhO [] H fun t2 H =>
 zaz [.snil, .snil, .snil, .snil] H fun t1 H =>
 zar 4 t1 t2 H fun H =>
 zaf 3 t1 fun t3 =>
 zae false 1 t3 H fun t4 =>
 zak 8 t4 (.int .i64 0) fun t5 =>
 zaf 1 t5 fun t6 =>
 zar 1 t6 (.int .i64 1073741824) H fun H =>
 ACalls tP zhO [] H fun t7 H =>
 ACalls tP zfx [t7] H fun t8 H =>
 zab t8 true H (fun K' => zae true 4 t1 H (K' · H)) fun t10 H =>
 zab t8 true H (fun K' => ACalls tP zfx [t10] H K') fun t11 H =>
 zab t8 true H (fun K' => aUn .not t11 (K' · H)) fun t12 H =>
 zah t8 t12 (.bool false) fun t13 =>
 K t13 H
theorem zDE {H : zaa} {K : Kt} (h : HSc H → ztB H K) : ACalls tP zl4 [] H K :=
 zaw (M := zDC) Try.func15 (c := zDD) (by kernel_rfl) (fun hs => Eq.mpr (by kernel_rfl) (h hs))
end Go.Proofs.Ytkdmpbhbmmhijaa
namespace Go.Proofs.Ytkdmpbhbmmhijaa
open Go Go.Abs
set_option maxRecDepth 100000
def zmy (H : zaa) (K : Kt) : Prop :=
 zaz [.snil, .snil, .snil, .snil] H fun t0 H =>
 zaI [(.int .i64 0), (.int .i64 0), .snil] [(0, 1), (1, 1), (2, 1)] [(0, (.int .i64 1))] fun t2 =>
 zaz [(.int .i64 0), (.int .i64 0), .snil] H fun t1 H =>
 zar 3 t1 t2 H fun H =>
 zae true 3 t1 H fun t3 =>
 zaI [(.str []), .snil, .snil, (.int .i64 0), (.int .i64 0), .snil, (.int .i64 0)] [(0, 1), (1, 1), (2, 1), (3, 3), (6, 1)] [(0, (.str [102])), (3, t3)] fun t4 =>
 zeC 7 [(.str []), .snil, .snil, (.int .i64 0), (.int .i64 0), .snil, (.int .i64 0)] 1 [(0, t4)] H fun t5 H =>
 zae true 3 t1 H fun t6 =>
 zaI [(.int .i64 0), (.int .i64 0), .snil, .snil, .snil, (.int .i64 0), (.int .i64 0), .snil] [(0, 1), (1, 1), (2, 1), (3, 1), (4, 1), (5, 3)] [(0, (.int .i64 3)), (1, (.int .i64 1)), (5, t6)] fun t7 =>
 zeC 8 [(.int .i64 0), (.int .i64 0), .snil, .snil, .snil, (.int .i64 0), (.int .i64 0), .snil] 1 [(0, t7)] H fun t8 H =>
 zaI [.snil, .snil, .snil, .snil] [(0, 1), (1, 1), (2, 1), (3, 1)] [(1, t5), (3, t8)] fun t9 =>
 zar 4 t0 t9 H fun H =>
 zae true 4 t0 H fun r0 =>
 K r0 H
theorem zx7 (H : zaa) (K : Kt) : zgb tP ztC (zat tP zDF K) (List.replicate 10 .unk) H = zmy H K := by kernel_rfl
theorem zx8 {H : zaa} {K : Kt} (h : HSc H → zmy H K) : ACalls tP zhO [] H K :=
 zwq Try.func20 (c := ztC) (by kernel_rfl) (fun hs => (zx7 H K).mpr (h hs))
theorem bm7 (H : zaa) (K : Kt) : zeC 7 [(.str []), .snil, .snil, (.int .i64 0), (.int .i64 0), .snil, (.int .i64 0)] 1 [(0, .agg [.str [102], .snil, .snil, .int .i64 1, .int .i64 0, .snil, .int .i64 0])] H K = K (.ms H.length 0 1 1) (H ++ [.cells zhq]) := propext Iff.rfl
theorem bm8 (H : zaa) (K : Kt) : zeC 8 [(.int .i64 0), (.int .i64 0), .snil, .snil, .snil, (.int .i64 0), (.int .i64 0), .snil] 1 [(0, .agg [.int .i64 3, .int .i64 1, .snil, .snil, .snil, .int .i64 1, .int .i64 0, .snil])] H K = K (.ms H.length 0 1 1) (H ++ [.cells (zef 1)]) := propext Iff.rfl
theorem zrB {H : zaa} {K : Kt} (hK : ∀ X Y, K (.agg [.snil, .ms (H.length + 2) 0 1 1, .snil, .ms (H.length + 3) 0 1 1]) (H ++ [X, Y, .cells zhq, .cells (zef 1)])) : ACalls tP zhO [] H K := by
 refine zx8 fun hs => ?_
 simp [zmy, zaI, zbv]
 rw [bm7]
 simp
 rw [bm8]
 simp
 exact hK _ _
theorem zrC {H : zaa} {a b : Nat} {n : Int} (ha : H[a]? = some (.cells zhq)) (hb : H[b]? = some (.cells (zef n))) (B : Nat) (w : World) (G : Gh) (hH : HRel B w G H) (vs : Array Value)
  (hv : All2 (TRel w G) vs.toList [.agg [.snil, .ms a 0 1 1, .snil, .ms b 0 1 1]]) : All2 (TRel w (G0 w)) vs.toList [.agg (c1 n).cs] := by
 generalize vs.toList = l at *
 match l, hv with
 | [v], hv =>
  obtain ⟨⟨us, rfl, h2⟩, _⟩ := hv
  refine ⟨⟨us, rfl, ?_⟩, trivial⟩
  rw [zwY]
  generalize us.toList = m at *
  match m, h2 with
  | [x, y, z, u], h2 =>
   obtain ⟨hx, hy, hz, hu, _⟩ := h2
   have hx : x = .slice none 0 0 := hx
   have hz : z = .slice none 0 0 := hz
   subst hx hz
   refine ⟨.slE _ _, ?_, .slE _ _, ?_, trivial⟩
   ·exact zrr hH ha rfl hy
   ·exact zrr hH hb rfl hu
theorem zwW : ¬ ProgV (c1 1073741824) := by
 intro h
 have := h.exprs.rule 0 (by simp [c1])
 simp [c1, progRule, za2, zaB, za6] at this
theorem zwF (H : zaa) (K : Kt) (hK : K (.bool true) H) : ACalls tP zl4 [] H K := by
 refine ACalls.out (zDE fun hs => ?_)
 simp [ztB]
 refine zrB fun X Y => ?_
 have hset : (zef 1).set 1 (.int .i64 1073741824) = zef 1073741824 := rfl
 simp [zef]
 refine zrB fun X' Y' => ?_
 simp
 refine ACalls.pure0 (b := true) (znD (c1 1) (zqs 1) [] _ fun b hb => ?_) (zrC (a := H.length + 5 + 2) (b := H.length + 5 + 3) ?_ ?_) ?_
 ·cases b with
  | true => rfl
  | false => exact absurd (hb.2 zwZ) (by simp)
 ·rw [Nat.add_assoc]; simp
 ·rw [Nat.add_assoc]; simp
 simp
 refine ACalls.pure0 (b := false) (znD (c1 1073741824) (zqs _) [] _ fun b hb => ?_) (zrC (a := H.length + 2) (b := H.length + 3) ?_ ?_) ?_
 ·cases b with
  | true => exact absurd (hb.1 rfl) zwW
  | false => rfl
 ·simp
 ·simp [zef]
 simp
 exact Out.bool rfl (Nat.le_refl _) hs hK
end Go.Proofs.Ytkdmpbhbmmhijaa
namespace Go.Proofs.Ytkdmpbhbmmhijaa
open Go Go.Abs
set_option maxRecDepth 8000
theorem zq8 (l : List Int) (hl : l.length ≤ 1000000) (v : Int) (H : zaa) (K : Kt) (hK : K (.bool (decide (v ∈ l))) H) : ACalls tP zhP [.sl (ints l) .none, .int .i64 v] H K := by
 refine zDV fun hs => ?_
 simp [ztL]
 refine zDT (Inv := fun q t9 H' => ∃ j : Nat, j ≤ l.length ∧ q = l.length - j ∧ t9 = .int .i64 j ∧ (∀ (i : Nat) (h : i < l.length), i < j → l[i] ≠ v) ∧ H' = H) l.length ?_ ?_
 ·intro _; exact ⟨0, by omega, by omega, rfl, fun i h h2 => by omega, rfl⟩
 rintro q t9 H' ⟨j, hj, rfl, rfl, hno, rfl⟩ hsc hlen hsF Kb hKb
 by_cases hlt : j < l.length
 ·by_cases he : l[j] = v
  ·have he' : (l[j] == v) = true := by simpa using he
   have hm : v ∈ l := by rw [← he]; exact List.getElem_mem hlt
   simp [hm] at hK
   simp [zjr, hlt, zfu, he, he']
   exact hK
  ·have he' : (l[j] == v) = false := by simpa using he
   simp [zjr, hlt, zfu, he, he']
   rw [zaq (by omega) (by omega)]
   refine hKb _ _ ⟨l.length - (j + 1), by omega, Back.here (by simp) hsc ?_ ⟨_, rfl, j + 1, by omega, rfl, by simp, fun i h h2 => ?_, rfl⟩⟩
   ·simp [zjs, AV.sc, AV.scV, AV.scA, AV.scB]
    try omega
   ·by_cases h3 : i < j
    ·exact hno i h h3
    ·obtain rfl : i = j := by omega
     exact he
 ·have hm : v ∉ l := fun h => by
   obtain ⟨i, h1, h2⟩ := List.mem_iff_getElem.1 h
   exact hno i h1 (by omega) h2
  simp [hm] at hK
  obtain rfl : j = l.length := by omega
  simp [zjr]
  exact hK
theorem zx0 {st : List Bool} {v : Int} : v ∈ mem st ↔ ∃ n : Nat, v = n ∧ n < st.length ∧ st.getD n false = true := by
 unfold mem
 simp only [List.mem_map, List.mem_filter, List.mem_range]
 constructor
 ·rintro ⟨n, ⟨h1, h2⟩, h3⟩; exact ⟨n, h3.symm, h1, h2⟩
 ·rintro ⟨n, h1, h2, h3⟩; exact ⟨n, ⟨h2, h3⟩, h1.symm⟩
theorem chi_get {n : Nat} {P : Int → Prop} {v : Nat} : (chi n P).getD v false = true ↔ v < n ∧ P v := by
 unfold chi
 rw [List.getD_eq_getElem?_getD, List.getElem?_map]
 by_cases h : v < n
 ·rw [List.getElem?_range h]; simp [h]
 ·rw [List.getElem?_eq_none (by simp; omega)]; simp [h]
@[simp] theorem zNn (n : Nat) (P : Int → Prop) : (chi n P).length = n := by simp [chi]
theorem zzg {c : Cor} {P : Nat → Int → Prop} {e : Nat} (h : e < c.exprs.length) (hv : vOk c = true) (hP : ∀ {v : Int}, P e v → 0 ≤ v ∧ v < (c.vars.length : Int)) {v : Int} : v ∈ zdW c P e ↔ P e v := by
 unfold zdW
 rw [if_pos ⟨by omega, by omega, hv⟩, zx0, Int.toNat_natCast]
 constructor
 ·rintro ⟨n, rfl, h1, h2⟩
  exact (chi_get.1 h2).2
 ·intro h
  have := hP h
  refine ⟨v.toNat, by omega, by simp; omega, chi_get.2 ⟨by omega, ?_⟩⟩
  rw [show ((v.toNat : Nat) : Int) = v by omega]
  exact h
theorem zzf (c : Cor) (P : Nat → Int → Prop) (e : Int) : (zdW c P e).length ≤ c.vars.length := by
 unfold zdW
 split
 ·have := zrm (chi c.vars.length (P e.toNat)) (chi c.vars.length (P e.toNat)).length
  simpa [mem, zc4] using this
 ·simp
theorem zid {c : Cor} (hk : zaN c) {e : Nat} (h : e < c.exprs.length) (hv : vOk c = true) {v : Int} : v ∈ zbf c e ↔ InS c e v :=
 zzg h hv fun hf => (zgJ hk hv).InS_range hf
theorem zmu : ∀ {l1 l2 : List Int}, l1.Nodup → (∀ x ∈ l1, x ∈ l2) → l1.length ≤ l2.length
 | [], _, _, _ => by simp
 | a :: l, l2, h, hs => by
  obtain ⟨h1, h2⟩ := List.nodup_cons.1 h
  have h3 := hs a (by simp)
  have h4 := zmu (l2 := l2.erase a) h2 fun x hx => (List.mem_erase_of_ne (fun e => h1 (by rw [← e]; exact hx))).2 (hs x (by simp [hx]))
  rw [List.length_erase_of_mem h3] at h4
  have := List.length_pos_of_mem h3
  simp
  omega
theorem zrw {l1 l2 : List Int} (h1 : l1.Nodup) (h2 : l2.Nodup) (h : ∀ x, x ∈ l1 ↔ x ∈ l2) : l1.length = l2.length :=
 Nat.le_antisymm (zmu h1 fun x hx => (h x).1 hx) (zmu h2 fun x hx => (h x).2 hx)
theorem zx1 (st : List Bool) : (mem st).Nodup := by
 unfold mem
 refine List.pairwise_map.2 ?_
 refine List.Pairwise.imp (fun {a b} h => ?_) (List.Pairwise.filter _ (List.pairwise_lt_range (n := st.length)))
 omega
theorem zmT (c : Cor) (P : Nat → Int → Prop) (e : Int) : (zdW c P e).Nodup := by
 unfold zdW
 split
 ·exact zx1 _
 ·simp
theorem zxK {c : Cor} (hk : zaN c) (hv : vOk c = true) {e k m : Nat} {l : List Int} (h : Kid c e k m) (hl : (zb6 c e)[k]? = some l) : (∀ v, v ∈ zbf c m ↔ v ∈ zbf c e ∨ v ∈ l) ∧ (zbf c m).length = (zbf c e).length + l.length := by
 have hT := zgJ hk hv
 have hm := (hT.lt h).2
 have he : e < c.exprs.length := zfv h.mem
 have hb : ∀ v, Bind c e k v ↔ v ∈ l := fun v => ⟨fun ⟨l', h1, h2⟩ => by rw [hl] at h1; obtain rfl := Option.some.inj h1; exact h2, fun h2 => ⟨l, hl, h2⟩⟩
 have h1 : ∀ v, v ∈ zbf c m ↔ v ∈ zbf c e ∨ v ∈ l := fun v => by rw [zid hk hm hv, zid hk he hv, hT.kid_InS h, hb]
 refine ⟨h1, ?_⟩
 rw [← List.length_append]
 refine zrw (zmT _ _ _) ?_ fun v => by rw [h1, List.mem_append]
 rw [List.nodup_append]
 refine ⟨zmT _ _ _, hT.bn hl, fun a ha b hb2 e2 => ?_⟩
 subst e2
 have h3 := hT.bound_lt ((zid hk he hv).1 ha) ((hb a).2 hb2)
 omega
theorem zyT {c : Cor} (hk : zaN c) (hv : vOk c = true) {i b : Nat} (h : zcL c i b) : ∀ hi : i < c.codes.length, (zbf c b).length = (c.codes[i]).params.length + (c.codes[i]).capt.length := by
 intro hi
 have hT := zgJ hk hv
 rw [← List.length_append]
 refine zrw (zmT _ _ _) (hT.pn i hi) fun v => ?_
 rw [zid hk (hT.blt h) hv, hT.root_InS h]
 exact ⟨fun ⟨_, h⟩ => h, fun h => ⟨hi, h⟩⟩
theorem zwh (c : Cor) (h1 : c.data.length ≤ 9223372036854775807) (h2 : c.vars.length ≤ 9223372036854775807) (v : Int) : ACalls tP zrt [.agg c.cs, .int .i64 v] [] fun r _ => r = .bool true := by
 refine zHi fun hs => ?_
 have hat : c.cs = [.sl (c.data.map Dat.cs) .none, .sl (c.codes.map Cod.cs) .none, .sl (VT.css c.vars) .none, .sl (c.exprs.map CEx.cs) .none] := rfl
 simp [zq5, hat]
 rw [← hat]
 refine zBk c h1 h2 _ _ fun b hb => ?_
 cases b with
 | false => simp
 | true =>
 have hk := hb rfl
 have hcn := hk.2.1
 have hen := hk.2.2.1
 have hvn := hk.2.2.2.1.1
 simp [hat]
 rw [← hat]
 refine zCU c hk _ _ ?_
 cases hv : vOk c with
 | false => simp
 | true =>
 have hT := zgJ hk hv
 by_cases g1 : v < 0
 ·simp [hat, g1]
 by_cases g2 : (c.exprs.length : Int) ≤ v
 ·simp [hat, g1, g2]
 obtain ⟨e, rfl⟩ : ∃ n : Nat, v = n := ⟨v.toNat, by omega⟩
 have hel : e < c.exprs.length := by omega
 have g2' : ¬ c.exprs.length ≤ e := by omega
 obtain ⟨x, y, z, hvv, hx, hy, hz, hce⟩ := zdQ hel
 obtain ⟨_, kb, kk, _, kbl⟩ := zre hk hel
 have hbk : (c.exprs[e]).binds.length = (c.exprs[e]).kids.length := by have := hT.kb e; rwa [zdp hel, zcx hel] at this
 have hkr : ∀ x ∈ (c.exprs[e]).kids, 0 ≤ x ∧ x < (c.exprs.length : Int) := fun x hx => hT.kr e x (by rw [zcx hel]; exact hx)
 have hka : zcw c e = (c.exprs[e]).kids := zcx hel
 have hba : zb6 c e = (c.exprs[e]).binds := zdp hel
 generalize hE : c.exprs[e] = E at *
 simp [hat, g1, g2']
 rw [← hat]
 refine zn9 c hk e _ _ ?_
 simp [hat, hel, hE, hce, hx, hy, hz]
 rw [← hat]
 have hsl := fun i => zzf c (InS c) i
 refine zHf (Inv := fun q t45 H' => ∃ k : Nat, k ≤ E.kids.length ∧ q = E.kids.length - k ∧ t45 = .int .i64 k ∧ H' = [.cells c.cs, .cells [.int .i64 E.op, .int .i64 E.num, .sl (ints E.vars) .none, .sl (rows E.binds) .none, .sl (ints E.kids) .none, x, y, z]]) E.kids.length ?_ ?_
 ·intro _; exact ⟨0, by omega, by omega, rfl, rfl⟩
 rintro q t45 H' ⟨k, hkl, rfl, rfl, rfl⟩ hsc hlen hsF Kb hKb
 by_cases hlk : k < E.kids.length
 ·have hra := hkr _ (List.getElem_mem hlk)
  obtain ⟨m, hm⟩ : ∃ m : Nat, E.kids[k] = m := ⟨(E.kids[k]).toNat, by omega⟩
  have hKid : Kid c e k m := by unfold Kid; rw [hka, List.getElem?_eq_getElem hlk, hm]
  have hkb : k < E.binds.length := by omega
  have hbl : (E.binds[k]).length ≤ 10 := kbl _ (List.getElem_mem hkb)
  obtain ⟨hmem, hln⟩ := zxK hk hv hKid (l := E.binds[k]) (by rw [hba]; exact List.getElem?_eq_getElem hkb)
  have hl1 : (zbf c e).length ≤ c.vars.length := hsl e
  have hl2 : (zbf c m).length ≤ c.vars.length := hsl m
  simp [zo7, hlk, zfu, hm, hat]
  rw [← hat]
  refine zn9 c hk m _ _ ?_
  simp
  refine zHd (Inv := fun q t10 t55 H' => ∃ j : Nat, j ≤ (zbf c m).length ∧ q = (zbf c m).length - j ∧ t10 = .int .i64 j ∧ t55 = .int .i64 j ∧ H' = [.cells c.cs, .cells [.int .i64 E.op, .int .i64 E.num, .sl (ints E.vars) .none, .sl (rows E.binds) .none, .sl (ints E.kids) .none, x, y, z]]) (zbf c m).length ?_ ?_
  ·intro _; exact ⟨0, by omega, by omega, rfl, rfl, rfl⟩
  rintro q t10 t55 H' ⟨j, hj, rfl, rfl, rfl, rfl⟩ hsc2 hlen2 hsF2 Kb11 hKb11
  by_cases hlj : j < (zbf c m).length
  ·have hin := (hmem _).1 (List.getElem_mem hlj)
   have hgo : Kb11 (zg7 (.ptr 0 0) (.sl (ints (zbf c e)) .none) (.ptr 1 0) (.int .i64 k) (.sl (ints (zbf c m)) .none) (.int .i64 (IntKind.i64.wrap ((j : Int) + 1))) (.sl (ints E.kids) .none) (.int .i64 E.kids.length) (.int .i64 k) (.sl (ints (zbf c m)) .none) (.int .i64 (zbf c m).length) (.int .i64 (IntKind.i64.wrap ((j : Int) + 1)))) [.cells c.cs, .cells [.int .i64 E.op, .int .i64 E.num, .sl (ints E.vars) .none, .sl (rows E.binds) .none, .sl (ints E.kids) .none, x, y, z]] := by
    rw [zaq (by omega) (by omega)]
    refine hKb11 _ _ ⟨(zbf c m).length - (j + 1), by omega, Back.here (by simp) hsc2 ?_ ⟨_, _, rfl, j + 1, by omega, rfl, by simp, by simp, rfl⟩⟩
    simp [zg7, AV.sc, AV.scV, AV.scA, AV.scB]
    try omega
   simp [zo5, hlj, zfu]
   refine zq8 (zbf c e) (by omega) _ _ _ ?_
   by_cases hp : (zbf c m)[j] ∈ zbf c e
   ·simp [hp, zkq, zo9]
    exact hgo
   ·have hc : (zbf c m)[j] ∈ E.binds[k] := by
     rcases hin with h | h
     ·exact absurd h hp
     ·exact h
    simp [hp, hkb, zmI]
    refine zq8 E.binds[k] (by omega) _ _ _ ?_
    simp [hc, zkq, zo9]
    exact hgo
  ·obtain rfl : j = (zbf c m).length := by omega
   have hadd : IntKind.i64.wrap (((zbf c e).length : Int) + ((E.binds[k]).length : Int)) = ((zbf c m).length : Int) := by
    rw [zaq (by omega) (by omega), hln]; simp
   simp [zo5, hkb, zmI, hadd]
   rw [zaq (by omega) (by omega)]
   refine hKb _ _ ⟨E.kids.length - (k + 1), by omega, Back.here (by simp) hsc2 ?_ ⟨_, rfl, k + 1, by omega, rfl, by simp, rfl⟩⟩
   simp [zkp, AV.sc, AV.scV, AV.scA, AV.scB]
   try omega
 obtain rfl : k = E.kids.length := by omega
 simp [zo7, hat]
 rw [← hat]
 refine zHe (Inv := fun q t95 H' => ∃ (i : Nat), i ≤ c.codes.length ∧ q = c.codes.length - i ∧ t95 = .int .i64 i ∧ H' = [.cells c.cs, .cells [.int .i64 E.op, .int .i64 E.num, .sl (ints E.vars) .none, .sl (rows E.binds) .none, .sl (ints E.kids) .none, x, y, z]]) c.codes.length ?_ ?_
 ·intro _; exact ⟨0, by omega, by omega, rfl, rfl⟩
 rintro q t95 H' ⟨i, hi, rfl, rfl, rfl⟩ hsc2 hlen2 hsF2 Kb20 hKb20
 by_cases hli : i < c.codes.length
 ·obtain ⟨x', y', z', hvv', hx', hy', hz', hce'⟩ := zeb hli
  obtain ⟨_, kp, kc, _⟩ := zqB hk hli
  obtain ⟨b, hbe, hbl, _⟩ := (((znd c hk).1 ((zio c).1 hv)).codes i hli).body
  have hroot : zcL c i b := ⟨hli, hbe⟩
  have hlen3 := zyT hk hv hroot hli
  generalize hF : c.codes[i] = F at *
  have hadd : IntKind.i64.wrap ((F.params.length : Int) + (F.capt.length : Int)) = ((zbf c b).length : Int) := by
   rw [zaq (by omega) (by omega), hlen3]; simp
  simp [zo6, hat, hli, hF, hce', hx', hy', hz', hbe]
  rw [← hat]
  refine zax (.sl (ints (zbf c b)) .none) (fun J => zn9 c hk b _ _ ⟨rfl, rfl⟩) ?_
  simp [hadd]
  rw [zaq (by omega) (by omega)]
  refine hKb20 _ _ ⟨c.codes.length - (i + 1), by omega, Back.at (J := [.cells [.str F.name, .sl (ints F.params) .none, .sl (ints F.capt) .none, x', y', z', .int .i64 b]]) (H2 := [.cells c.cs, .cells [.int .i64 E.op, .int .i64 E.num, .sl (ints E.vars) .none, .sl (rows E.binds) .none, .sl (ints E.kids) .none, x, y, z]]) (by simp) (by simp) hsc2 ?_ ⟨_, rfl, i + 1, by omega, rfl, by simp, rfl⟩⟩
  simp [zko, AV.sc, AV.scV, AV.scA, AV.scB]
 ·obtain rfl : i = c.codes.length := by omega
  simp [zo6]
  refine zwF _ _ ?_
  simp
end Go.Proofs.Ytkdmpbhbmmhijaa
namespace Go.Abs
open Go Go.RowKit

def zbs (P : Program) : Nat → TypeId → List AV → Prop
 | 0, _, _ => False
 | n + 1, t, asx => match P.underlying t with
  | some .bool => ∃ b, asx = [.bool b]
  | some (.int k) => ∃ m, asx = [.int k m] ∧ (Lit.int k m).wf = true
  | some .string => ∃ s, asx = [.str s] ∧ s.length ≤ maxLen
  | some (.slice e) => ∃ es, asx = [.sl es .none] ∧ es.length ≤ maxLen ∧ ∀ c ∈ es, zbs P n e c
  | some (.struct fs) => asx.length = P.cellsOf t ∧ ∀ f ∈ fs.toList, zbs P n f.type ((asx.drop f.offset).take (P.cellsOf f.type))
  | _ => False

def zer (P : Program) : List Field → Nat → Nat → Bool
 | [], at_, n => at_ == n
 | f :: fs, at_, n => f.offset == at_ && zer P fs (at_ + P.cellsOf f.type) n
def zh6 (P : Program) (S : List TypeId) : Bool :=
 S.all fun t => match P.underlying t with
  | some .bool | some (.int _) | some .string => P.cellsOf t == 1
  | some (.slice e) => S.contains e && decide (0 < P.cellsOf e) && P.cellsOf t == 1
  | some (.struct fs) => fs.toList.all (fun f => S.contains f.type) && zer P fs.toList 0 (P.cellsOf t)
  | _ => false

section
variable {Hh : Type} {enc : TypeId × Value → Hh} {P : Program} {w : World} {base : Nat} {spare : Nat → Bool} {held : Bool}

theorem zsg {R : Value → AV → Prop} {cs : List Value} : ∀ (fs : List Field) (at_ n : Nat) (T : Field → List AV → Prop), zer P fs at_ n = true → cs.length = n →
  (∀ f ∈ fs, ∃ asx, All2 R ((cs.drop f.offset).take (P.cellsOf f.type)) asx ∧ T f asx) → at_ ≤ n →
  ∃ asx, All2 R (cs.drop at_) asx ∧ ∀ f ∈ fs, T f ((asx.drop (f.offset - at_)).take (P.cellsOf f.type)) ∧ at_ ≤ f.offset
 | [], at_, n, T, ht, hl, hf, hle => by
  simp [zer] at ht
  subst ht
  refine ⟨[], ?_, by simp⟩
  rw [List.drop_eq_nil_of_le (by omega)]
  trivial
 | f :: fs, at_, n, T, ht, hl, hf, hle => by
  simp only [zer, Bool.and_eq_true, beq_iff_eq] at ht
  obtain ⟨h1, h2⟩ := ht
  have hbound : ∀ (fs : List Field) (k n : Nat), zer P fs k n = true → k ≤ n := by
   intro fs
   induction fs with
   | nil => intro k n h; simp [zer] at h; omega
   | cons g gs ih => intro k n h; simp only [zer, Bool.and_eq_true] at h; have := ih _ _ h.2; omega
  have hb := hbound fs _ _ h2
  obtain ⟨as0, ha0, hT0⟩ := hf f (by simp)
  obtain ⟨as1, ha1, hT1⟩ := zsg fs (at_ + P.cellsOf f.type) n T h2 hl (fun g hg => hf g (by simp [hg])) hb
  have hl0 : as0.length = P.cellsOf f.type := by
   have := ha0.length
   rw [List.length_take, List.length_drop] at this
   omega
  refine ⟨as0 ++ as1, ?_, ?_⟩
  ·have : cs.drop at_ = (cs.drop f.offset).take (P.cellsOf f.type) ++ cs.drop (at_ + P.cellsOf f.type) := by
    rw [h1, ← List.drop_drop, List.take_append_drop]
   rw [this]
   exact ha0.append ha1
  ·intro g hg
   rcases List.mem_cons.1 hg with rfl | hg
   ·rw [h1, Nat.sub_self, List.drop_zero, ← hl0, List.take_left]
    exact ⟨hT0, Nat.le_refl _⟩
   ·obtain ⟨k1, k2⟩ := hT1 g hg
    refine ⟨?_, by omega⟩
    have : (as0 ++ as1).drop (g.offset - at_) = as1.drop (g.offset - (at_ + P.cellsOf f.type)) := by
     rw [List.drop_append, List.drop_eq_nil_of_le (by omega), List.nil_append]
     congr 1
     omega
    rw [this]
    exact k1

theorem zhp {a : Addr} {n : Nat} {cs : List Value} (h : w.cells? base a n = some cs) : cs.length = n ∧ ∀ j v, cs[j]? = some v → w.cell? (a.add j) = some v := by
 unfold World.cells? at h
 split at h
 ·have h1 := mapM_some_length h
  refine ⟨by simpa using h1, fun j v hj => ?_⟩
  have hjn : j < n := by
   have := (List.getElem?_eq_some_iff.1 hj).1
   simp at h1
   omega
  have := mapM_some_get h j j (by simp [hjn])
  rw [this]
  exact hj
 ·cases h

theorem zxX {b o : Nat} {v : Value} (h : w.cell? ⟨b, o, none⟩ = some v) : o < zcA w b := by
 unfold World.cell? at h
 unfold zcA
 split at h
 ·rename_i c t fr hb
  simp only [hb]
  simp at h
  exact (Array.getElem?_eq_some_iff.1 h).1
 ·cases h

theorem zsn {S : List TypeId} (hS : zh6 P S = true) : ∀ (n : Nat) (t : TypeId) (cs : List Value) (x : DataW Hh × List MemPlace), t ∈ S → DataW.trod enc P w base spare held n t cs = some x →
  ∃ asx, All2 (DRel w (zcA w)) cs asx ∧ zbs P n t asx := by
 intro n
 induction n with
 | zero => intro t cs x _ h; simp [DataW.trod] at h
 | succ n ih =>
  intro t cs x ht h
  have hp := List.all_eq_true.1 hS t ht
  unfold zbs
  cases hu : P.underlying t with
  | none => simp [hu] at hp
  | some d =>
   rw [hu] at hp
   cases d <;> simp only [] at hp <;> try (cases hp; done)
   case bool =>
    obtain ⟨b, rfl, _⟩ := DataW.trod_bool hu h
    exact ⟨[.bool b], ⟨.bool b, trivial⟩, b, rfl⟩
   case int k =>
    obtain ⟨m, rfl, _, hw⟩ := DataW.trod_int hu h
    exact ⟨[.int k m], ⟨.int k m, trivial⟩, m, rfl, hw⟩
   case string =>
    obtain ⟨s, rfl, _, hw⟩ := DataW.trod_string hu h
    have hs : (⟨s.data.toList.toArray⟩ : ByteArray) = s := by simp
    refine ⟨[.str s.data.toList], ⟨?_, trivial⟩, s.data.toList, rfl, by rw [Array.length_toList]; exact hw⟩
    have := DRel.str (w := w) (L := zcA w) s.data.toList
    rwa [hs] at this
   case slice e =>
    simp only [Bool.and_eq_true, decide_eq_true_eq] at hp
    obtain ⟨⟨he, hpos⟩, _⟩ := hp
    have he : e ∈ S := by simpa using he
    rcases DataW.trod_slice hu h with ⟨rfl, _⟩ | ⟨a, len, cap, elems, rest, n', hn, rfl, _, hb, hl, hm, hlen, hel, _⟩
    ·exact ⟨[.sl [] .none], ⟨.slE _ _, trivial⟩, [], rfl, by simp, by simp⟩
    ·obtain rfl : n = n' := by omega
     have hat : ∀ i, i < len → ∃ cs asx, w.cells? base (a.add (i * P.cellsOf e)) (P.cellsOf e) = some cs ∧ All2 (DRel w (zcA w)) cs asx ∧ zbs P n e asx := by
      intro i hi
      have h1 := hel i hi
      rw [List.getElem?_eq_getElem (by omega)] at h1
      cases hc : w.cells? base (a.add (i * P.cellsOf e)) (P.cellsOf e) with
      | none => rw [hc] at h1; cases h1
      | some cs =>
       rw [hc] at h1
       obtain ⟨asx, h2, h3⟩ := ih e cs _ he h1
       exact ⟨cs, asx, rfl, h2, h3⟩
     by_cases h0 : len = 0
     ·subst h0
      exact ⟨[.sl [] .none], ⟨.slE _ _, trivial⟩, [], rfl, by simp, by simp⟩
     ·-- the address is a zbw one
      have hspot : a.spot = none := by
       obtain ⟨cs, asx, h1, h2, _⟩ := hat 0 (by omega)
       obtain ⟨h3, h4⟩ := zhp h1
       have h5 := h4 0 cs[0] (by simp)
       have := World.cell?_spot h5
       simpa [Addr.add] using this
      obtain ⟨b, off, sp⟩ := a
      simp only at hspot
      subst hspot
      obtain ⟨f, hf⟩ : ∃ f : Nat → List Value × List AV, ∀ i, i < len → w.cells? base ((⟨b, off, none⟩ : Addr).add (i * P.cellsOf e)) (P.cellsOf e) = some (f i).1 ∧ All2 (DRel w (zcA w)) (f i).1 (f i).2 ∧ zbs P n e (f i).2 :=
       Deep.choose_lt (p := fun i (y : List Value × List AV) => w.cells? base ((⟨b, off, none⟩ : Addr).add (i * P.cellsOf e)) (P.cellsOf e) = some y.1 ∧ All2 (DRel w (zcA w)) y.1 y.2 ∧ zbs P n e y.2)
        (fun i hi => by obtain ⟨cs, asx, h1, h2, h3⟩ := hat i hi; exact ⟨(cs, asx), h1, h2, h3⟩)
      have hcell : ∀ i, i < len → ∀ j v, (f i).1[j]? = some v → w.cell? ⟨b, off + i * P.cellsOf e + j, none⟩ = some v := by
       intro i hi j v hj
       have := (zhp (hf i hi).1).2 j v hj
       rw [add_lit, add_lit] at this
       exact this
      have hlen2 : ∀ i, i < len → (f i).2.length = P.cellsOf e := fun i hi => by
       rw [← (hf i hi).2.1.length]; exact (zhp (hf i hi).1).1
      refine ⟨[.sl ((List.range len).map fun i => (f i).2) .none], ⟨?_, trivial⟩, _, rfl, by simp; omega, ?_⟩
      ·have := DRel.sl (w := w) (L := zcA w) b off cap (P.cellsOf e) ((List.range len).map fun i => (f i).2) (fun i j => (f i).1.getD j undef) (by simp; exact h0) (by simpa using hl) ?_ ?_ ?_ ?_
       ·simpa using this
       ·-- the last cell is there
        have hi : len - 1 < len := by omega
        have hj : P.cellsOf e - 1 < (f (len - 1)).1.length := by rw [(zhp (hf _ hi).1).1]; omega
        have := zxX (hcell (len - 1) hi (P.cellsOf e - 1) _ (List.getElem?_eq_getElem hj))
        have hmul : (len - 1) * P.cellsOf e + P.cellsOf e = len * P.cellsOf e := by
         rw [← Nat.succ_mul]; congr 1; omega
        simp
        omega
       ·intro i hi
        simp at hi
        simpa using hlen2 i hi
       ·intro i j hi hj
        simp at hi hj
        have hjl : j < (f i).1.length := by rw [(hf i hi).2.1.length]; exact hj
        simp only [List.getD_eq_getElem?_getD, List.getElem?_eq_getElem hjl, Option.getD_some]
        exact hcell i hi j _ (List.getElem?_eq_getElem hjl)
       ·intro i j hi hj
        simp at hi hj
        have hjl : j < (f i).1.length := by rw [(hf i hi).2.1.length]; exact hj
        obtain ⟨c, h1, h2⟩ := (hf i hi).2.1.get' (List.getElem?_eq_getElem hjl)
        simp only [List.getD_eq_getElem?_getD, List.getElem?_eq_getElem hjl, Option.getD_some, List.getElem_map, List.getElem_range]
        have : (f i).2[j] = c := by rw [List.getElem?_eq_getElem hj] at h1; exact Option.some.inj h1
        rw [this]
        exact h2
      ·intro c hc
       obtain ⟨i, hi, rfl⟩ := List.mem_map.1 hc
       exact (hf i (by simpa using hi)).2.2
   case struct fs =>
    simp only [Bool.and_eq_true] at hp
    obtain ⟨hfs, htile⟩ := hp
    obtain ⟨xs, n', hn, _, hcl, hxl, hat⟩ := DataW.trod_struct hu h
    obtain rfl : n = n' := by omega
    obtain ⟨asx, h1, h2⟩ := zsg (P := P) (R := DRel w (zcA w)) (cs := cs) fs.toList 0 (P.cellsOf t) (fun f asx => zbs P n f.type asx) htile hcl (fun f hf => by
     obtain ⟨i, hi⟩ := List.mem_iff_getElem?.1 hf
     have hi' : fs[i]? = some f := by simpa using hi
     have h3 := hat i f hi'
     have hlt : i < xs.length := by rw [hxl]; exact (Array.getElem?_eq_some_iff.1 hi').1
     rw [List.getElem?_eq_getElem hlt] at h3
     exact ih f.type _ _ (by simpa using List.all_eq_true.1 hfs f hf) h3) (Nat.zero_le _)
    rw [List.drop_zero] at h1
    refine ⟨asx, h1, by rw [← h1.length]; exact hcl, fun f hf => ?_⟩
    simpa using (h2 f hf).1
end

theorem zyl {Hh : Type} {enc : TypeId × Value → Hh} {P : Program} {w : World} {base : Nat} {spare : Nat → Bool} {held : Bool} {S : List TypeId} (hS : zh6 P S = true) {t : TypeId} (ht : t ∈ S) {cs : Array Value} {d : DataW Hh} {p : List MemPlace}
  (h : DataW.Trod enc P w base spare held t (.agg cs) d p) : ∃ n asx, zbs P n t asx ∧ TRel w (G0 w) (.agg cs) (.agg asx) := by
 obtain ⟨n, hn⟩ := h
 obtain ⟨asx, h1, h2⟩ := zsn hS n t _ _ ht hn
 exact ⟨n, asx, h2, cs, rfl, h1.mono fun _ _ hd => ARel.of_b (DRel.toB (G := G0 w) hd)⟩
theorem zyk {Hh : Type} {enc : TypeId × Value → Hh} {P : Program} {w : World} {base : Nat} {spare : Nat → Bool} {held : Bool} {S : List TypeId} (hS : zh6 P S = true) {t : TypeId} (ht : t ∈ S) {v : Value} {d : DataW Hh} {p : List MemPlace} (hv : v.cells = #[v])
  (h : DataW.Trod enc P w base spare held t v d p) : ∃ n a, zbs P n t [a] ∧ TRel w (G0 w) v a := by
 obtain ⟨n, hn⟩ := h
 obtain ⟨asx, h1, h2⟩ := zsn hS n t _ _ ht hn
 rw [hv] at h1
 match asx, h1, h2 with
 | [a], h1, h2 => exact ⟨n, a, h2, TRel.of_v (VRel.of_a (ARel.of_b (DRel.toB (G := G0 w) h1.1)))⟩
section
variable {P : Program} {n : Nat} {t : TypeId} {l : List AV}
theorem zes {k : IntKind} (hu : P.underlying t = some (.int k)) (h : zbs P n t l) : ∃ m, l = [.int k m] ∧ (Lit.int k m).wf = true := by
 cases n with
 | zero => exact h.elim
 | succ n => unfold zbs at h; rw [hu] at h; exact h
theorem zm7 (hu : P.underlying t = some .string) (h : zbs P n t l) : ∃ s, l = [.str s] ∧ s.length ≤ maxLen := by
 cases n with
 | zero => exact h.elim
 | succ n => unfold zbs at h; rw [hu] at h; exact h
theorem zdA {e : TypeId} (hu : P.underlying t = some (.slice e)) (h : zbs P n t l) : ∃ es n', n' < n ∧ l = [.sl es .none] ∧ es.length ≤ maxLen ∧ ∀ c ∈ es, zbs P n' e c := by
 cases n with
 | zero => exact h.elim
 | succ n => unfold zbs at h; rw [hu] at h; obtain ⟨es, h1, h2, h3⟩ := h; exact ⟨es, n, by omega, h1, h2, h3⟩
theorem zfO {fs : Array Field} (hu : P.underlying t = some (.struct fs)) (h : zbs P n t l) : ∃ n', n' < n ∧ l.length = P.cellsOf t ∧ ∀ f ∈ fs.toList, zbs P n' f.type ((l.drop f.offset).take (P.cellsOf f.type)) := by
 cases n with
 | zero => exact h.elim
 | succ n => unfold zbs at h; rw [hu] at h; exact ⟨n, by omega, h⟩
theorem zdt {α : Type} {cs : α → List AV} : ∀ {es : List (List AV)}, (∀ c ∈ es, ∃ x, c = cs x) → ∃ xs : List α, es = xs.map cs
 | [], _ => ⟨[], rfl⟩
 | e :: es, h => by
  obtain ⟨x, hx⟩ := h e (by simp)
  obtain ⟨xs, hxs⟩ := zdt (es := es) (fun c hc => h c (by simp [hc]))
  exact ⟨x :: xs, by simp [hx, hxs]⟩
end
end Go.Abs
namespace Go.Proofs.Ytkdmpbhbmmhijaa
open Go Go.Abs
set_option maxRecDepth 100000
theorem zqD : zh6 Try.prog [27, 22, 23, 24, 25, 67, 65, 69, 41, 43, 46, 35, 39, 2, 3, 9] = true := by kernel_rfl
theorem ce3 : Try.prog.cellsOf 3 = 1 := by kernel_rfl
theorem ce2 : Try.prog.cellsOf 2 = 1 := by kernel_rfl
theorem ce9 : Try.prog.cellsOf 9 = 1 := by kernel_rfl
theorem zw8 : Try.prog.cellsOf 22 = 1 := by kernel_rfl
theorem zw9 : Try.prog.cellsOf 23 = 1 := by kernel_rfl
theorem zlu : Try.prog.cellsOf 24 = 1 := by kernel_rfl
theorem zxa : Try.prog.cellsOf 25 = 1 := by kernel_rfl
theorem zqv : Try.prog.cellsOf 35 = 1 := by kernel_rfl
theorem zxc : Try.prog.cellsOf 39 = 1 := by kernel_rfl
theorem zxf : Try.prog.cellsOf 65 = 1 := by kernel_rfl
theorem zlv : Try.prog.cellsOf 41 = 3 := by kernel_rfl
theorem zxd : Try.prog.cellsOf 43 = 8 := by kernel_rfl
theorem zxe : Try.prog.cellsOf 46 = 7 := by kernel_rfl
theorem zxg : Try.prog.cellsOf 67 = 3 := by kernel_rfl
theorem zxh : Try.prog.cellsOf 69 = 2 := by kernel_rfl
theorem zxb : Try.prog.cellsOf 27 = 4 := by kernel_rfl
theorem zir : ∀ (n : Nat) (l : List AV), zbs Try.prog n 41 l → ∃ v : VT, l = v.cs := by
 intro n
 induction n using Nat.strongRecOn with
 | _ n ih =>
  intro l h
  obtain ⟨n', hn, hl, hf⟩ := zfO Try.underlying41 h
  rw [zlv] at hl
  match l, hl with
  | [a, b, c], _ =>
   simp [ce3, zlu] at hf
   obtain ⟨h1, h2, h3⟩ := hf
   obtain ⟨k, hk, _⟩ := zes Try.underlying3 h1
   obtain ⟨m, hm, _⟩ := zes Try.underlying3 h2
   obtain ⟨es, n2, hn2, hes, _, hel⟩ := zdA Try.underlying24 h3
   obtain ⟨ks, hks⟩ := zdt (cs := VT.cs) (fun c hc => ih n2 (by omega) c (hel c hc))
   simp at hk hm hes
   exact ⟨.mk k m ks, by simp [VT.cs, VT.css_map, hk, hm, hes, hks]⟩
theorem zgl (n : Nat) (a : AV) (h : zbs Try.prog n 35 [a]) : ∃ l : List Int, a = .sl (ints l) .none := by
 obtain ⟨es, n2, hn2, hes, _, hel⟩ := zdA Try.underlying35 h
 obtain ⟨ks, hks⟩ := zdt (cs := fun n : Int => [AV.int .i64 n]) (fun c hc => by
  obtain ⟨m, hm, _⟩ := zes Try.underlying3 (hel c hc)
  exact ⟨m, hm⟩)
 simp at hes
 exact ⟨ks, by rw [hes, hks]; rfl⟩
theorem zyU (n : Nat) (a : AV) (h : zbs Try.prog n 39 [a]) : ∃ l : List (List Int), a = .sl (rows l) .none := by
 obtain ⟨es, n2, hn2, hes, _, hel⟩ := zdA Try.underlying39 h
 obtain ⟨ks, hks⟩ := zdt (cs := fun r : List Int => [AV.sl (ints r) .none]) (fun c hc => by
  obtain ⟨es2, _, _, h2, _⟩ := zdA Try.underlying35 (hel c hc)
  subst h2
  obtain ⟨l, hl⟩ := zgl n2 _ (hel _ hc)
  exact ⟨l, by rw [hl]⟩)
 simp at hes
 exact ⟨ks, by rw [hes, hks]; rfl⟩
theorem zxp (n : Nat) (l : List AV) (h : zbs Try.prog n 69 l) : ∃ c : Con, l = c.cs := by
 obtain ⟨n', hn, hl, hf⟩ := zfO Try.underlying69 h
 rw [zxh] at hl
 match l, hl with
 | [a, b], _ =>
  simp [ce9, zlu] at hf
  obtain ⟨h1, h2⟩ := hf
  obtain ⟨s, hs, _⟩ := zm7 Try.underlying9 h1
  obtain ⟨es, n2, hn2, hes, _, hel⟩ := zdA Try.underlying24 h2
  obtain ⟨ks, hks⟩ := zdt (cs := VT.cs) (fun c hc => zir n2 c (hel c hc))
  simp at hs hes
  exact ⟨⟨s, ks⟩, by simp [Con.cs, VT.css_map, hs, hes, hks]⟩
theorem zxs (n : Nat) (l : List AV) (h : zbs Try.prog n 67 l) : ∃ d : Dat, l = d.cs := by
 obtain ⟨n', hn, hl, hf⟩ := zfO Try.underlying67 h
 rw [zxg] at hl
 match l, hl with
 | [a, b, c], _ =>
  simp [ce9, ce3, zxf] at hf
  obtain ⟨h1, h2, h3⟩ := hf
  obtain ⟨s, hs, _⟩ := zm7 Try.underlying9 h1
  obtain ⟨m, hm, _⟩ := zes Try.underlying3 h2
  obtain ⟨es, n2, hn2, hes, _, hel⟩ := zdA Try.underlying65 h3
  obtain ⟨ks, hks⟩ := zdt (cs := Con.cs) (fun c hc => zxp n2 c (hel c hc))
  simp at hs hm hes
  exact ⟨⟨s, m, ks⟩, by simp [Dat.cs, hs, hm, hes, hks]⟩
theorem zxn (n : Nat) (l : List AV) (h : zbs Try.prog n 46 l) : ∃ d : Cod, l = d.cs := by
 obtain ⟨n', hn, hl, hf⟩ := zfO Try.underlying46 h
 rw [zxe] at hl
 match l, hl with
 | [a, b, c, d, e, f, g], _ =>
  simp [ce9, ce3, zqv, zlv] at hf
  obtain ⟨h1, h2, h3, h4, h5⟩ := hf
  obtain ⟨s, hs, _⟩ := zm7 Try.underlying9 h1
  obtain ⟨p, hp⟩ := zgl _ _ h2
  obtain ⟨q, hq⟩ := zgl _ _ h3
  obtain ⟨t, ht⟩ := zir _ _ h4
  obtain ⟨m, hm, _⟩ := zes Try.underlying3 h5
  simp at hs hm
  exact ⟨⟨s, p, q, t, m⟩, by simp [Cod.cs, hs, hp, hq, hm, ← ht]⟩
theorem zxi (n : Nat) (l : List AV) (h : zbs Try.prog n 43 l) : ∃ d : CEx, l = d.cs := by
 obtain ⟨n', hn, hl, hf⟩ := zfO Try.underlying43 h
 rw [zxd] at hl
 match l, hl with
 | [a, b, c, d, e, f, g, i], _ =>
  simp [ce2, ce3, zqv, zxc, zlv] at hf
  obtain ⟨h1, h2, h3, h4, h5, h6⟩ := hf
  obtain ⟨o, ho, _⟩ := zes Try.underlying3 h1
  obtain ⟨m, hm, _⟩ := zes Try.underlying2 h2
  obtain ⟨p, hp⟩ := zgl _ _ h3
  obtain ⟨q, hq⟩ := zyU _ _ h4
  obtain ⟨r, hr⟩ := zgl _ _ h5
  obtain ⟨t, ht⟩ := zir _ _ h6
  simp at ho hm
  exact ⟨⟨o, m, p, q, r, t⟩, by simp [CEx.cs, ho, hm, hp, hq, hr, ← ht]⟩
theorem zxr (n : Nat) (l : List AV) (h : zbs Try.prog n 27 l) : ∃ c : Cor, l = c.cs ∧ c.data.length ≤ 9223372036854775807 ∧ c.vars.length ≤ 9223372036854775807 := by
 obtain ⟨n', hn, hl, hf⟩ := zfO Try.underlying27 h
 rw [zxb] at hl
 match l, hl with
 | [a, b, c, d], _ =>
  simp [zw8, zw9, zlu, zxa] at hf
  obtain ⟨h1, h2, h3, h4⟩ := hf
  obtain ⟨es1, n1, _, hes1, hm1, hel1⟩ := zdA Try.underlying22 h1
  obtain ⟨es2, n2, _, hes2, _, hel2⟩ := zdA Try.underlying23 h2
  obtain ⟨es3, n3, _, hes3, hm3, hel3⟩ := zdA Try.underlying24 h3
  obtain ⟨es4, n4, _, hes4, _, hel4⟩ := zdA Try.underlying25 h4
  obtain ⟨k1, hk1⟩ := zdt (cs := Dat.cs) (fun c hc => zxs n1 c (hel1 c hc))
  obtain ⟨k2, hk2⟩ := zdt (cs := Cod.cs) (fun c hc => zxn n2 c (hel2 c hc))
  obtain ⟨k3, hk3⟩ := zdt (cs := VT.cs) (fun c hc => zir n3 c (hel3 c hc))
  obtain ⟨k4, hk4⟩ := zdt (cs := CEx.cs) (fun c hc => zxi n4 c (hel4 c hc))
  simp at hes1 hes2 hes3 hes4
  refine ⟨⟨k1, k2, k3, k4⟩, by simp [Cor.cs, VT.css_map, hes1, hes2, hes3, hes4, hk1, hk2, hk3, hk4], ?_, ?_⟩
  ·rw [hk1] at hm1; simpa [maxLen] using hm1
  ·rw [hk3] at hm3; simpa [maxLen] using hm3
end Go.Proofs.Ytkdmpbhbmmhijaa
