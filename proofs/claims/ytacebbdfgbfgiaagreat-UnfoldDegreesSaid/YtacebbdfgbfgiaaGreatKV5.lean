import Derived.Test.YtacebbdfgbfgiaaGreatKI3
import Derived.Test.YtacebbdfgbfgiaaGreatAbsQ1
import Derived.Lib.AppendStr
import Derived.Lib.UnsafeStr
import Derived.Test.YtacebbdfgbfgiaaGreatVO
import Derived.Sort.Grow
import Derived.Deep.Draws
import Derived.Test.YtacebbdfgbfgiaaGreatKUA
set_option linter.unusedSimpArgs false
set_option linter.unusedVariables false
namespace Go.Proofs.YtacebbdfgbfgiaaGreat
open Go Go.Abs
set_option maxRecDepth 8000
def pos (v : Bool) (bs : List Bool) (i : Nat) : List Nat := (List.range i).filter fun j => bs.getD j false == v
def zaz (l : List Nat) : List (List AV) := l.map fun (n : Nat) => [AV.int .i64 (Int.ofNat n)]
theorem zfw (v : Bool) (bs : List Bool) (i : Nat) (h : i < bs.length) : pos v bs (i + 1) = pos v bs i ++ (if bs[i] == v then [i] else []) := by
 unfold pos
 rw [List.range_succ, List.filter_append]
 congr 1
 simp [List.filter_cons, List.getD_eq_getElem?_getD, h]
theorem zdq (v : Bool) (bs : List Bool) (i : Nat) : (pos v bs i).length ≤ i := by
 have := List.length_filter_le (fun j => bs.getD j false == v) (List.range i)
 simpa [pos] using this
theorem zeu {v : Bool} {bs : List Bool} {i j : Nat} (h : j ∈ pos v bs i) : j < i := by
 simp [pos] at h
 exact h.1
theorem zgN {l : List VT} {bs : List Bool} (h : l.length = bs.length) (d : VT) : ∀ i, i ≤ l.length → pick (l.take i) (bs.take i) = (pos false bs i).map fun j => l.getD j d
 | 0, _ => by simp [pick, pos]
 | i + 1, hi => by
  rw [zoY h (by omega), zfw false bs i (by omega), List.map_append, zgN h d i (by omega)]
  congr 1
  cases hb : bs[i]'(by omega) <;> simp [List.getD_eq_getElem?_getD, show i < l.length by omega]
theorem zce (l : List Nat) : (zaz l).length = l.length := by simp [zaz]
theorem zki {l : List Nat} {i : Nat} (h : i < (zaz l).length) : (zaz l)[i] = [.int .i64 ((l[i]'(by simpa [zaz] using h) : Nat) : Int)] := by simp [zaz]
theorem zgI (l m : List Nat) : zaz (l ++ m) = zaz l ++ zaz m := by simp [zaz]
theorem zBK (data : List Dat) (hk : zbf data) (k n : Int) (ks : List VT) (ht : (VT.mk k n ks).nodes ≤ 1000) (c : Int) {l : List VT} {bs : List Bool} (hf : zaM data (.mk k n ks) c = some l)
  (hlb : l.length = bs.length) (hl8 : l.length ≤ 8) (hrec : ∀ H K, K (.sl (za6 bs) .none) H → ACalls tP zer [.sl (data.map Dat.cs) .none, .int .i64 n, .int .i64 c] H K) (H : zaa) (K : Kt)
  (hK : K (.tup [.sl (zaz (pos false bs bs.length)) .none, .sl (zaz (pos true bs bs.length)) .none, .bool true]) H) :
  ACalls tP zj7 [.sl (data.map Dat.cs) .none, .agg (VT.mk k n ks).cs, .int .i64 c] H K := by
 refine ACalls.out (zBI fun hs => ?_)
 obtain ⟨f1, f2, f3⟩ := zdl hk
 simp [zrX, VT.cs, Nat.add_assoc]
 refine zhu data f1 f2 f3 (.mk k n ks) ht c _ _ ?_
 rw [hf]
 simp [zbE]
 refine hrec _ _ ?_
 simp [zdb]
 unfold ziH
 refine ALoop.own 11 zaT 1 rfl ?_
 refine ALoop.own 12 zaT 1 rfl ?_
 have hl1 : (H ++ [AB.cells [AV.int IntKind.i64 k, AV.int IntKind.i64 n, AV.sl (VT.css ks) Tok.none]]).length = H.length + 1 := by simp
 have hl2 : (H ++ [AB.cells [AV.int IntKind.i64 k, AV.int IntKind.i64 n, AV.sl (VT.css ks) Tok.none]] ++ [AB.perm zaT 1 0]).length = H.length + 2 := by simp
 rw [hl1, hl2]
 show ziH (.sl [] (.own (H.length + 1))) (.sl [] (.own (H.length + 2))) (.sl (za6 bs) .none) (.int .i64 bs.length) (.int .i64 0) (H ++ [.cells [.int .i64 k, .int .i64 n, .sl (VT.css ks) .none]] ++ [.perm zaT 1 0] ++ [.perm zaT 1 0]) (Out H.length K)
 have hperm : ∀ m m2, HSc (H ++ [.cells [.int .i64 k, .int .i64 n, .sl (VT.css ks) .none], .perm zaT 1 m, .perm zaT 1 m2]) := fun m m2 => hs.append (by simp [AB.sc, AV.scA, AV.scB])
 refine zBG (Inv := fun q t11 t12 t30 H' => ∃ i : Nat, i ≤ bs.length ∧ q = bs.length - i ∧ t30 = .int .i64 i ∧ t11 = .sl (zaz (pos false bs i)) (.own (H.length + 1)) ∧ t12 = .sl (zaz (pos true bs i)) (.own (H.length + 2)) ∧
  H' = H ++ [.cells [.int .i64 k, .int .i64 n, .sl (VT.css ks) .none], .perm zaT 1 (pos false bs i).length, .perm zaT 1 (pos true bs i).length]) bs.length ?_ ?_
 ·intro _; exact ⟨0, by omega, by omega, rfl, by simp [pos, zaz], by simp [pos, zaz], by simp [pos]⟩
 ·rintro q t11 t12 t30 H' ⟨i, hi, rfl, rfl, rfl, rfl, rfl⟩ hsc' hlen hsF Kb hKb
  by_cases hlt : i < bs.length
  ·have hp1 := zfw false bs i hlt
   have hp2 := zfw true bs i hlt
   have hn1 := zdq false bs i
   have hn2 := zdq true bs i
   have hnext : ziG (.sl (zaz (pos false bs (i + 1))) (.own (H.length + 1))) (.sl (zaz (pos true bs (i + 1))) (.own (H.length + 2))) (.sl (za6 bs) .none) (.int .i64 bs.length) (.int .i64 i)
     (H ++ [.cells [.int .i64 k, .int .i64 n, .sl (VT.css ks) .none], .perm zaT 1 (pos false bs (i + 1)).length, .perm zaT 1 (pos true bs (i + 1)).length]) (Out H.length K) Kb := by
    simp [ziG, zrY]
    rw [zal (by omega) (by omega)]
    refine hKb _ _ ⟨bs.length - (i + 1), by omega, Back.at (J := []) (H2 := H ++ [.cells [.int .i64 k, .int .i64 n, .sl (VT.css ks) .none], .perm zaT 1 (pos false bs (i + 1)).length, .perm zaT 1 (pos true bs (i + 1)).length]) (by simp) (by simp) (hperm _ _) ?_ ⟨_, _, _, rfl, i + 1, by omega, rfl, by simp, rfl, rfl, rfl⟩⟩
    simp [ziF, AV.sc, AV.scV, AV.scA, AV.scB]
   cases hbi : bs[i] with
   | true =>
    rw [hbi] at hp1 hp2
    simp at hp1 hp2
    rw [hp1, hp2] at hnext
    simp [ziE, zdb, hlt, zeX, hbi, zax, zbv, zaA, AV.pd, zar, za0, zaI, zce]
    refine ⟨⟨by omega, by omega⟩, ?_⟩
    simpa [zgI, zaz] using hnext
   | false =>
    rw [hbi] at hp1 hp2
    simp at hp1 hp2
    rw [hp1, hp2] at hnext
    simp [ziE, zdb, hlt, zeX, hbi, zax, zbv, zaA, AV.pd, zar, za0, zaI, zce]
    refine ⟨⟨by omega, by omega⟩, ?_⟩
    simpa [zgI, zaz] using hnext
  ·obtain rfl : i = bs.length := by omega
   simp [ziE]
   refine ⟨⟨rfl, rfl, rfl⟩, ?_⟩
   exact Out.tup (bs := [.sl (zaz (pos false bs bs.length)) .none, .sl (zaz (pos true bs bs.length)) .none, .bool true]) hs hK ⟨slV, slV, zaY rfl rfl, trivial⟩
end Go.Proofs.YtacebbdfgbfgiaaGreat
namespace Go.Abs
open Go Go.RowKit
variable {P : Program} {B : Nat} {w : World} {G : Gh} {H : zaa}
theorem HRel.frz (h : HRel B w G H) {id : Nat} {cs : List AV} (hH : H[id]? = some (.cells cs)) :
  ∃ G', Ext B w G w G' ∧ HRel B w G' (H.set id .dead) ∧ ∃ b, G.μ[id]? = some (.blk b) ∧ G'.L b = cs.length ∧ ∃ (vs : Array Value) (e : TypeId), w.heap[b]? = some (.cells vs e (0, 0)) ∧ All2 (ARel w G) vs.toList cs := by
 have hlt : id < G.μ.length := by rw [h.len]; exact (List.getElem?_eq_some_iff.1 hH).1
 obtain ⟨gi, hgi⟩ : ∃ gi, G.μ[id]? = some gi := ⟨_, List.getElem?_eq_getElem hlt⟩
 have hok := h.ok id _ _ hH hgi
 cases gi with
 | gap => exact hok.elim
 | own v s n => exact hok.elim
 | blk b =>
  obtain ⟨hB, hL, vs, e, hw, hcs⟩ := hok
  have hl : vs.size = cs.length := by simpa using hcs.length
  have he : Ext B w G w ⟨fun x => if x = b then cs.length else G.L x, G.μ⟩ :=
   ⟨Nat.le_refl _, Below.refl _ _, fun x => by by_cases hx : x = b <;> simp [hx, hL], fun _ _ _ => rfl, fun _ gi h => ⟨gi, h, gi.le_refl⟩⟩
  refine ⟨_, he, ⟨by simp [h.len], ?_, h.dist, fun x hx => ?_, h.lt, h.base⟩, b, hgi, by simp, vs, e, hw, hcs⟩
  ·intro id' ab gi h1 h2
   by_cases hid : id' = id
   ·subst hid
    rw [List.getElem?_set_self (List.getElem?_eq_some_iff.1 hH).1] at h1
    cases h1
    have h2 : G.μ[id']? = some gi := h2
    rw [hgi] at h2
    cases h2
    exact ⟨vs, e, (0, 0), hw, by simp [hl]⟩
   ·rw [List.getElem?_set_ne (fun h => hid h.symm)] at h1
    refine (h.ok id' ab gi h1 h2).keep he (fun x hx => ⟨rfl, ?_⟩)
    have : ¬ x = b := fun hxb => hid (h.dist id' id gi _ b h2 hgi (by rw [hx, hxb]) rfl)
    simp [this]
  ·have := h.lt id _ b hgi rfl
   have h3 : ¬ x = b := by omega
   simp [h3, h.fresh x hx]
inductive FzA (id off len cap : Nat) (es : List (List AV)) : AV → AV → Prop
 | refl (a : AV) : FzA id off len cap es a a
 | ms : FzA id off len cap es (.ms id off len cap) (.sl es .none)
inductive FzT (id off len cap : Nat) (es : List (List AV)) : AV → AV → Prop
 | one {a b : AV} (h : FzA id off len cap es a b) : FzT id off len cap es a b
 | agg {asx bs : List AV} (h : All2 (FzA id off len cap es) asx bs) : FzT id off len cap es (.agg asx) (.agg bs)
theorem FzA.rel {id off len cap size : Nat} {cs : List AV} {es : List (List AV)} (hfit : off + len * size ≤ cs.length)
  (hp : zaA ((cs.drop off).take (len * size)) = some es.flatten) (hlen : es.length = len) (hsz : ∀ c ∈ es, c.length = size) (hcap : len ≤ cap) {G' : Gh} (hE : Ext B w G w G') {b : Nat} (hμ : G.μ[id]? = some (.blk b)) (hLb : G'.L b = cs.length)
  {vs0 : Array Value} {e : TypeId} (hw : w.heap[b]? = some (.cells vs0 e (0, 0))) (hcs : All2 (ARel w G) vs0.toList cs) {v : Value} {a b' : AV} (hab : FzA id off len cap es a b') (hr : ARel w G v a) : ARel w G' v b' := by
 cases hab with
 | refl a => exact hE.arel hr
 | ms =>
  obtain ⟨b2, hb2, rfl⟩ := hr
  rw [hμ] at hb2
  cases hb2
  show DRel w G'.L _ _
  subst hlen
  by_cases hne : es = []
  ·subst hne; exact .slE _ _
  ·have hl := hcs.length
   have hd := zcA ((hcs.drop off).take (es.length * size)) hp
   refine DRel.of_flat_at (zs := (vs0.toList.drop off).take (es.length * size)) hsz hne hcap (by rw [hLb]; exact hfit) (hd.mono fun _ _ => hE.drel) ?_
   intro j u hj
   rw [List.getElem?_take] at hj
   split at hj
   ·simp only [World.cell?, hw]
    simpa using hj
   ·cases hj
theorem zjd {R R' : Value → AV → Prop} {S : AV → AV → Prop} (h : ∀ v a b, S a b → R v a → R' v b) {vs : List Value} {asx bs : List AV} (hr : All2 R vs asx) (hs : All2 S asx bs) : All2 R' vs bs :=
 All2.of_get (hr.length.trans hs.length) fun i x y hx hy => by
  obtain ⟨a, ha, hxa⟩ := All2.get' hr hx
  obtain ⟨y', hy', hay⟩ := All2.get' hs ha
  rw [hy] at hy'
  cases hy'
  exact h _ _ _ hay hxa
theorem ACalls.frz {f : FuncId} {args args' : List AV} {K : Kt} (id off len cap size : Nat) (cs : List AV) (es : List (List AV)) (hH : H[id]? = some (.cells cs)) (hfit : off + len * size ≤ cs.length)
  (hp : zaA ((cs.drop off).take (len * size)) = some es.flatten) (hlen : es.length = len) (hsz : ∀ c ∈ es, c.length = size) (hcap : len ≤ cap) (ha : All2 (FzT id off len cap es) args args')
  (h : ACalls P f args' (H.set id .dead) K) : ACalls P f args H K := by
 intro B w G vs hR hv
 obtain ⟨G', hE, hR', b, hμ, hLb, vs0, e, hw, hcs⟩ := hR.frz hH
 have h1 : ∀ v a b, FzA id off len cap es a b → ARel w G v a → ARel w G' v b := fun v a b' hab hr => FzA.rel hfit hp hlen hsz hcap hE hμ hLb hw hcs hab hr
 have h2 : ∀ v a b, FzT id off len cap es a b → TRel w G v a → TRel w G' v b := by
  intro v a b' hab hr
  cases hab with
  | one hab =>
   cases hab with
   | refl a => exact hE.trel hr
   | ms => exact TRel.of_v (VRel.of_a (h1 _ _ _ .ms hr))
  | agg hab =>
   obtain ⟨us, hu, hr⟩ := hr
   exact ⟨us, hu, zjd h1 hr hab⟩
 refine (h B w G' vs hR' (zjd h2 hv ha)).mono fun e w' ⟨v, r, H', G'', k1, k2, k3, k4, k5⟩ => ⟨v, r, H', G'', k1, hE.trans k2, k3, k4, k5⟩
theorem AWp.frz {c : Code} {Q : AExit → List AV → zaa → Prop} {F : List AV} (id off len cap size : Nat) (cs : List AV) (es : List (List AV)) (id2 : Nat) (cs2 cs2' : List AV) (hH : H[id]? = some (.cells cs)) (hfit : off + len * size ≤ cs.length)
  (hp : zaA ((cs.drop off).take (len * size)) = some es.flatten) (hlen : es.length = len) (hsz : ∀ c ∈ es, c.length = size) (hcap : len ≤ cap) (hne : id ≠ id2) (hH2 : H[id2]? = some (.cells cs2)) (ha : All2 (FzA id off len cap es) cs2 cs2')
  (h : AWp P c Q F ((H.set id .dead).set id2 (.cells cs2'))) : AWp P c Q F H := by
 intro B w G a hR hF hd
 obtain ⟨G', hE, hR', b, hμ, hLb, vs0, e, hw, hcs⟩ := hR.frz hH
 have h1 : ∀ v a b, FzA id off len cap es a b → ARel w G v a → ARel w G' v b := fun v a b' hab hr => FzA.rel hfit hp hlen hsz hcap hE hμ hLb hw hcs hab hr
 have hlt2 : id2 < G.μ.length := by rw [hR.len]; exact (List.getElem?_eq_some_iff.1 hH2).1
 have hH2' : (H.set id .dead)[id2]? = some (.cells cs2) := by rw [List.getElem?_set_ne hne]; exact hH2
 have hR2 : HRel B w G' ((H.set id .dead).set id2 (.cells cs2')) := by
  refine ⟨by simp [hR'.len], ?_, hR'.dist, hR'.fresh, hR'.lt, hR'.base⟩
  intro i ab gi k1 k2
  by_cases hi : i = id2
  ·subst hi
   rw [List.getElem?_set_self (List.getElem?_eq_some_iff.1 hH2').1] at k1
   cases k1
   have hok := hR'.ok i _ _ hH2' k2
   have hgi : G.μ[i]? = some gi := by
    obtain ⟨gi0, hgi0⟩ : ∃ gi0, G.μ[i]? = some gi0 := ⟨_, List.getElem?_eq_getElem hlt2⟩
    have hok0 := hR.ok i _ _ hH2 hgi0
    obtain ⟨gi1, hg1, hle⟩ := hE.ids i gi0 hgi0
    rw [k2] at hg1
    cases hg1
    cases gi0 with
    | blk x => cases gi with
     | blk y => obtain rfl : x = y := hle; exact hgi0
     | own v s n => exact hle.elim
     | gap => exact hle.elim
    | own v s n => exact hok0.elim
    | gap => exact hok0.elim
   have hok0 := hR.ok i _ _ hH2 hgi
   cases gi with
   | blk x =>
    obtain ⟨k3, k4, vs, e', k5, k6⟩ := hok
    obtain ⟨_, _, vs1, e1, k7, k8⟩ := hok0
    rw [k5] at k7
    cases k7
    exact ⟨k3, k4, vs, e', k5, zjd h1 k8 ha⟩
   | own v s n => exact hok.elim
   | gap => exact hok.elim
  ·rw [List.getElem?_set_ne (fun h => hi h.symm)] at k1
   exact hR'.ok i ab gi k1 k2
 refine wp_mono (h B w G' a hR2 (hF.ext hE) hd) fun e a' w' hp => ?_
 obtain ⟨F', H', G'', e', rfl, k1, k2, k3, k4, k5⟩ := hp
 exact ⟨F', H', G'', e', rfl, hE.trans k1, k2, k3, k4, k5⟩
end Go.Abs
namespace Go.Abs
open Go Go.RowKit
variable {P : Program} {B : Nat} {w : World} {G : Gh} {H : zaa}
inductive OutW (H : zaa) (n : Nat) : AV → AV → Prop
 | one {a b : AV} (h : OutV H n a b) : OutW H n a b
 | rows (id e m : Nat) (cs : List AV) (rs : List (List (List AV))) (hid : n ≤ id) (hH : H[id]? = some (.vec e 1 m cs)) (hm : rs.length = m)
   (hall : All2 (OutV H n) cs (rs.map fun r => .sl r .none)) : OutW H n (.ov id m) (.sl (rs.map fun r => [.sl r .none]) .none)
theorem OutW.vrel (hH : HRel B w G H) {n : Nat} {v : Value} {a b : AV} (h : OutW H n a b) (hr : TRel w G v a) : VRel w (G.cut w n) v b := by
 cases h with
 | one h => exact h.vrel hH hr
 | rows id e m cs rs hid hHid hm hall =>
  obtain ⟨⟨a, cap0, rfl, _⟩, v', s0, n', hμ, _, heq⟩ := hr
  obtain ⟨rfl, rfl, ⟨xs, hown, hcs⟩, _⟩ := hH.ok id _ _ hHid hμ
  obtain rfl := heq rfl
  subst hm
  show DRel w (G.cut w n).L _ _
  by_cases hne : rs = []
  ·subst hne; exact .slE _ _
  ·have hown2 := hown
   obtain ⟨hl, hrow⟩ := hown2
   have hd : All2 (DRel w (G.cut w n).L) xs (rs.map fun r => AV.sl r .none) := All2.of_get (hcs.length.trans hall.length) fun i x y hx hy => by
    obtain ⟨a, ha, hxa⟩ := All2.get' hcs hx
    obtain ⟨y', hy', hay⟩ := All2.get' hall ha
    rw [hy] at hy'
    cases hy'
    obtain ⟨r, hr, rfl⟩ : ∃ r, rs[i]? = some r ∧ AV.sl r .none = y := by simpa using hy
    exact hay.vrel hH (TRel.of_v (VRel.of_a hxa))
   rcases hrow with ⟨h1, h2⟩ | ⟨g, cap, cur, h1, h2, h3, h4, h5, h6, h7⟩
   ·cases rs <;> simp_all
   ·simp at h1
    obtain ⟨rfl, rfl⟩ := h1
    obtain ⟨_, _, _, hcell⟩ := zcz hown
    have hfl : ∀ l : List (List (List AV)), (l.map fun r => [AV.sl r .none]).flatten = l.map fun r => AV.sl r .none := by
     intro l
     induction l with
     | nil => rfl
     | cons r l ih => simp [ih]
    have := DRel.of_flat_at (w := w) (L := (G.cut w n).L) (g := g) (off := 0) (size := 1) (cap := cap0) (es := rs.map fun r => [AV.sl r .none]) (zs := xs) (by simp) (by simpa using hne) (by simpa using h4) ?_ (by rw [hfl rs]; exact hd) ?_
    ·simpa using this
    ·have : (G.cut w n).L g = cur.size := by
      simp only [Gh.cut]
      rw [if_pos (cut_dropped.2 ⟨id, _, hid, hμ, rfl⟩), h3]
     rw [this, h6]
     simpa using h4
    ·intro j u hj
     rw [Nat.zero_add, hcell j (by rw [← hl]; exact (List.getElem?_eq_some_iff.1 hj).1)]
     exact hj
inductive OutT2 (H : zaa) (n : Nat) : AV → AV → Prop
 | one {a b : AV} (h : OutW H n a b) : OutT2 H n a b
 | tup {asx bs : List AV} (h : All2 (OutW H n) asx bs) : OutT2 H n (.tup asx) (.tup bs)
theorem zuA (hH : HRel B w G H) {n : Nat} {asx bs : List AV} (h : All2 (OutW H n) asx bs) {vs : List Value} (hr : All2 (VRel w G) vs asx) : All2 (VRel w (G.cut w n)) vs bs :=
 All2.of_get (hr.length.trans h.length) fun i x y hx hy => by
  obtain ⟨a, ha, hxa⟩ := All2.get' hr hx
  obtain ⟨y', hy', hay⟩ := All2.get' h ha
  rw [hy] at hy'
  cases hy'
  exact hay.vrel hH (TRel.of_v hxa)
def zd9 (n : Nat) (K : AV → zaa → Prop) (r : AV) (H' : zaa) : Prop := ∃ r2 H2 J, H' = H2 ++ J ∧ n ≤ H2.length ∧ HSc H2 ∧ OutT2 H' H2.length r r2 ∧ K r2 H2
theorem ACalls.out2 {f : FuncId} {args : List AV} {K : AV → zaa → Prop} (h : ACalls P f args H (zd9 H.length K)) : ACalls P f args H K := by
 intro B w G vs hH hv
 refine (h B w G vs hH hv).mono fun e w' ⟨v, r, H', G', h1, h2, h3, h4, h5⟩ => ?_
 obtain ⟨r2, H2, J, hJ, hn, hsc, ho, hk⟩ := h5
 subst hJ
 refine ⟨v, r2, H2, G'.cut w' H2.length, h1, zjp h3 h2 (by rw [hH.len]; exact hn), h3.cut hsc, ?_, hk⟩
 cases ho with
 | one ho => exact TRel.of_v (ho.vrel h3 h4)
 | tup ho =>
  obtain ⟨us, hu, hr⟩ := h4
  exact ⟨us, hu, zuA h3 ho hr⟩
theorem Out.two {n : Nat} {K : AV → zaa → Prop} {r : AV} (h : Out n K r H) : zd9 n K r H := by
 obtain ⟨r2, H2, J, hJ, hn, hsc, ho, hk⟩ := h
 refine ⟨r2, H2, J, hJ, hn, hsc, ?_, hk⟩
 cases ho with
 | one h => exact .one (.one h)
 | tup h => exact .tup (All2.of_get h.length fun i x y hx hy => by
   obtain ⟨y', hy', hay⟩ := All2.get' h hx
   rw [hy] at hy'
   cases hy'
   exact .one hay)
end Go.Abs
namespace Go.Abs
open Go Go.RowKit Go.Lib
variable {P : Program} {B : Nat} {w : World}
end Go.Abs
namespace Go.Abs
open Go Go.RowKit Go.Lib
variable {P : Program} {B : Nat} {w : World} {G : Gh} {H : zaa}
theorem HRel.dead (h : HRel B w G H) {id e s n : Nat} (hH : H[id]? = some (.perm e s n)) : HRel B w G (H.set id .dead) := by
 refine ⟨by simp [h.len], ?_, h.dist, h.fresh, h.lt, h.base⟩
 intro i ab gi h1 h2
 by_cases hi : i = id
 ·subst hi
  rw [List.getElem?_set_self (List.getElem?_eq_some_iff.1 hH).1] at h1
  cases h1
  have hok := h.ok i _ _ hH h2
  cases gi with
  | blk b => exact hok.elim
  | gap => exact hok.elim
  | own v s' n' =>
   obtain ⟨rfl, rfl, ⟨xs, hl, ⟨rfl, _⟩ | ⟨g, cap, cur, rfl, k1, k2, k3, k4, k5, k6⟩⟩, hL⟩ := hok
   ·intro b hb
    cases hb
   ·intro b hb
    simp [Value.ownBlock] at hb
    subst hb
    exact ⟨cur, e, _, k2, by rw [hL g rfl, k5]; exact Nat.mul_le_mul_right _ k3⟩
 ·rw [List.getElem?_set_ne (fun h => hi h.symm)] at h1
  exact h.ok i ab gi h1 h2
theorem HRel.other (h : HRel B w G H) (o : Obj) : Ext B w G (w.alloc o) G ∧ HRel B (w.alloc o) G H := by
 have he := Ext.alloc h o G.L (fun _ _ => rfl) []
 simp only [List.append_nil] at he
 refine ⟨he, h.keep he rfl (fun id gi b h1 h2 => ⟨zef (h.lt id gi b h1 h2), rfl⟩) (fun b hb => ?_)⟩
 rw [zcn] at hb
 exact h.fresh b (by omega)
end Go.Abs
namespace Go.Abs
open Go Go.RowKit Go.Sort
variable {P : Program} {B : Nat} {w : World} {G : Gh} {H : zaa}
end Go.Abs
namespace Go.Abs
open Go Go.RowKit
variable {P : Program} {B : Nat} {w : World} {G : Gh} {H : zaa}
theorem HRel.newVec (h : HRel B w G H) (e size : Nat) : Ext B w G w ⟨G.L, G.μ ++ [.own (.slice none 0 0) size 0]⟩ ∧ HRel B w ⟨G.L, G.μ ++ [.own (.slice none 0 0) size 0]⟩ (H ++ [.vec e size 0 []]) := by
 obtain ⟨hE, hH⟩ := h.newOwn e size
 refine ⟨hE, by simpa using hH.len, fun id ab gi h1 h2 => ?_, hH.dist, hH.fresh, hH.lt, hH.base⟩
 by_cases hlt : id < H.length
 ·rw [List.getElem?_append_left hlt] at h1
  exact hH.ok id ab gi (by rw [List.getElem?_append_left hlt]; exact h1) h2
 ·have hlt2 := (List.getElem?_eq_some_iff.1 h2).1
  simp [h.len] at hlt2
  obtain rfl : id = H.length := by omega
  simp at h1
  have h2 : (G.μ ++ [GI.own (.slice none 0 0) size 0])[H.length]? = some gi := h2
  rw [← h.len] at h2
  simp at h2
  subst h1 h2
  exact ⟨rfl, rfl, ⟨[], World.ownsRow_nil w B e size, trivial⟩, fun b hb => by simp [Value.ownBlock] at hb⟩
end Go.Abs
namespace Go.Abs
open Go Go.RowKit
variable {P : Program} {B : Nat} {w : World} {G : Gh} {H : zaa}
theorem zoQ (h : HRel B w G H) (e size : Nat) : TRel w ⟨G.L, G.μ ++ [.own (.slice none 0 0) size 0]⟩ (.slice none 0 0) (.ov H.length 0) := by
 refine ⟨⟨none, 0, rfl, fun h => absurd h (by omega)⟩, .slice none 0 0, size, 0, ?_, Nat.le_refl _, fun _ => rfl⟩
 rw [← h.len]
 simp
theorem ALoop.vec {c : Code} {Q : AExit → List AV → zaa → Prop} {F : List AV} (i e size : Nat) (hi : F[i]? = some .snil)
  (h : ALoop P c Q (F.set i (.ov H.length 0)) (H ++ [.vec e size 0 []])) : ALoop P c Q F H := by
 intro B w G a hH hF hd
 obtain ⟨hE, hH'⟩ := hH.newVec e size
 have hF' : FRel w ⟨G.L, G.μ ++ [.own (.slice none 0 0) size 0]⟩ a.tmps (F.set i (.ov H.length 0)) := by
  unfold FRel
  obtain ⟨v, h1, h2⟩ := All2.get hF hi
  have h2 : v = .slice none 0 0 := h2
  subst h2
  have hset : a.tmps.toList = a.tmps.toList.set i (.slice none 0 0) := by
   apply List.ext_getElem?
   intro k
   by_cases hk : k = i
   ·subst hk; rw [List.getElem?_set_self (List.getElem?_eq_some_iff.1 h1).1]; exact h1
   ·rw [List.getElem?_set_ne (fun h => hk h.symm)]
  rw [hset]
  exact All2.set i (hF.ext hE) (zoQ hH e size)
 refine wp_mono (h B w _ a hH' hF' hd) fun e a' w' hp => ?_
 obtain ⟨F'', H'', G'', e'', rfl, k1, k2, k3, k4, k5⟩ := hp
 exact ⟨F'', H'', G'', e'', rfl, hE.trans k1, k2, k3, k4, k5⟩
theorem ACalls.vecRes {f : FuncId} {args : List AV} {K : Kt} (e size : Nat) (h : ACalls P f args H fun r H' => (r = .snil ∧ K (.ov H'.length 0) (H' ++ [.vec e size 0 []])) ∨ K r H') : ACalls P f args H K := by
 intro B w G vs hH hv
 refine (h B w G vs hH hv).mono fun ex w' ⟨v, r, H', G', h1, h2, h3, h4, h5⟩ => ?_
 rcases h5 with ⟨rfl, hk⟩ | hk
 ·have h4 : v = .slice none 0 0 := h4
  subst h4
  obtain ⟨hE, hH'⟩ := h3.newVec e size
  exact ⟨_, _, _, _, h1, h2.trans hE, hH', zoQ h3 e size, hk⟩
 ·exact ⟨v, r, H', G', h1, h2, h3, h4, hk⟩
theorem ACalls.withSc {f : FuncId} {args : List AV} {K : Kt} (h : ACalls P f args H fun r H' => HSc H' → K r H') : ACalls P f args H K := by
 intro B w G vs hH hv
 exact (h B w G vs hH hv).mono fun ex w' ⟨v, r, H', G', h1, h2, h3, h4, h5⟩ => ⟨v, r, H', G', h1, h2, h3, h4, h5 h3.sc⟩
theorem zp5 {vs : List Value} : ∀ {cs cs' : List AV}, All2 WkA cs cs' → ∀ {vs : List Value}, All2 (ARel w G) vs cs → All2 (ARel w G) vs cs'
 | [], [], _, _, hv => hv
 | x :: cs, x' :: cs', hw, [], hv => hv.elim
 | x :: cs, x' :: cs', hw, v :: vs, hv => ⟨hw.1.arel hv.1, zp5 (vs := []) hw.2 hv.2⟩
 | [], _ :: _, hw, _, _ => hw.elim
 | _ :: _, [], hw, _, _ => hw.elim
theorem ALoop.reCell {c : Code} {Q : AExit → List AV → zaa → Prop} {F : List AV} {id : Nat} {cs : List AV} (cs' : List AV) (hid : H[id]? = some (.cells cs)) (hw : All2 WkA cs cs') (h : ALoop P c Q F (H.set id (.cells cs'))) : ALoop P c Q F H := by
 intro B w G a hH hF hd
 exact h B w G a (hH.reCell hid fun vs hv => zp5 (vs := []) hw hv) hF hd
theorem HRel.frzV (h : HRel B w G H) {id e size n : Nat} {cs : List AV} (hH : H[id]? = some (.vec e size n cs)) {es : List (List AV)} (hp : zaA cs = some es.flatten) (hlen : es.length = n) (hsz : ∀ c ∈ es, c.length = size) :
  ∃ G', Ext B w G w G' ∧ HRel B w G' (H.set id .dead) ∧ ∀ v, ARel w G v (.ov id n) → DRel w G'.L v (.sl es .none) := by
 have hlt : id < G.μ.length := by rw [h.len]; exact (List.getElem?_eq_some_iff.1 hH).1
 obtain ⟨gi, hgi⟩ : ∃ gi, G.μ[id]? = some gi := ⟨_, List.getElem?_eq_getElem hlt⟩
 have hok := h.ok id _ _ hH hgi
 cases gi with
 | gap => exact hok.elim
 | blk b => exact hok.elim
 | own v0 s0 n0 =>
  obtain ⟨rfl, rfl, ⟨xs, hown, hcs⟩, hL0⟩ := hok
  have hown2 := hown
  obtain ⟨hl, hrow⟩ := hown2
  rcases hrow with ⟨h1, h2⟩ | ⟨g, cap, cur, h1, hB, hw, hcap, hcm, hcz, htk⟩
  ·subst h1
   refine ⟨G, Ext.refl _ _ _, ⟨by simp [h.len], ?_, h.dist, h.fresh, h.lt, h.base⟩, ?_⟩
   ·intro id' ab gi k1 k2
    by_cases hid : id' = id
    ·subst hid
     rw [List.getElem?_set_self (List.getElem?_eq_some_iff.1 hH).1] at k1
     cases k1
     rw [hgi] at k2
     cases k2
     exact fun b hb => by simp [Value.ownBlock] at hb
    ·rw [List.getElem?_set_ne (fun h => hid h.symm)] at k1
     exact h.ok id' ab gi k1 k2
   ·intro v hv
    obtain ⟨⟨a, cap0, rfl, _⟩, v', s', n', hμ, _, heq⟩ := hv
    have hes : es = [] := List.eq_nil_of_length_eq_zero (by omega)
    subst hes
    subst hlen
    exact .slE _ _
  ·subst h1
   have hLg : G.L g = 0 := hL0 g rfl
   have he : Ext B w G w ⟨fun x => if x = g then cur.size else G.L x, G.μ⟩ :=
    ⟨Nat.le_refl _, Below.refl _ _, fun x => by by_cases hx : x = g <;> simp [hx, hLg], fun _ _ _ => rfl, fun _ gi h => ⟨gi, h, gi.le_refl⟩⟩
   refine ⟨_, he, ⟨by simp [h.len], ?_, h.dist, fun x hx => ?_, h.lt, h.base⟩, ?_⟩
   ·intro id' ab gi k1 k2
    by_cases hid : id' = id
    ·subst hid
     rw [List.getElem?_set_self (List.getElem?_eq_some_iff.1 hH).1] at k1
     cases k1
     have k2 : G.μ[id']? = some gi := k2
     rw [hgi] at k2
     cases k2
     intro b hb
     simp [Value.ownBlock] at hb
     subst hb
     exact ⟨cur, e, _, hw, by simp⟩
    ·rw [List.getElem?_set_ne (fun h => hid h.symm)] at k1
     refine (h.ok id' ab gi k1 k2).keep he (fun x hx => ⟨rfl, ?_⟩)
     have : ¬ x = g := fun hxb => hid (h.dist id' id gi _ g k2 hgi (by rw [hx, hxb]) rfl)
     simp [this]
   ·have := h.lt id _ g hgi rfl
    have h3 : ¬ x = g := by omega
    simp [h3, h.fresh x hx]
   ·intro v hv
    obtain ⟨⟨a, cap0, rfl, _⟩, v', s', n', hμ, _, heq⟩ := hv
    rw [hgi] at hμ
    simp only [Option.some.injEq, GI.own.injEq] at hμ
    obtain ⟨rfl, rfl, rfl⟩ := hμ
    have hvv := heq rfl
    simp only [Value.slice.injEq, true_and] at hvv
    obtain ⟨rfl, rfl⟩ := hvv
    subst hlen
    by_cases hes : es = []
    ·subst hes; exact .slE _ _
    ·obtain ⟨_, _, _, hcell⟩ := zcz hown
     refine DRel.of_flat_at (zs := xs) hsz hes hcap ?_ ((zcA hcs hp).mono fun _ _ => he.drel) ?_
     ·simp only [if_true]
      rw [hcz, Nat.zero_add]
      exact Nat.mul_le_mul_right _ hcap
     ·intro j u hj
      rw [Nat.zero_add, hcell j (by rw [← hl]; exact (List.getElem?_eq_some_iff.1 hj).1)]
      exact hj
theorem ACalls.frzV {f : FuncId} {x : AV} {K : Kt} (id e size n : Nat) (cs : List AV) (es : List (List AV)) (hH : H[id]? = some (.vec e size n cs)) (hp : zaA cs = some es.flatten) (hlen : es.length = n) (hsz : ∀ c ∈ es, c.length = size)
  (h : ACalls P f [.agg [x, .sl es .none]] (H.set id .dead) K) : ACalls P f [.agg [x, .ov id n]] H K := by
 intro B w G vs hR hv
 obtain ⟨G', hE, hR', hd⟩ := hR.frzV hH hp hlen hsz
 refine (h B w G' vs hR' ?_).mono fun e w' ⟨v, r, H', G'', k1, k2, k3, k4, k5⟩ => ⟨v, r, H', G'', k1, hE.trans k2, k3, k4, k5⟩
 generalize vs.toList = l at *
 match l, hv with
 | [v], ⟨⟨us, hu, h1⟩, _⟩ =>
  refine ⟨⟨us, hu, ?_⟩, trivial⟩
  generalize us.toList = m at *
  match m, h1 with
  | [a, b], ⟨h2, h3, _⟩ => exact ⟨hE.arel h2, hd b h3, trivial⟩
end Go.Abs
namespace Go.Proofs.YtacebbdfgbfgiaaGreat
open Go Go.Abs
set_option maxRecDepth 8000
def zaF (r : List IT) : List AV := (IT.css r).flatten
theorem zcY (x : IT) (r : List IT) : zaF (x :: r) = x.cs ++ zaF r := by simp [zaF, IT.css_map]
theorem zcK : ∀ r : List IT, (zaF r).length = r.length * 2
 | [] => rfl
 | x :: r => by rw [zcY, List.length_append, IT.cs_len, zcK r, List.length_cons]; omega
theorem zkw (r : List IT) : (zaF r).all AV.known = true := by
 induction r with
 | nil => rfl
 | cons x r ih => rw [zcY, List.all_append, ih]; simp
theorem zpf (n : Nat) (r : List IT) : (zaF r).all (AV.scA n) = true := by
 induction r with
 | nil => rfl
 | cons x r ih => rw [zcY, List.all_append, ih]; simp
theorem zfy : ∀ (r : List IT) (p : Nat) (x : IT), p < r.length → (zaF r).take (p * 2) ++ x.cs ++ (zaF r).drop (p * 2 + 2) = zaF (r.set p x)
 | [], p, x, h => by simp at h
 | y :: r, 0, x, h => by
  rw [zcY, List.set_cons_zero, zcY]
  obtain ⟨a, b, hy, _, _⟩ := zdk y
  simp [hy]
 | y :: r, p + 1, x, h => by
  have ih := zfy r p x (by simpa using h)
  rw [zcY, List.set_cons_succ, zcY, ← ih]
  obtain ⟨a, b, hy, _, _⟩ := zdk y
  rw [show (p + 1) * 2 = p * 2 + 2 by omega, hy]
  simp
def CellR (H : zaa) (lo id : Nat) (c : AV) (r : List IT) : Prop :=
 (r = [] ∧ c = .sl [] .none) ∨ (r ≠ [] ∧ ∃ b, c = .ov b r.length ∧ lo ≤ b ∧ b ≠ id ∧ H[b]? = some (.vec zbn 2 r.length (zaF r)))
def RowsH (H : zaa) (lo id : Nat) (rows : List (List IT)) : Prop :=
 lo ≤ id ∧ ∃ cs, H[id]? = some (.vec zbh 1 rows.length cs) ∧ All2 (CellR H lo id) cs rows
theorem CellR.keep {H H' : zaa} {lo id lo' id' : Nat} {c : AV} {r : List IT} (h : CellR H lo id c r) (hlo : lo' ≤ lo) (hid : ∀ b, lo ≤ b → b ≠ id → b < H.length → b ≠ id' ∧ H'[b]? = H[b]?) : CellR H' lo' id' c r := by
 rcases h with h | ⟨h0, b, rfl, h1, h2, h3⟩
 ·exact .inl h
 ·have := hid b h1 h2 (List.getElem?_eq_some_iff.1 h3).1
  exact .inr ⟨h0, b, rfl, by omega, this.1, by rw [this.2]; exact h3⟩
theorem CellR.sc {H : zaa} {lo id : Nat} {c : AV} {r : List IT} (h : CellR H lo id c r) : c.scA H.length = true ∧ c.known = true := by
 rcases h with ⟨_, rfl⟩ | ⟨h0, b, rfl, h1, h2, h3⟩
 ·exact ⟨rfl, rfl⟩
 ·have := (List.getElem?_eq_some_iff.1 h3).1
  exact ⟨by simpa [AV.scA, AV.scB] using this, rfl⟩
theorem ze0 {H : zaa} {lo id : Nat} : ∀ {cs : List AV} {rows : List (List IT)}, All2 (CellR H lo id) cs rows → cs.all (AV.scA H.length) = true ∧ cs.all AV.known = true
 | [], [], _ => ⟨rfl, rfl⟩
 | c :: cs, r :: rows, h => by
  obtain ⟨h1, h2⟩ := ze0 h.2
  obtain ⟨h3, h4⟩ := h.1.sc
  simp only [List.all_cons, h1, h2, h3, h4, Bool.and_self, and_self]
theorem zjo (ps : List Nat) (row l : List IT) : (zaV row ps l).length ≤ (l.length + 1) ^ ps.length := by
 rw [zdK, List.length_map]
 exact zpn _ _
theorem ztL (row l : List IT) (p : Nat) (ps : List Nat) : zaV row (p :: ps) l = (List.range (l.length + 1)).flatMap fun n => zaV (row.set p (.mk 0 (l.take n))) ps (l.drop n) := rfl
def upR (row l : List IT) (p : Nat) (ps : List Nat) (i : Nat) : List (List IT) := (List.range i).flatMap fun n => zaV (row.set p (.mk 0 (l.take n))) ps (l.drop n)
theorem zg4 (row l : List IT) (p : Nat) (ps : List Nat) (i : Nat) : upR row l p ps (i + 1) = upR row l p ps i ++ zaV (row.set p (.mk 0 (l.take i))) ps (l.drop i) := by
 simp [upR, List.range_succ]
theorem zv0 (row l : List IT) (p : Nat) (ps : List Nat) (i : Nat) : (upR row l p ps i).length ≤ i * (l.length + 1) ^ ps.length := by
 refine Nat.le_trans (zjy (N := (l.length + 1) ^ ps.length) _ _ fun n _ => ?_) (by simp)
 exact Nat.le_trans (zjo _ _ _) (Nat.pow_le_pow_left (by simp) _)
theorem zgP {H X : zaa} {i : Nat} {b : AB} (h : H <+: X) (hi : H.length ≤ i) : H <+: X.set i b := by
 obtain ⟨J, rfl⟩ := h
 rw [List.set_append_right _ _ hi]
 exact ⟨_, rfl⟩
theorem zfx {H X : zaa} {i : Nat} (h : H <+: X) (hi : i < H.length) : X[i]? = H[i]? := by
 obtain ⟨J, rfl⟩ := h
 exact List.getElem?_append_left hi
theorem RowA.pre {H X : zaa} {a : AV} {n : Nat} {ds : List AV} (h : RowA H a n ds) (hp : H <+: X) : RowA X a n ds := by
 obtain ⟨J, rfl⟩ := hp
 exact h.app
theorem znk {e s b id id2 n m e2 : Nat} {cs cs2 : List AV} {H : zaa} {K : Kt} (h1 : H[id]? = some (.vec e s n cs)) (h2 : H[id2]? = some (.vec e2 s m cs2)) (hk : cs2.all AV.known = true) (hl : cs2.length = m * s) (hb1 : (n + m) * b ≤ 140737488355328) (hb2 : n + m ≤ 9223372036854775807)
  (h : K (.ov id (n + m)) (H.set id (.vec e s (n + m) (cs ++ cs2)))) : zar e s b (.ov id n) (.ov id2 m) H K := by
 simp only [zar, zbO, h1, h2, and_self, true_and]
 exact ⟨⟨hk, hl, hb1, hb2⟩, h⟩
theorem zlH : ∀ (ps : List Nat) (H : zaa) (a : AV) (row els : List IT) (K : Kt), RowA H a row.length (zaF row) → (∀ p ∈ ps, p < row.length) → row.length ≤ 1000 → els.length ≤ 1000 → ps.length ≤ 1000 → (els.length + 1) ^ ps.length ≤ 100000000 →
  (∀ id H', H <+: H' → HSc H' → RowsH H' H.length id (zaV row ps els) → K (.ov id (zaV row ps els).length) H') →
  ACalls tP zdR [a, .sl (zaz ps) .none, .sl (IT.css els) .none] H K
 | [], H, a, row, els, K, hr, hps, hrl, hel, hpl, hb, hK => by
  refine ACalls.vecRes zbh 1 (ACalls.withSc ?_)
  refine zrc fun hs => ?_
  cases els with
  | cons x els =>
   simp [zhP, zaz]
   intro _
   left
   have := hK H.length (H ++ [.vec zbh 1 0 []]) ⟨_, rfl⟩ (hs.append (by simp [AB.sc])) ⟨Nat.le_refl _, [], by simp [zaV], by simp [zaV]; trivial⟩
   simpa [zaV] using this
  | nil =>
   simp [zhP, zaz, IT.css]
   refine zpw hr (by omega) _ (fun h0 => ?_) (fun h0 => ?_)
   ·have hrow : row = [] := by cases row <;> simp_all
    subst hrow
    simp [zea, AV.oneK]
    intro hsc
    have := hK H.length (H ++ [.vec zbh 1 1 [.sl [] .none]]) ⟨_, rfl⟩ hsc ⟨Nat.le_refl _, [.sl [] .none], by simp [zaV], ⟨.inl ⟨rfl, rfl⟩, trivial⟩⟩
    simpa [zaV] using this
   ·simp [zea, AV.oneK]
    intro hsc
    have hne : row ≠ [] := by rintro rfl; simp at h0
    have := hK (H.length + 1) (H ++ [.vec zbn 2 row.length (zaF row), .vec zbh 1 1 [.ov H.length row.length]]) ⟨_, rfl⟩ (by simpa using hsc) ⟨by omega, [.ov H.length row.length], by simp [zaV],
     ⟨.inr ⟨hne, H.length, rfl, Nat.le_refl _, by omega, by simp⟩, trivial⟩⟩
    simpa [zaV] using this
 | p :: ps, H, a, row, els, K, hr, hps, hrl, hel, hpl, hb, hK => by
  refine zrc fun hs => ?_
  have hp := hps p (by simp)
  have hpow : (els.length + 1) ^ (ps.length + 1) = (els.length + 1) ^ ps.length * (els.length + 1) := Nat.pow_succ _ _
  have hb1 : (els.length + 1) ^ ps.length * (els.length + 1) ≤ 100000000 := by rw [← hpow]; simpa using hb
  have hb2 : (els.length + 1) ^ ps.length ≤ 100000000 := Nat.le_trans (Nat.le_mul_of_pos_right _ (by omega)) hb1
  have hnl : ((ps.length + 1 : Nat) : Int) ≠ 0 := by omega
  have hn0 : ((zaz (p :: ps)).length == 0) = false := by simp [zaz]
  simp [zhP, zce]
  rw [zal (by omega) (by omega)]
  unfold zhS
  refine ALoop.vec 7 zbh 1 rfl ?_
  show zhS a (.sl (zaz (p :: ps)) .none) (.sl (IT.css els) .none) (.ov H.length 0) (.int .i64 ((els.length : Int) + 1)) (.int .i64 0) (H ++ [.vec zbh 1 0 []]) K
  refine zy7 (Inv := fun q t7 t22 H' => ∃ i : Nat, i ≤ els.length + 1 ∧ q = els.length + 1 - i ∧ t22 = .int .i64 i ∧ t7 = .ov H.length (upR row els p ps i).length ∧ H <+: H' ∧ RowsH H' H.length H.length (upR row els p ps i)) (els.length + 1) ?_ ?_
  ·intro _; exact ⟨0, by omega, by omega, rfl, by simp [upR], ⟨_, rfl⟩, Nat.le_refl _, [], by simp [upR], by simp [upR]; trivial⟩
  ·rintro q t7 t22 H' ⟨i, hi, rfl, rfl, rfl, hpre, hlo, cs, hcs, hcells⟩ hsc hlen hsF Kb hKb
   by_cases hlt : i < els.length + 1
   ·have hHl : H.length < H'.length := (List.getElem?_eq_some_iff.1 hcs).1
    have hlt' : ((i : Int) < (els.length : Int) + 1) := by omega
    simp [zlD, hlt']
    refine zpw (hr.pre hpre) (by omega) _ (fun h0 => by omega) (fun h0 => ?_)
    have hn0 : 0 < row.length := by omega
    have hti : (i : Int) ≤ els.length := by omega
    simp [zaz, zau, zaX]
    refine ⟨⟨by omega, by simp [IT.css_map]⟩, hp, by rw [zcK]; omega, ?_⟩
    have htk : List.take i (IT.css els) = IT.css (els.take i) := by rw [IT.css_map, IT.css_map, List.map_take]
    have hset := zfy row p (.mk 0 (els.take i)) hp
    rw [htk]
    simp only [IT.cs, List.append_assoc, List.cons_append, List.nil_append] at hset
    rw [hset]
    have hda : IT.css (els.drop i) = List.drop i (IT.css els) := by rw [IT.css_map, IT.css_map, List.map_drop]
    have hcall : ACalls tP zdR [.ov H'.length row.length, .sl (zaz ps) .none, .sl (IT.css (els.drop i)) .none] (H' ++ [.vec zbn 2 row.length (zaF (row.set p (.mk 0 (els.take i))))]) (fun t43 H2 => zar zbh 1 24 (.ov H.length (upR row els p ps i).length) t43 H2 fun t44 H3 => t44 = .ov H.length (upR row els p ps (i + 1)).length ∧ H <+: H3 ∧ HSc H3 ∧ RowsH H3 H.length H.length (upR row els p ps (i + 1))) := by
     refine zlH ps _ _ (row.set p (.mk 0 (els.take i))) (els.drop i) _ ⟨by rw [zcK], zkw _, .inr ⟨by simpa using hn0, H'.length, zbn, by simp, by simp⟩⟩ (fun q hq => by simpa using hps q (by simp [hq])) (by simpa using hrl) (by simp; omega) (by simp at hpl; omega)
      (Nat.le_trans (Nat.pow_le_pow_left (by simp) _) hb2) ?_
     rintro id H2 hp2 hsc2 ⟨hlo2, cs2, hcs2, hcells2⟩
     have hH1 : H' <+: H2 := List.IsPrefix.trans ⟨_, rfl⟩ hp2
     have hget : H2[H.length]? = some (.vec zbh 1 (upR row els p ps i).length cs) := by rw [zfx hH1 hHl]; exact hcs
     have hlt2 := (List.getElem?_eq_some_iff.1 hcs2).1
     have hne : id ≠ H.length := by simp at hlo2; omega
     have hm1 := zv0 row els p ps (i + 1)
     rw [zg4, List.length_append] at hm1
     have hm2 : (i + 1) * (els.length + 1) ^ ps.length ≤ 100000000 := Nat.le_trans (Nat.mul_le_mul_right _ (by omega : i + 1 ≤ els.length + 1)) (by rw [Nat.mul_comm]; exact hb1)
     have hl2 := hcells2.length
     have hk2 := ze0 hcells2
     have hx1 : All2 (CellR H2 H.length H.length) cs (upR row els p ps i) := hcells.mono fun c r hc => hc.keep (Nat.le_refl _) fun b _ hb hb2 => ⟨hb, zfx hH1 hb2⟩
     have hlg := (List.getElem?_eq_some_iff.1 hget).1
     refine znk hget hcs2 hk2.2 (by rw [hl2]; simp) (by omega) (by omega) ?_
     refine ⟨by rw [zg4, List.length_append], zgP (List.IsPrefix.trans hpre hH1) (Nat.le_refl _), hsc2.set ?_, Nat.le_refl _, cs ++ cs2, ?_, ?_⟩
     ·simp only [AB.sc, List.all_append, hk2.1, (ze0 hx1).1, Bool.and_self]
     ·rw [List.getElem?_set_self hlg, zg4, List.length_append]
     ·rw [zg4]
      have hkp : ∀ b, b < H2.length → b ≠ H.length → (H2.set H.length (.vec zbh 1 ((upR row els p ps i).length + (zaV (row.set p (.mk 0 (els.take i))) ps (els.drop i)).length) (cs ++ cs2)))[b]? = H2[b]? := fun b _ hb => List.getElem?_set_ne (fun h => hb h.symm)
      refine (hx1.mono fun c r hc => hc.keep (Nat.le_refl _) fun b _ hb hb2 => ⟨hb, hkp b hb2 hb⟩).append (hcells2.mono fun c r hc => hc.keep (by simp; omega) fun b hb1 hb hb2 => ?_)
      have : b ≠ H.length := by simp at hb1; omega
      exact ⟨this, hkp b hb2 this⟩
    have hasc : ∀ n, H.length ≤ n → a.sc n = true := fun n hn => by
     obtain ⟨_, _, h⟩ := hr
     rcases h with ⟨id, rfl, h⟩ | ⟨_, id, e, rfl, h⟩
     ·have := (List.getElem?_eq_some_iff.1 h).1
      simp [AV.sc, AV.scV, AV.scA, AV.scB]; omega
     ·have := (List.getElem?_eq_some_iff.1 h).1
      simp [AV.sc, AV.scV, AV.scA, AV.scB]; omega
    have hfin : ∀ H3, H <+: H3 → HSc H3 → RowsH H3 H.length H.length (upR row els p ps (i + 1)) → zlF a (.sl (zaz (p :: ps)) .none) (.sl (IT.css els) .none) (.ov H.length (upR row els p ps (i + 1)).length) (.int .i64 ((els.length : Int) + 1)) (.int .i64 i) H3 K Kb := by
     intro H3 g1 g2 g3
     have hl3 := (List.getElem?_eq_some_iff.1 g3.2.choose_spec.1).1
     simp [zlF]
     rw [zal (by omega) (by omega)]
     refine hKb _ _ ⟨els.length + 1 - (i + 1), by omega, Back.at (J := []) (H2 := H3) (by simp) (by simp; omega) g2 ?_ ⟨_, _, rfl, i + 1, by omega, rfl, by simp, rfl, g1, g3⟩⟩
     simp [zhR, AV.sc, AV.scV, AV.scA, AV.scB, hl3]
     exact hasc _ (by omega)
    refine zuT zza ?_
    rw [zy9]
    have hl1 : List.take ps.length (List.map (fun n : Nat => [AV.int .i64 (n : Int)]) ps) = zaz ps := by rw [List.take_of_length_le (by simp)]; rfl
    have hl2 : List.take els.length (IT.css els) = IT.css els := List.take_of_length_le (by simp)
    simp [hl1, hl2, ← hda]
    refine ⟨⟨by omega, by simp [IT.css_map]⟩, ?_⟩
    refine ACalls.monoZ hcall fun t43 H2 h => znj (fun t44 H3 h3 => ?_) h
    obtain ⟨rfl, h1, h2, h3⟩ := h3
    exact zy6 fun _ => hfin _ h1 h2 h3
   ·obtain rfl : i = els.length + 1 := by omega
    have hlt' : ¬ ((els.length : Int) + 1 < (els.length : Int) + 1) := by omega
    simp [zlD]
    exact hK H.length H' hpre hsc ⟨Nat.le_refl _, cs, hcs, hcells⟩
theorem zBq (data : List Dat) (hk : zbf data) (t : VT) (ht : t.nodes ≤ 1000) (c : Int) (H : zaa) (K : Kt) (hK : K (zbE (zbj data t c)) H) :
  ACalls tP zj6 [.sl (data.map Dat.cs) .none, .agg t.cs, .int .i64 c] H K := by
 refine ACalls.out (zBo fun hs => ?_)
 obtain ⟨f1, f2, f3⟩ := zdl hk
 obtain ⟨k, n, ks⟩ := t
 simp [zrT, VT.cs, Nat.add_assoc]
 refine zhu data f1 f2 f3 (.mk k n ks) ht c _ _ ?_
 cases hf : zaM data (.mk k n ks) c with
 | none =>
  rw [zoV hf] at hK
  simp [zbE]
  refine ⟨⟨rfl, rfl⟩, ?_⟩
  exact Out.tup (bs := [.sl [] .none, .bool false]) hs hK ⟨zdU, zaY rfl rfl, trivial⟩
 | some l =>
  obtain ⟨bs, hlb, hl8, hpay, h200, k5, _, hrec⟩ := zkm hk hf
  rw [hpay] at hK
  simp [zbE]
  refine zBK data hk k n ks ht c hf hlb hl8 hrec _ _ ?_
  simp [zce]
  unfold ziy
  refine ALoop.own 13 zaK 3 rfl ?_
  have hl1 : (H ++ [AB.cells [AV.int IntKind.i64 k, AV.int IntKind.i64 n, AV.sl (VT.css ks) Tok.none]]).length = H.length + 1 := by simp
  rw [hl1]
  have hpp := zgN hlb (.mk 0 0 []) l.length (Nat.le_refl _)
  rw [List.take_length, hlb, List.take_length] at hpp
  rw [hpp] at hK
  have hpt : ∀ j ∈ pos false bs bs.length, j < l.length := fun j hj => by have := zeu hj; omega
  have hp8 := zdq false bs bs.length
  generalize pos false bs bs.length = P at *
  show ziy (.sl (VT.css l) .none) (.sl [] (.own (H.length + 1))) (.sl (zaz P) .none) (.int .i64 P.length) (.int .i64 0) (H ++ [.cells [.int .i64 k, .int .i64 n, .sl (VT.css ks) .none]] ++ [.perm zaK 3 0]) (Out H.length K)
  have hperm : ∀ m, HSc (H ++ [.cells [.int .i64 k, .int .i64 n, .sl (VT.css ks) .none], .perm zaK 3 m]) := fun m => hs.append (by simp [AB.sc, AV.scA, AV.scB])
  refine zBm (Inv := fun q t13 t35 H' => ∃ i : Nat, i ≤ P.length ∧ q = P.length - i ∧ t35 = .int .i64 i ∧ t13 = .sl (VT.css ((P.take i).map fun j => l.getD j (.mk 0 0 []))) (.own (H.length + 1)) ∧ H' = H ++ [.cells [.int .i64 k, .int .i64 n, .sl (VT.css ks) .none], .perm zaK 3 i]) P.length ?_ ?_
  ·intro _; exact ⟨0, by omega, by omega, rfl, by simp [VT.css], by simp⟩
  ·rintro q t13 t35 H' ⟨i, hi, rfl, rfl, rfl, rfl⟩ hsc' hlen hsF Kb hKb
   by_cases hlt : i < P.length
   ·have hj := hpt _ (List.getElem_mem hlt)
    simp [zmq, zce, zki, hlt, hj]
    rw [zdH]
    simp [zar, za0, zaI, Nat.min_eq_left hi]
    refine ⟨⟨by omega, by omega⟩, ?_⟩
    rw [zal (by omega) (by omega)]
    have hst : VT.css (List.take i (List.map (fun j => l[j]?.getD (VT.mk 0 0 [])) P)) ++ [(l[P[i]]'hj).cs] = VT.css ((P.take (i + 1)).map fun j => l.getD j (.mk 0 0 [])) := by
     rw [List.take_succ_eq_append_getElem hlt, VT.css_map, VT.css_map, List.map_append, List.map_append, List.map_take]
     simp [List.getD_eq_getElem?_getD, hj]
    rw [hst]
    refine hKb _ _ ⟨P.length - (i + 1), by omega, Back.at (J := []) (H2 := H ++ [.cells [.int .i64 k, .int .i64 n, .sl (VT.css ks) .none], .perm zaK 3 (i + 1)]) (by simp) (by simp) (hperm _) ?_ ⟨_, _, rfl, i + 1, by omega, rfl, by simp, rfl, rfl⟩⟩
    simp [zix, AV.sc, AV.scV, AV.scA, AV.scB]
   ·obtain rfl : i = P.length := by omega
    rw [List.take_length] at *
    simp [zmq, zce]
    refine ⟨⟨rfl, rfl⟩, ?_⟩
    exact Out.tup (bs := [.sl (VT.css (P.map fun j => l.getD j (.mk 0 0 []))) .none, .bool true]) hs hK ⟨slV, zaY rfl rfl, trivial⟩
theorem it2 (v : IT) : ∃ a b, v.cs = [a, b] ∧ a.known = true ∧ b.known = true := by
 obtain ⟨n, ks⟩ := v; exact ⟨_, _, rfl, rfl, rfl⟩
theorem zot {data : List Dat} (h8 : ∀ D ∈ data, D.cons.length ≤ 8) (v : IT) (t : VT) (h : (zbF data v t).2 = true) : 0 ≤ (zbF data v t).1 ∧ (zbF data v t).1 ≤ 6 := by
 obtain ⟨e1, e2, e3⟩ := (zeS h8 v t).1 h
 omega
theorem zos {data : List Dat} (h8 : ∀ D ∈ data, D.cons.length ≤ 8) : ∀ (vs : List IT) (ts : List VT) (a : Int), 0 ≤ a → 0 ≤ (zbi data vs ts a).1 ∧ (zbi data vs ts a).1 ≤ a + 6 * vs.length
 | [], ts, a, h => by simp [zbi]; omega
 | v :: vs, [], a, h => by simp [zbi]; omega
 | v :: vs, t :: ts, a, h => by
  simp only [zbi]
  split
  ·rename_i hb
   have := zot h8 v t hb
   have := zos h8 vs ts (a + (zbF data v t).1) (by omega)
   simp only [List.length_cons]
   omega
  ·simp; omega
theorem zkn {x : VT} : ∀ {l : List VT} {bs : List Bool}, x ∈ pick l bs → x ∈ l
 | [], _, h => by simp [pick] at h
 | _ :: _, [], h => by simp [pick] at h
 | c :: l, b :: bs, h => by
  cases b with
  | true => simp [pick] at h; exact List.mem_cons_of_mem _ (zkn h)
  | false =>
   simp [pick] at h
   rcases h with rfl | h
   ·exact List.mem_cons_self
   ·exact List.mem_cons_of_mem _ (zkn h)
theorem zoU {data : List Dat} {t : VT} {c : Int} {ps : List VT} (h : zbj data t c = some ps) : ∀ x ∈ ps, x.nodes ≤ 1000 := by
 unfold zbj at h
 obtain ⟨k, n, ks⟩ := t
 cases hf : zaM data (.mk k n ks) c with
 | none => rw [hf] at h; cases h
 | some l =>
  rw [hf] at h
  obtain ⟨_, _, _, _, _, _, _, h2⟩ := ze7 hf
  simp at h
  subst h
  exact fun x hx => by have := h2 x (zkn hx); omega
theorem zud (data : List Dat) (n : Int) (ks : List IT) (tk tn : Int) (tks : List VT) : zbF data (.mk n ks) (.mk tk tn tks) =
  if tk = 6 then (if n = 0 then (if tks.length = ks.length then zbi data ks tks 0 else (0, false)) else (0, false))
  else if tk = 7 then (n, decide (0 ≤ n) && decide (n ≤ 6) && decide (ks.length = 0))
  else if tk = 5 then (if n = 0 then zbX data ks (.mk tk tn tks) 0 else (0, false))
  else (0, decide (n = 0) && decide (ks.length = 0)) := by
 rw [zbF]
 rfl
def zb0 (data : List Dat) (vs : List IT) (ts : List VT) : Int × Bool := if ts.length = vs.length then zbi data vs ts 0 else (0, false)
def zfX (data : List Dat) (v : IT) : Prop := ∀ t : VT, t.nodes ≤ 1000 → ∀ (H : zaa) (K : Kt), K (.tup [.int .i64 (zbF data v t).1, .bool (zbF data v t).2]) H → ACalls tP zgB [.sl (data.map Dat.cs) .none, .agg t.cs, .agg v.cs] H K
theorem zb9 {H : zaa} {K : Kt} {a : Int} {b : Bool} (hs : HSc H) (h : K (.tup [.int .i64 a, .bool b]) H) (J : zaa) : Out H.length K (.tup [.int .i64 a, .bool b]) (H ++ J) := Out.tup hs h ⟨zaY rfl rfl, zaY rfl rfl, trivial⟩
theorem zsd {data : List Dat} (h8 : ∀ D ∈ data, D.cons.length ≤ 8) (vs : List IT) (hv : vs.length ≤ 1000) (hel : ∀ v ∈ vs, zfX data v) (ts : List VT) (ht : ∀ t ∈ ts, t.nodes ≤ 1000) (H : zaa) (K : Kt)
  (hK : K (.tup [.int .i64 (zb0 data vs ts).1, .bool (zb0 data vs ts).2]) H) : ACalls tP zgG [.sl (data.map Dat.cs) .none, .sl (VT.css ts) .none, .sl (IT.css vs) .none] H K := by
 refine ACalls.out (zCu fun hs => ?_)
 have h0 : ∀ b J, zb0 data vs ts = (0, b) → Out H.length K (.tup [.int .i64 0, .bool b]) (H ++ J) := fun b J h => by rw [h] at hK; exact zb9 hs hK J
 by_cases hl : ts.length = vs.length
 case neg =>
  have : ((ts.length : Int) != (vs.length : Int)) = true := by simp [bne]; omega
  simp [zmF, this]
  refine ⟨⟨rfl, rfl⟩, ?_⟩
  simpa using h0 false [] (by simp [zb0, hl])
 have htot : zb0 data vs ts = zbi data vs ts 0 := by simp [zb0, hl]
 rw [htot] at hK h0
 simp [zmF, hl]
 refine zCs (Inv := fun q t8 t20 H' => ∃ (i : Nat) (a : Int), i ≤ vs.length ∧ q = vs.length - i ∧ t20 = .int .i64 i ∧ t8 = .int .i64 a ∧ 0 ≤ a ∧ a ≤ 6 * i ∧ zbi data (vs.drop i) (ts.drop i) a = zbi data vs ts 0 ∧ H' = H) vs.length ?_ ?_
 ·intro _; exact ⟨0, 0, by omega, by omega, rfl, rfl, by omega, by omega, by simp, rfl⟩
 ·rintro q t8 t20 H' ⟨i, a, hi, rfl, rfl, rfl, ha0, ha6, ho, rfl⟩ hsc' hlen hsF Kb hKb
  by_cases hlt : i < vs.length
  ·have hlt' : i < ts.length := by omega
   rw [List.drop_eq_getElem_cons hlt, List.drop_eq_getElem_cons hlt'] at ho
   simp only [zbi] at ho
   obtain ⟨x, y, z, hvx, hx, hy, hz⟩ := zbk ts[i]
   obtain ⟨x2, y2, hvx2, hx2, hy2⟩ := it2 vs[i]
   have hti := ht _ (List.getElem_mem hlt')
   have hvi := hel _ (List.getElem_mem hlt)
   simp [zmG, hl, hlt, hlt', hvx, hvx2, Nat.add_assoc]
   refine ⟨⟨hx, hy, hz⟩, ?_⟩
   rw [← hvx, ← hvx2]
   refine zbI (.tup [.int .i64 (zbF data vs[i] ts[i]).1, .bool (zbF data vs[i] ts[i]).2]) (fun J => hvi _ hti _ _ ⟨rfl, rfl⟩) ?_
   cases hb : (zbF data vs[i] ts[i]).2 with
   | false =>
    rw [hb] at ho
    simp at ho
    simp
    exact ⟨⟨rfl, rfl⟩, h0 _ _ ho.symm⟩
   | true =>
    rw [hb] at ho
    simp at ho
    have hbd := zot h8 _ _ hb
    simp
    rw [zal (by omega) (by omega), zal (by omega) (by omega)]
    refine hKb _ _ ⟨vs.length - (i + 1), by omega, Back.at (J := [_]) rfl (Nat.le_refl _) hs ?_ ⟨_, _, rfl, i + 1, _, by omega, rfl, by simp, rfl, by omega, by simp; omega, ho, rfl⟩⟩
    simp [ziP, AV.sc, AV.scV, AV.scA, AV.scB]
  ·obtain rfl : i = vs.length := by omega
   rw [List.drop_length] at ho
   simp only [zbi] at ho
   rw [← ho] at hK
   simp [zmG, hl]
   refine ⟨⟨rfl, rfl⟩, ?_⟩
   have := zb9 hs hK []
   simpa using this
theorem zBD {data : List Dat} (hk : zbf data) (h8 : ∀ D ∈ data, D.cons.length ≤ 8) : ∀ (m : Nat) (v : IT), v.nodes ≤ m → v.nodes ≤ 900 → zfX data v := by
 intro m
 induction m with
 | zero => intro v h; have := v.nodes_pos; omega
 | succ m ih =>
  intro v hv hb t ht H K hK
  obtain ⟨n, ks⟩ := v
  obtain ⟨tk, tn, tks⟩ := t
  have hnl : IT.nodesL ks + 1 ≤ 900 := by simpa [IT.nodes] using hb
  have hll := IT.len_le ks
  have hkids : ∀ v ∈ ks, zfX data v := fun v hvm => by
   obtain ⟨i, hi, rfl⟩ := List.getElem_of_mem hvm
   have := IT.kid_lt (n := n) hi
   exact ih _ (by omega) (by omega)
  refine ACalls.out (zBB fun hs => ?_)
  rw [zud] at hK
  by_cases h6 : tk = 6
  ·subst h6
   by_cases hn : n = 0
   ·subst hn
    simp [zcu, VT.cs, IT.cs, Nat.add_assoc]
    have htk : ∀ t ∈ tks, t.nodes ≤ 1000 := fun t htm => by
     obtain ⟨i, hi, rfl⟩ := List.getElem_of_mem htm
     have := VT.kid_lt (k := 6) (n := tn) hi
     omega
    refine zsd h8 ks (by omega) hkids tks htk _ _ ?_
    simp
    refine ⟨⟨rfl, rfl⟩, ?_⟩
    exact zb9 hs (by simpa [zb0] using hK) _
   ·have : (n != 0) = true := by simp [bne, hn]
    simp [zcu, VT.cs, IT.cs, Nat.add_assoc, this]
    simp [hn] at hK
    exact ⟨⟨rfl, rfl⟩, zb9 hs hK _⟩
  have h6' : (tk == 6) = false := by simp [h6]
  rw [if_neg h6] at hK
  by_cases h7 : tk = 7
  ·subst h7
   simp only [if_true] at hK
   by_cases g1 : 0 ≤ n
   ·by_cases g2 : n ≤ 6
    ·by_cases g3 : ks.length = 0
     ·simp [zcu, VT.cs, IT.cs, Nat.add_assoc, g1, g2, g3]
      simp [g1, g2, g3] at hK
      exact ⟨⟨rfl, rfl⟩, zb9 hs hK _⟩
     ·have g3' : ((ks.length : Int) == 0) = false := by simp; exact fun h => g3 (by simp [h])
      simp [zcu, VT.cs, IT.cs, Nat.add_assoc, g1, g2, g3, g3']
      simp [g1, g2, g3] at hK
      exact ⟨⟨rfl, rfl⟩, zb9 hs hK _⟩
    ·simp [zcu, VT.cs, IT.cs, Nat.add_assoc, g1, g2]
     simp [g1, g2] at hK
     exact ⟨⟨rfl, rfl⟩, zb9 hs hK _⟩
   ·simp [zcu, VT.cs, IT.cs, Nat.add_assoc, g1]
    simp [g1] at hK
    exact ⟨⟨rfl, rfl⟩, zb9 hs hK _⟩
  have h7' : (tk == 7) = false := by simp [h7]
  rw [if_neg h7] at hK
  by_cases h5 : tk = 5
  case neg =>
   have h5' : (tk == 5) = false := by simp [h5]
   rw [if_neg h5] at hK
   by_cases g1 : n = 0
   ·by_cases g2 : ks.length = 0
    ·simp [zcu, VT.cs, IT.cs, Nat.add_assoc, h6', h7', h5', g1, g2, zae]
     simp [g1, g2] at hK
     exact ⟨⟨rfl, rfl⟩, zb9 hs hK _⟩
    ·have g2' : ((ks.length : Int) == 0) = false := by simp; exact fun h => g2 (by simp [h])
     simp [zcu, VT.cs, IT.cs, Nat.add_assoc, h6', h7', h5', g1, g2, g2', zae]
     simp [g1, g2] at hK
     exact ⟨⟨rfl, rfl⟩, zb9 hs hK _⟩
   ·have g1' : (n == 0) = false := by simp [g1]
    simp [zcu, VT.cs, IT.cs, Nat.add_assoc, h6', h7', h5', g1, g1', zae]
    simp [g1] at hK
    exact ⟨⟨rfl, rfl⟩, zb9 hs hK _⟩
  subst h5
  simp only [if_true] at hK
  by_cases hn : n = 0
  case neg =>
   have : (n != 0) = true := by simp [bne, hn]
   simp [zcu, VT.cs, IT.cs, Nat.add_assoc, this]
   simp [hn] at hK
   exact ⟨⟨rfl, rfl⟩, zb9 hs hK _⟩
  subst hn
  simp only [if_true] at hK
  simp [zcu, VT.cs, IT.cs, Nat.add_assoc]
  have hT : (VT.mk 5 tn tks).nodes ≤ 1000 := ht
  have hT' : (VT.mk 5 tn tks).cs = [.int .i64 5, .int .i64 tn, .sl (VT.css tks) .none] := rfl
  generalize hTg : VT.mk 5 tn tks = T at *
  have hsc2 : HSc (H ++ [.cells [.int .i64 5, .int .i64 tn, .sl (VT.css tks) .none], .cells [.int .i64 0, .sl (IT.css ks) .none]]) := hs.append (by simp [AB.sc, AV.scA, AV.scB])
  have hF : zbX data ks T 0 = (0, false) → ∀ J, Out H.length K (.tup [.int .i64 0, .bool false]) (H ++ J) := fun h J => zb9 hs (by rw [h] at hK; exact hK) J
  refine zBz (Inv := fun q t8 t55 H' => ∃ (i : Nat) (a : Int), i ≤ ks.length ∧ q = ks.length - i ∧ t55 = .int .i64 i ∧ t8 = .int .i64 a ∧ 0 ≤ a ∧ a ≤ 6 ∧ zbX data (ks.drop i) T a = zbX data ks T 0 ∧
   H' = H ++ [.cells [.int .i64 5, .int .i64 tn, .sl (VT.css tks) .none], .cells [.int .i64 0, .sl (IT.css ks) .none]]) ks.length ?_ ?_
  ·intro _; exact ⟨0, 0, by omega, by omega, rfl, rfl, by omega, by omega, by simp, rfl⟩
  ·rintro q t8 t55 H' ⟨i, a, hi, rfl, rfl, rfl, ha0, ha6, ho, rfl⟩ hsc' hlen hsF Kb hKb
   by_cases hlt : i < ks.length
   ·rw [List.drop_eq_getElem_cons hlt] at ho
    have hkn := IT.kid_lt (n := 0) hlt
    obtain ⟨c, es, hx⟩ : ∃ c es, ks[i] = IT.mk c es := by cases h : ks[i] with | mk a b => exact ⟨a, b, rfl⟩
    rw [hx] at ho hkn
    have hesl := IT.len_le es
    have hen : IT.nodesL es + 1 ≤ 900 := by
     have : (IT.mk c es).nodes = IT.nodesL es + 1 := by simp [IT.nodes]
     have : (IT.mk 0 ks).nodes = IT.nodesL ks + 1 := by simp [IT.nodes]
     omega
    have hes : ∀ v ∈ es, zfX data v := fun v hvm => by
     obtain ⟨j, hj, rfl⟩ := List.getElem_of_mem hvm
     have := IT.kid_lt (n := c) hj
     exact ih _ (by omega) (by omega)
    simp only [zbX] at ho
    simp [zmu, hlt, hx, IT.cs, Nat.add_assoc]
    rw [← hT']
    refine zCC data hk T hT c _ _ ?_
    cases hp : zbj data T c with
    | none =>
     rw [hp] at ho
     simp only at ho
     simp [zbE]
     exact ⟨⟨rfl, rfl⟩, hF ho.symm _⟩
    | some ps =>
     rw [hp] at ho
     simp only at ho
     simp [zbE]
     have hpn : ∀ t ∈ ps, t.nodes ≤ 1000 := zoU hp
     refine zsd h8 es (by omega) hes ps hpn _ _ ?_
     have htb : 0 ≤ (zb0 data es ps).1 ∧ (zb0 data es ps).1 ≤ 6 * es.length := by
      unfold zb0
      split
      ·have := zos h8 es ps 0 (by omega); omega
      ·simp; omega
     have ho' : (if (zb0 data es ps).2 && decide (a + (1 + (zb0 data es ps).1) ≤ 6) then zbX data (ks.drop (i + 1)) T (a + (1 + (zb0 data es ps).1)) else (0, false)) = zbX data ks T 0 := by
      rw [← ho]
      unfold zb0
      by_cases hl : ps.length = es.length
      ·simp only [hl, if_true]
      ·simp only [hl, if_false]; rfl
     generalize zb0 data es ps = w at *
     obtain ⟨w1, w2⟩ := w
     simp only at htb ho'
     simp
     have q1 : IntKind.i64.wrap (1 + w1) = 1 + w1 := zal (by omega) (by omega)
     have q2 : IntKind.i64.wrap (a + (1 + w1)) = a + (1 + w1) := zal (by omega) (by omega)
     rw [q1, q2]
     cases w2 with
     | false =>
      simp at ho' ⊢
      exact ⟨⟨rfl, rfl⟩, hF ho'.symm _⟩
     | true =>
      by_cases hh : a + (1 + w1) ≤ 6
      ·have hh' : ¬ (6 : Int) < a + (1 + w1) := by omega
       simp [hh] at ho'
       simp [hh']
       rw [zal (by omega) (by omega)]
       refine hKb _ _ ⟨ks.length - (i + 1), by omega, Back.at (J := [.cells [.int .i64 c, .sl (IT.css es) .none]]) (H2 := H ++ [.cells [.int .i64 5, .int .i64 tn, .sl (VT.css tks) .none], .cells [.int .i64 0, .sl (IT.css ks) .none]]) (by simp [hT']) (by simp) hsc2 ?_ ⟨_, _, rfl, i + 1, _, by omega, rfl, by simp, rfl, by omega, by omega, ho', rfl⟩⟩
       simp [ziC, AV.sc, AV.scV, AV.scA, AV.scB]
      ·have hh' : (6 : Int) < a + (1 + w1) := by omega
       simp [hh] at ho'
       simp [hh']
       exact ⟨⟨rfl, rfl⟩, hF ho'.symm _⟩
   ·obtain rfl : i = ks.length := by omega
    rw [List.drop_length] at ho
    simp only [zbX] at ho
    rw [← ho] at hK
    simp [zmu]
    exact ⟨⟨rfl, rfl⟩, zb9 hs hK _⟩
theorem zuI (data : List Dat) (n : Int) (ks : List IT) (tk tn : Int) (tks : List VT) : rdV data (.mk n ks) (.mk tk tn tks) =
  if tk = 6 then (if n = 0 then (if tks.length = ks.length then rdA data ks tks 0 else -1) else -1)
  else if tk = 7 then (if 0 ≤ n ∧ n ≤ 6 ∧ ks.length = 0 then n else -1)
  else if tk = 5 then (if n = 0 ∧ ks.length ≤ 6 then rdE data ks (.mk tk tn tks) 0 else -1)
  else (if n = 0 ∧ ks.length = 0 then 0 else -1) := by
 rw [rdV]
 rfl
theorem znr {m : Int × Bool} {r : Int} (h : agr m r) : -1 ≤ r ∧ r ≤ 6 := by
 obtain ⟨h1, h2⟩ := h
 cases hb : m.2 with
 | true => have := h1 hb; omega
 | false => have := h2 hb; omega
def zbZ (data : List Dat) (vs : List IT) (ts : List VT) : Int := if ts.length = vs.length then rdA data vs ts 0 else -1
theorem zvV {data : List Dat} (h8 : ∀ D ∈ data, D.cons.length ≤ 8) (vs : List IT) (ts : List VT) : -1 ≤ zbZ data vs ts ∧ zbZ data vs ts ≤ 6 := by
 unfold zbZ
 split
 ·exact znr ((zf0 h8 vs ts 0 (by omega)).1 (by omega))
 ·omega
def zfV (data : List Dat) (v : IT) : Prop := ∀ t : VT, t.nodes ≤ 1000 → ∀ (H : zaa) (K : Kt), K (.int .i64 (rdV data v t)) H → ACalls tP zgp [.sl (data.map Dat.cs) .none, .agg t.cs, .agg v.cs] H K
theorem zrS {data : List Dat} (h8 : ∀ D ∈ data, D.cons.length ≤ 8) (vs : List IT) (hv : vs.length ≤ 1000) (hel : ∀ v ∈ vs, zfV data v) (ts : List VT) (ht : ∀ t ∈ ts, t.nodes ≤ 1000) (H : zaa) (K : Kt)
  (hK : K (.int .i64 (zbZ data vs ts)) H) : ACalls tP zgz [.sl (data.map Dat.cs) .none, .sl (VT.css ts) .none, .sl (IT.css vs) .none] H K := by
 refine ACalls.out (zBi fun hs => ?_)
 have hO : ∀ r J, zbZ data vs ts = r → Out H.length K (.int .i64 r) (H ++ J) := fun r J h => by subst h; exact Out.int rfl (Nat.le_refl _) hs hK
 have hO0 : ∀ r, zbZ data vs ts = r → Out H.length K (.int .i64 r) H := fun r h => by simpa using hO r [] h
 by_cases hl : ts.length = vs.length
 case neg =>
  have : ((ts.length : Int) != (vs.length : Int)) = true := by simp [bne]; omega
  simp [zmn, this]
  exact hO0 _ (by simp [zbZ, hl])
 have htot : zbZ data vs ts = rdA data vs ts 0 := by simp [zbZ, hl]
 simp [zmn, hl]
 refine zBg (Inv := fun q t7 t17 H' => ∃ (i : Nat) (a : Int), i ≤ vs.length ∧ q = vs.length - i ∧ t17 = .int .i64 i ∧ t7 = .int .i64 a ∧ 0 ≤ a ∧ a ≤ 6 ∧ rdA data (vs.drop i) (ts.drop i) a = zbZ data vs ts ∧ H' = H) vs.length ?_ ?_
 ·intro _; exact ⟨0, 0, by omega, by omega, rfl, rfl, by omega, by omega, by simp [htot], rfl⟩
 ·rintro q t7 t17 H' ⟨i, a, hi, rfl, rfl, rfl, ha0, ha6, ho, rfl⟩ hsc' hlen hsF Kb hKb
  by_cases hlt : i < vs.length
  ·have hlt' : i < ts.length := by omega
   rw [List.drop_eq_getElem_cons hlt, List.drop_eq_getElem_cons hlt'] at ho
   simp only [rdA] at ho
   have hti := ht _ (List.getElem_mem hlt')
   have hvi := hel _ (List.getElem_mem hlt)
   have hbd := znr (zeS h8 vs[i] ts[i])
   simp [zmo, hl, hlt, hlt', Nat.add_assoc]
   refine zbI (.int .i64 (rdV data vs[i] ts[i])) (fun J => hvi _ hti _ _ ⟨rfl, rfl⟩) ?_
   generalize rdV data vs[i] ts[i] = r at *
   by_cases hr : r < 0
   ·rw [if_pos (.inl hr)] at ho
    simp [hr]
    exact hO0 _ ho.symm
   ·have q1 : IntKind.i64.wrap (a + r) = a + r := zal (by omega) (by omega)
    by_cases h6 : a + r > 6
    ·rw [if_pos (.inr h6)] at ho
     simp [hr, q1, h6]
     exact hO0 _ ho.symm
    ·rw [if_neg (by omega)] at ho
     simp [hr, q1, h6]
     rw [zal (by omega) (by omega)]
     refine hKb _ _ ⟨vs.length - (i + 1), by omega, Back.at (J := []) (by simp) (Nat.le_refl _) hs ?_ ⟨_, _, rfl, i + 1, _, by omega, rfl, by simp, rfl, by omega, by omega, ho, rfl⟩⟩
     simp [ziv, AV.sc, AV.scV, AV.scA, AV.scB]
  ·obtain rfl : i = vs.length := by omega
   rw [List.drop_length] at ho
   simp only [rdA] at ho
   simp [zmo, hl]
   exact hO0 _ ho.symm
theorem zyC : ∀ (m : Nat) (v : IT), v.nodes ≤ m → ∀ (left : Int), left ≤ 1000000 → -1 ≤ left → ∀ (H : zaa) (id : Nat), H[id]? = some (.cells [.int .i64 left]) → ∀ (K : AV → zaa → Prop),
  ((v.nodes : Int) ≤ left → K (.bool true) (H.set id (.cells [.int .i64 (left - v.nodes)]))) → (¬ (v.nodes : Int) ≤ left → ∀ l', K (.bool false) (H.set id (.cells [.int .i64 l']))) →
  ACalls tP zgm [.agg v.cs, .ptr id 0] H K := by
 intro m
 induction m with
 | zero => intro v h; have := v.nodes_pos; omega
 | succ m ih =>
  intro v hv left hl1 hl0 H id hid K hK hF
  obtain ⟨n, ks⟩ := v
  have hlt := zel hid
  have hnn : (IT.mk n ks).nodes = IT.nodesL ks + 1 := by simp [IT.nodes]
  refine ACalls.out (zyA fun hs => ?_)
  have hget : (H ++ [AB.cells [.int .i64 n, .sl (IT.css ks) .none]])[id]? = some (.cells [.int .i64 left]) := zcw hid
  have bad : (¬ ((IT.mk n ks).nodes : Int) ≤ left) → ∀ l' H', H' = H.set id (.cells [.int .i64 l']) ++ [.cells [.int .i64 n, .sl (IT.css ks) .none]] → Out H.length K (.bool false) H' := by
   intro h l' H' he
   exact Out.bool he (by simp) (hs.set rfl) (hF h l')
  simp [zqV, IT.cs, hget, AV.known]
  rw [zal (by omega) (by omega), zcS _ hid, zcw (zcs _ hid)]
  by_cases h0 : left - 1 < 0
  ·simp [h0]
   exact bad (by omega) _ _ rfl
  ·simp [h0]
   refine zyy (Inv := fun q t5 H' => ∃ i : Nat, i ≤ ks.length ∧ q = ks.length - i ∧ t5 = .int .i64 i ∧ ((IT.nodesL (ks.take i) : Int) + 1 ≤ left) ∧ H' = H.set id (.cells [.int .i64 (left - 1 - IT.nodesL (ks.take i))]) ++ [.cells [.int .i64 n, .sl (IT.css ks) .none]]) ks.length ?_ ?_
   ·intro _; exact ⟨0, by omega, by omega, rfl, by simp [IT.nodesL]; omega, by simp [IT.nodesL]⟩
   ·rintro q t5 H' ⟨i, hi, rfl, rfl, hb, rfl⟩ hsc hlen hsF Kb hKb
    by_cases hil : i < ks.length
    ·have hki := IT.kid_lt (n := n) hil
     have h1 := IT.nodesL_take hil
     have h2 := IT.nodesL_take_le ks (i + 1)
     have hll := IT.len_le (ks.take i)
     simp only [List.length_take] at hll
     have hge : (H.set id (.cells [.int .i64 (left - 1 - IT.nodesL (ks.take i))]) ++ [AB.cells [.int .i64 n, .sl (IT.css ks) .none]])[id]? = some (.cells [.int .i64 (left - 1 - IT.nodesL (ks.take i))]) := zcw (zcs _ hid)
     simp [zlv, hil]
     refine ih ks[i] (by omega) (left - 1 - IT.nodesL (ks.take i)) (by omega) (by omega) _ id hge _ ?_ ?_
     ·intro hle
      rw [zcS _ (zcs _ hid), List.set_set]
      simp
      rw [zal (by omega) (by omega)]
      refine hKb _ _ ⟨ks.length - (i + 1), by omega, Back.here (by simp) ((hs.set rfl).snoc rfl) ?_ ⟨_, rfl, i + 1, by omega, rfl, by simp, by omega, ?_⟩⟩
      ·simp [zhF, AV.sc, AV.scV, AV.scA, AV.scB]; omega
      ·rw [h1]; congr 5; omega
     ·intro hle l'
      rw [zcS _ (zcs _ hid), List.set_set]
      simp
      exact bad (by omega) _ _ rfl
    ·obtain rfl : i = ks.length := by omega
     rw [List.take_length] at hb ⊢
     simp [zlv]
     refine Out.bool rfl (by simp) (hs.set rfl) ?_
     have := hK (by omega)
     rw [hnn] at this
     rw [show left - 1 - (IT.nodesL ks : Int) = left - ((IT.nodesL ks + 1 : Nat) : Int) by omega]
     exact this
theorem zBY (v : IT) (H : zaa) (K : Kt) (hK : ∀ b, (b = true → v.nodes ≤ 40) → K (.bool b) H) : ACalls tP zj9 [.agg v.cs] H K := by
 refine ACalls.out (zBX fun hs => ?_)
 simp [zq7, AV.known]
 refine zyC _ v (Nat.le_refl _) 40 (by omega) (by omega) _ (H.length + 1) (by simp) _ ?_ ?_
 ·intro h
  exact Out.bool (J := [_, _]) (by simp; exact ⟨rfl, rfl⟩) (Nat.le_refl _) hs (hK true fun _ => by omega)
 ·intro h l'
  exact Out.bool (J := [_, _]) (by simp; exact ⟨rfl, rfl⟩) (Nat.le_refl _) hs (hK false fun h => by cases h)
theorem zzK {data : List Dat} (hk : zbf data) (h8 : ∀ D ∈ data, D.cons.length ≤ 8) : ∀ (m : Nat) (v : IT), v.nodes ≤ m → v.nodes ≤ 900 → zfV data v := by
 intro m
 induction m with
 | zero => intro v h; have := v.nodes_pos; omega
 | succ m ih =>
  intro v hv hb t ht H K hK
  obtain ⟨n, ks⟩ := v
  obtain ⟨tk, tn, tks⟩ := t
  have hnl : IT.nodesL ks + 1 ≤ 900 := by simpa [IT.nodes] using hb
  have hll := IT.len_le ks
  have hkids : ∀ v ∈ ks, zfV data v := fun v hvm => by
   obtain ⟨i, hi, rfl⟩ := List.getElem_of_mem hvm
   have := IT.kid_lt (n := n) hi
   exact ih _ (by omega) (by omega)
  refine ACalls.out (zzI fun hs => ?_)
  rw [zuI] at hK
  have hO : ∀ r J, K (.int .i64 r) H → Out H.length K (.int .i64 r) (H ++ J) := fun r J h => Out.int rfl (Nat.le_refl _) hs h
  by_cases h6 : tk = 6
  ·subst h6
   rw [if_pos rfl] at hK
   by_cases hn : n = 0
   ·subst hn
    rw [if_pos rfl] at hK
    simp [zch, VT.cs, IT.cs, Nat.add_assoc]
    have htk : ∀ t ∈ tks, t.nodes ≤ 1000 := fun t htm => by
     obtain ⟨i, hi, rfl⟩ := List.getElem_of_mem htm
     have := VT.kid_lt (k := 6) (n := tn) hi
     omega
    refine zrS h8 ks (by omega) hkids tks htk _ _ ?_
    exact hO _ _ hK
   ·have : (n != 0) = true := by simp [bne, hn]
    rw [if_neg hn] at hK
    simp [zch, VT.cs, IT.cs, Nat.add_assoc, this]
    exact hO _ _ hK
  have h6' : (tk == 6) = false := by simp [h6]
  rw [if_neg h6] at hK
  by_cases h7 : tk = 7
  ·subst h7
   rw [if_pos rfl] at hK
   by_cases g1 : n < 0
   ·rw [if_neg (by omega)] at hK
    simp [zch, VT.cs, IT.cs, Nat.add_assoc, g1]
    exact hO _ _ hK
   ·by_cases g2 : n > 6
    ·rw [if_neg (by omega)] at hK
     simp [zch, VT.cs, IT.cs, Nat.add_assoc, g1, g2]
     exact hO _ _ hK
    ·by_cases g3 : 0 < ks.length
     ·rw [if_neg (by omega)] at hK
      have g3' : (0 : Int) < ks.length := by omega
      simp [zch, VT.cs, IT.cs, Nat.add_assoc, g1, g2, g3, g3']
      exact hO _ _ hK
     ·rw [if_pos (by omega)] at hK
      have g3' : ¬ (0 : Int) < ks.length := by omega
      simp [zch, VT.cs, IT.cs, Nat.add_assoc, g1, g2, g3, g3']
      exact hO _ _ hK
  have h7' : (tk == 7) = false := by simp [h7]
  rw [if_neg h7] at hK
  by_cases h5 : tk = 5
  case neg =>
   have h5' : (tk == 5) = false := by simp [h5]
   rw [if_neg h5] at hK
   by_cases g1 : n = 0
   ·subst g1
    by_cases g2 : 0 < ks.length
    ·have g2' : (0 : Int) < ks.length := by omega
     rw [if_neg (by omega)] at hK
     simp [zch, VT.cs, IT.cs, Nat.add_assoc, h6', h7', h5', g2, g2']
     exact hO _ _ hK
    ·have g2' : ¬ (0 : Int) < ks.length := by omega
     rw [if_pos (by omega)] at hK
     simp [zch, VT.cs, IT.cs, Nat.add_assoc, h6', h7', h5', g2, g2']
     exact hO _ _ hK
   ·have g1' : (n != 0) = true := by simp [bne, g1]
    rw [if_neg (by omega)] at hK
    simp [zch, VT.cs, IT.cs, Nat.add_assoc, h6', h7', h5', g1, g1']
    exact hO _ _ hK
  subst h5
  rw [if_pos rfl] at hK
  by_cases hn : n = 0
  case neg =>
   have : (n != 0) = true := by simp [bne, hn]
   rw [if_neg (by omega)] at hK
   simp [zch, VT.cs, IT.cs, Nat.add_assoc, this]
   exact hO _ _ hK
  subst hn
  by_cases hl6 : ks.length > 6
  ·rw [if_neg (by omega)] at hK
   have : (6 : Int) < ks.length := by omega
   simp [zch, VT.cs, IT.cs, Nat.add_assoc, this]
   exact hO _ _ hK
  have hl6' : ¬ (6 : Int) < ks.length := by omega
  rw [if_pos (by omega)] at hK
  simp [zch, VT.cs, IT.cs, Nat.add_assoc, hl6']
  have hT : (VT.mk 5 tn tks).nodes ≤ 1000 := ht
  have hT' : (VT.mk 5 tn tks).cs = [.int .i64 5, .int .i64 tn, .sl (VT.css tks) .none] := rfl
  generalize hTg : VT.mk 5 tn tks = T at *
  have hsc2 : HSc (H ++ [.cells [.int .i64 5, .int .i64 tn, .sl (VT.css tks) .none], .cells [.int .i64 0, .sl (IT.css ks) .none]]) := hs.append (by simp [AB.sc, AV.scA, AV.scB])
  have hF : ∀ r, r = rdE data ks T 0 → ∀ J, Out H.length K (.int .i64 r) (H ++ J) := fun r h J => hO _ _ (by rw [h]; exact hK)
  refine zzG (Inv := fun q t7 t58 H' => ∃ (i : Nat) (a : Int), i ≤ ks.length ∧ q = ks.length - i ∧ t58 = .int .i64 i ∧ t7 = .int .i64 a ∧ 0 ≤ a ∧ a ≤ 6 ∧ rdE data (ks.drop i) T a = rdE data ks T 0 ∧
   H' = H ++ [.cells [.int .i64 5, .int .i64 tn, .sl (VT.css tks) .none], .cells [.int .i64 0, .sl (IT.css ks) .none]]) ks.length ?_ ?_
  ·intro _; exact ⟨0, 0, by omega, by omega, rfl, rfl, by omega, by omega, by simp, rfl⟩
  ·rintro q t7 t58 H' ⟨i, a, hi, rfl, rfl, rfl, ha0, ha6, ho, rfl⟩ hsc' hlen hsF Kb hKb
   by_cases hlt : i < ks.length
   ·rw [List.drop_eq_getElem_cons hlt] at ho
    have hkn := IT.kid_lt (n := 0) hlt
    obtain ⟨c, es, hx⟩ : ∃ c es, ks[i] = IT.mk c es := by cases h : ks[i] with | mk a b => exact ⟨a, b, rfl⟩
    rw [hx] at ho hkn
    have hesl := IT.len_le es
    have hen : IT.nodesL es + 1 ≤ 900 := by
     have : (IT.mk c es).nodes = IT.nodesL es + 1 := by simp [IT.nodes]
     have : (IT.mk 0 ks).nodes = IT.nodesL ks + 1 := by simp [IT.nodes]
     omega
    have hes : ∀ v ∈ es, zfV data v := fun v hvm => by
     obtain ⟨j, hj, rfl⟩ := List.getElem_of_mem hvm
     have := IT.kid_lt (n := c) hj
     exact ih _ (by omega) (by omega)
    simp only [rdE] at ho
    by_cases c1 : c < 0
    ·rw [if_pos (.inl c1)] at ho
     simp [zfM, hlt, hx, IT.cs, Nat.add_assoc, c1]
     exact hF _ ho _
    by_cases c2 : 8 ≤ c
    ·rw [if_pos (.inr c2)] at ho
     simp [zfM, hlt, hx, IT.cs, Nat.add_assoc, c1, c2]
     exact hF _ ho _
    rw [if_neg (by omega)] at ho
    simp [zfM, hlt, hx, IT.cs, Nat.add_assoc, c1, c2]
    rw [← hT']
    refine zBq data hk T hT c _ _ ?_
    cases hp : zbj data T c with
    | none =>
     rw [hp] at ho
     simp only at ho
     simp [zbE]
     exact hF _ ho _
    | some ps =>
     rw [hp] at ho
     simp only at ho
     simp [zbE]
     have hpn : ∀ t ∈ ps, t.nodes ≤ 1000 := zoU hp
     refine zrS h8 es (by omega) hes ps hpn _ _ ?_
     have htb := zvV h8 es ps
     have ho' : (if zbZ data es ps < 0 ∨ a + 1 + zbZ data es ps > 6 then -1 else rdE data (ks.drop (i + 1)) T (a + (1 + zbZ data es ps))) = rdE data ks T 0 := by
      rw [← ho]
      unfold zbZ
      by_cases hl : ps.length = es.length
      ·simp only [hl, if_true]
      ·simp only [hl, if_false]; rfl
     generalize zbZ data es ps = w at *
     by_cases w0 : w < 0
     ·rw [if_pos (.inl w0)] at ho'
      simp [w0]
      exact hF _ ho' _
     ·have q1 : IntKind.i64.wrap (a + 1) = a + 1 := zal (by omega) (by omega)
      have q2 : IntKind.i64.wrap (a + 1 + w) = a + 1 + w := zal (by omega) (by omega)
      have q3 : IntKind.i64.wrap (1 + w) = 1 + w := zal (by omega) (by omega)
      have q4 : IntKind.i64.wrap (a + (1 + w)) = a + (1 + w) := zal (by omega) (by omega)
      by_cases hh : a + 1 + w > 6
      ·rw [if_pos (.inr hh)] at ho'
       simp [w0, q1, q2, hh]
       exact hF _ ho' _
      ·rw [if_neg (by omega)] at ho'
       simp [w0, q1, q2, hh, q3, q4]
       rw [zal (by omega) (by omega)]
       refine hKb _ _ ⟨ks.length - (i + 1), by omega, Back.at (J := [.cells [.int .i64 c, .sl (IT.css es) .none]]) (H2 := H ++ [.cells [.int .i64 5, .int .i64 tn, .sl (VT.css tks) .none], .cells [.int .i64 0, .sl (IT.css ks) .none]]) (by simp [hT']) (by simp) hsc2 ?_ ⟨_, _, rfl, i + 1, _, by omega, rfl, by simp, rfl, by omega, by omega, ho', rfl⟩⟩
       simp [zh1, AV.sc, AV.scV, AV.scA, AV.scB]
   ·obtain rfl : i = ks.length := by omega
    rw [List.drop_length] at ho
    simp only [rdE] at ho
    simp [zfM]
    exact hF _ ho _
section
variable {data : List Dat} (hD : DOk data)
end
theorem zt7 {data : List Dat} (h : zbf data) : zi9 data := fun D hD => by
 obtain ⟨_, h2⟩ := h
 obtain ⟨_, h3, h4⟩ := h2 D hD
 refine ⟨by omega, fun c hc => ?_⟩
 obtain ⟨_, h5, h6⟩ := h4 c hc
 exact ⟨by omega, fun x hx => by have := h6 x hx; omega⟩
end Go.Proofs.YtacebbdfgbfgiaaGreat
