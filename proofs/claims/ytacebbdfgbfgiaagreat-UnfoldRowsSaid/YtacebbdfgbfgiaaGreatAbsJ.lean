import Derived.Test.YtacebbdfgbfgiaaGreatAbsH
import Derived.Still
set_option linter.unusedSimpArgs false
set_option linter.unusedVariables false
namespace Go.Abs
open Go Go.RowKit

variable {P : Program} {B : Nat} {w : World} {G : Gh} {H : zaa}

theorem HRel.newOwn (h : HRel B w G H) (e size : Nat) :
  Ext B w G w ⟨G.L, G.μ ++ [.own (.slice none 0 0) size 0]⟩ ∧ HRel B w ⟨G.L, G.μ ++ [.own (.slice none 0 0) size 0]⟩ (H ++ [.perm e size 0]) := by
 have he : Ext B w G w ⟨G.L, G.μ ++ [.own (.slice none 0 0) size 0]⟩ := ⟨Nat.le_refl _, Below.refl _ _, fun _ => Nat.le_refl _, fun _ _ _ => rfl, fun id gi hg => ⟨gi, by
  have : id < G.μ.length := (List.getElem?_eq_some_iff.1 hg).1
  simp only []
  rw [List.getElem?_append_left this]; exact hg, gi.le_refl⟩⟩
 have split : ∀ (id : Nat) gi, (G.μ ++ [.own (.slice none 0 0) size 0])[id]? = some gi → G.μ[id]? = some gi ∨ (id = G.μ.length ∧ gi = .own (.slice none 0 0) size 0) := by
  intro id gi hg
  by_cases hlt : id < G.μ.length
  ·rw [List.getElem?_append_left hlt] at hg; exact .inl hg
  ·have hlt2 := (List.getElem?_eq_some_iff.1 hg).1
   simp at hlt2
   have : id = G.μ.length := by omega
   subst this
   simp at hg
   exact .inr ⟨rfl, hg.symm⟩
 refine ⟨he, by simp [h.len], ?_, ?_, h.fresh, ?_, h.base⟩
 ·intro id ab gi h1 h2
  rcases split id gi h2 with h2 | ⟨rfl, rfl⟩
  ·have hlt : id < H.length := by rw [← h.len]; exact (List.getElem?_eq_some_iff.1 h2).1
   rw [List.getElem?_append_left hlt] at h1
   exact (h.ok id ab gi h1 h2).keep he (fun b hb => ⟨rfl, rfl⟩)
  ·rw [h.len] at h1
   simp at h1
   subst h1
   exact ⟨rfl, rfl, ⟨[], World.ownsRow_nil w B e size⟩, fun b hb => by simp [Value.ownBlock] at hb⟩
 ·intro id id' gi gi' b h1 h2 h3 h4
  rcases split id gi h1 with k1 | ⟨e1, e2⟩ <;> rcases split id' gi' h2 with k2 | ⟨e3, e4⟩
  ·exact h.dist id id' gi gi' b k1 k2 h3 h4
  ·rw [e4] at h4; simp [GI.block, Value.ownBlock] at h4
  ·rw [e2] at h3; simp [GI.block, Value.ownBlock] at h3
  ·rw [e1, e3]
 ·intro id gi b h1 h2
  rcases split id gi h1 with k1 | ⟨e1, e2⟩
  ·exact h.lt id gi b k1 h2
  ·rw [e2] at h2; simp [GI.block, Value.ownBlock] at h2

theorem zo0 {v : Value} {a : AV} (h : DRel w G.L v a) : v.oneCell' = true := by cases h <;> rfl

theorem zxw {e size n : Nat} {v : Value} {xs : List Value} {es : List (List AV)} (hown : w.ownsRow B e size v n xs) (hd : DRel w G.L v (.sl es .none)) (hes : es.length = n) (hsz : ∀ c ∈ es, c.length = size) : All2 (DRel w G.L) xs es.flatten := by
 by_cases hne : es = []
 ·subst hne
  simp at hes
  subst hes
  have : xs = [] := List.eq_nil_of_length_eq_zero (by simpa using hown.1)
  rw [this]
  trivial
 ·obtain ⟨b, off, cap, zs, hv, hl, hr, hc, _⟩ := hd.flat hne hsz
  have hoff : off = 0 := by
   rcases hown.2 with ⟨h1, _⟩ | ⟨g, cap', cur, h1, _⟩
   ·rw [hv] at h1; simp at h1
   ·rw [hv] at h1; simp at h1; exact h1.1.2
  subst hoff
  rw [hv, hes] at hown
  obtain ⟨hxl, _, _, hcx⟩ := zcH hown
  have : xs = zs := by
   apply List.ext_getElem?
   intro j
   by_cases hj : j < n * size
   ·have hz : j < zs.length := by rw [hl, hes]; exact hj
    have := hc j zs[j] (by simp [hz])
    rw [Nat.zero_add] at this
    rw [← hcx j hj, this]
    simp [hz]
   ·rw [List.getElem?_eq_none (by omega), List.getElem?_eq_none (by rw [hl, hes]; omega)]
  rw [this]
  exact hr

theorem HRel.newVec0 (h : HRel B w G H) (e size : Nat) : Ext B w G w ⟨G.L, G.μ ++ [.own (.slice none 0 0) size 0]⟩ ∧ HRel B w ⟨G.L, G.μ ++ [.own (.slice none 0 0) size 0]⟩ (H ++ [.vec e size 0 []]) := by
 obtain ⟨hE, hH⟩ := h.newOwn e size
 refine ⟨hE, by simpa using hH.len, fun id ab gi h1 h2 => ?_, hH.dist, hH.fresh, hH.lt, hH.base⟩
 by_cases hlt : id < H.length
 ·rw [List.getElem?_append_left hlt] at h1
  exact hH.ok id ab gi (by rw [List.getElem?_append_left hlt]; exact h1) h2
 ·have hlt2 := (List.getElem?_eq_some_iff.1 h2).1
  simp [h.len] at hlt2
  obtain rfl : id = H.length := by omega
  simp at h1
  have h2 : (G.μ ++ [GI.own (.slice none 0 0) size 0])[H.length]? = some gi := h2
  rw [← h.len] at h2
  simp at h2
  subst h1 h2
  exact ⟨rfl, rfl, ⟨[], World.ownsRow_nil w B e size, trivial⟩, fun b hb => by simp [Value.ownBlock] at hb⟩
theorem zqt {t e ty : TypeId} {size bytes : Nat} {z : Value} {vx vy : Value} {x : AV} {m : Nat} {ds : List AV} {K : AV → zaa → Prop} (hH : HRel B w G H) (he : za5 P t = some e) (hn : zaM P e = some size) (hby : zcJ P e = some bytes)
  (hz : zbd P e = some z) (hzl : (za7 z).length = size) (hx : TRel w G vx x) (news : List Value) (ay : Option Addr) (capy : Nat) (hvy : vy = .slice ay m capy) (hrn : All2 (ARel w G) news ds)
  (hcn : 0 < m → ∃ b off, ay = some ⟨b, off, none⟩ ∧ ∀ j u, news[j]? = some u → w.cell? ⟨b, off + j, none⟩ = some u) (h : zbV e size bytes x m ds H K) :
  OpOK P B w G K (((do pure (.value (← Builtin.append_ #[t, t] ty #[vx, vy]))) : Sem Next).run P w) := by
 subst hvy
 have hzr := zcT (w := w) (G := G) z
 have hzs : z.cells.size = size := by have := hzr.length; simp at this; omega
 have hone : ds.all AV.known = true → ∀ u ∈ news, u.oneCell' = true := fun hk => zp6 hrn (fun c hc => fun hu => by
  subst hu
  have := List.all_eq_true.1 hk _ hc
  simp [AV.known] at this)
 have hlen := hrn.length
 unfold zbV at h
 split at h
 ·rename_i id n
  split at h
  ·rename_i e' s' n' cs hid
   obtain ⟨⟨⟨rfl, rfl, rfl⟩, hkn, hdl, hb1, hb2⟩, hk⟩ := h
   obtain ⟨hsl, v', s0, n0, hμ, hle, heq⟩ := hx
   obtain ⟨rfl, rfl, ⟨xs, hown, hrx⟩, _⟩ := hH.ok id _ _ hid hμ
   obtain rfl := heq rfl
   by_cases hys : m = 0
   ·subst hys
    obtain ⟨ax, capx, rfl, hle⟩ := zg5 hown
    have hrun := zha (P := P) (w := w) (ty := ty) (a := ax) (c := ay) (cap' := capy) he he ⟨_, hn⟩ hle
    rw [Sem.run_bind, hrun]
    refine ⟨.ov id n', G, H, Ext.refl _ _ _, hH, ⟨hsl, _, _, n', hμ, Nat.le_refl _, fun _ => rfl⟩, ?_⟩
    have hds : ds = [] := by cases ds <;> simp_all
    subst hds
    have : H.set id (.vec e' s' n' cs) = H := by
     apply List.ext_getElem?
     intro k
     by_cases hk : k = id
     ·subst hk
      rw [List.getElem?_set_self (List.getElem?_eq_some_iff.1 hid).1]
      exact hid.symm
     ·rw [List.getElem?_set_ne (fun h => hk h.symm)]
    simp only [Nat.add_zero, List.append_nil, this] at hk
    exact hk
   ·have hm0 : 0 < m := by omega
    obtain ⟨b, off, rfl, hcc⟩ := hcn hm0
    unfold zaM at hn
    unfold zcJ at hby
    unfold zbd at hz
    cases hi : P.info? e' with
    | none => simp [hi] at hn
    | some i =>
     simp [hi] at hn hby hz
     subst hn
     subst hby
     obtain ⟨v2, w', hrun, hown', hcase⟩ := zkZ (P := P) (ty := ty) (zbY he) hi hz hzs hown ⟨b, off, none⟩ m capy news (by omega) (fun j u hj => by rw [add_lit]; exact hcc j u hj) (hone hkn) hm0 (by simp only [maxLen]; omega) hb1 hH.base
     obtain ⟨G', hE', hH', hT⟩ := zfL hH hid hμ hown hown' hcase hm0 hrx hrn
     rw [Sem.run_bind, hrun]
     exact ⟨_, G', _, hE', hH', hT, hk⟩
  ·exact h.elim
 ·split at h
  ·obtain ⟨hdx, ax, rfl⟩ := hx
   have hrun := zha (P := P) (w := w) (ty := ty) (a := ax) (c := ay) (cap' := capy) he he ⟨_, hn⟩ (Nat.le_refl 0)
   rw [Sem.run_bind]
   simp only [List.length_nil]
   rw [hrun]
   exact ⟨.sl [] .none, G, H, Ext.refl _ _ _, hH, .slE _ _, h⟩
  ·rename_i m'
   obtain ⟨⟨hkn, hdl, hb1, hb2⟩, hk⟩ := h
   obtain ⟨hdx, ax, rfl⟩ := hx
   have hm0 : 0 < m' + 1 := by omega
   obtain ⟨b, off, rfl, hcc⟩ := hcn hm0
   unfold zaM at hn
   unfold zcJ at hby
   unfold zbd at hz
   cases hi : P.info? e with
   | none => simp [hi] at hn
   | some i =>
    simp [hi] at hn hby hz
    subst hn
    subst hby
    obtain ⟨v', w', hrun, hown', hblk, hgr⟩ := zph (P := P) (ty := ty) (n := 0) (xs := []) (zbY he) hi hz hzs (by simp) (fun b hb j u hj => by simp at hj) (fun h => rfl) ⟨b, off, none⟩ (m' + 1) capy news (by omega) (fun j u hj => by rw [add_lit]; exact hcc j u hj) hm0 (by simp only [maxLen]; omega) (by simpa using hb1) hH.base
    obtain ⟨hE, hH0⟩ := hH.newVec0 e i.size
    have hid : (H ++ [.vec e i.size 0 []])[H.length]? = some (.vec e i.size 0 []) := by simp
    obtain ⟨G', hE', hH', hT⟩ := zfL (n := 0) (cs := []) (xs := []) hH0 hid (by rw [← hH.len]; simp) (World.ownsRow_nil w B e i.size) (by simpa using hown') (.inr ⟨hblk, hgr⟩) hm0 trivial (hrn.mono fun _ _ => hE.arel)
    rw [Sem.run_bind]
    simp only [List.length_nil]
    rw [hrun]
    refine ⟨_, G', _, hE.trans hE', hH', hT, ?_⟩
    simpa using hk
 ·exact h.elim

theorem zwJ {t e ty : TypeId} {size bytes : Nat} {z : Value} {vx vy : Value} {x y : AV} {K : AV → zaa → Prop} (hH : HRel B w G H) (he : za5 P t = some e) (hn : zaM P e = some size) (hby : zcJ P e = some bytes)
  (hz : zbd P e = some z) (hzl : (za7 z).length = size) (hx : TRel w G vx x) (hy : TRel w G vy y) (h : zar e size bytes x y H K) :
  OpOK P B w G K (((do pure (.value (← Builtin.append_ #[t, t] ty #[vx, vy]))) : Sem Next).run P w) := by
 unfold zar at h
 split at h
 ·rename_i id off len cap
  split at h
  ·rename_i cs hid
   obtain ⟨b, hμ, rfl⟩ := hy
   obtain ⟨_, _, vs, _, hw, hcs⟩ := hH.ok id _ _ hid hμ
   have hl := hcs.length
   refine zqt hH he hn hby hz hzl hx ((vs.toList.drop off).take (len * size)) _ _ rfl ((hcs.drop off).take _) (fun _ => ⟨b, off, rfl, fun j u hj => ?_⟩) h.2
   rw [List.getElem?_take] at hj
   split at hj
   ·simp only [World.cell?, hw]
    simpa using hj
   ·cases hj
  ·exact h.elim
 ·rename_i id n
  split at h
  ·rename_i e' s' n' cs hid
   obtain ⟨⟨rfl, rfl⟩, h⟩ := h
   obtain ⟨⟨a, cap0, rfl, _⟩, v', s0, n0, hμ, _, heq⟩ := hy
   obtain ⟨rfl, rfl, ⟨xs, hown, hcs⟩, _⟩ := hH.ok id _ _ hid hμ
   obtain rfl := heq rfl
   refine zqt hH he hn hby hz hzl hx xs _ _ rfl hcs (fun hm => ?_) h
   obtain ⟨hl, hrow⟩ := hown
   rcases hrow with ⟨h1, h2⟩ | ⟨g, cap, cur, h1, h2, h3, h4, h5, h6, h7⟩
   ·omega
   ·simp at h1
    obtain ⟨rfl, rfl⟩ := h1
    obtain ⟨_, _, _, hcell⟩ := zcH ⟨hl, .inr ⟨g, cap0, cur, rfl, h2, h3, h4, h5, h6, h7⟩⟩
    exact ⟨g, 0, rfl, fun j u hj => by
     rw [Nat.zero_add, hcell j (by rw [← hl]; exact (List.getElem?_eq_some_iff.1 hj).1)]
     exact hj⟩
  ·exact h.elim
 obtain ⟨ys, hdy, hsy, h⟩ : ∃ ys, DRel w G.L vy (.sl ys .none) ∧ (∀ c ∈ ys, c.length = size) ∧ zaI e size bytes x ys H K := by
  unfold zaW at h
  split at h
  ·rename_i ys tok _ _
   exact ⟨ys, zfH hy, h.1, h.2⟩
  ·cases hy
   exact ⟨[], .slE _ _, h.1, h.2⟩
  ·exact h.elim
 have hzr := zcT (w := w) (G := G) z
 have hzs : z.cells.size = size := by have := hzr.length; simp at this; omega
 -- the general step, for a right that is there already
 have main : ∀ (G0 : Gh) (H0 : zaa) (id : Nat) (es : List (List AV)) (v : Value), Ext B w G w G0 → HRel B w G0 H0 → H0[id]? = some (.perm e size es.length) → G0.μ[id]? = some (.own v size es.length) → DRel w G.L v (.sl es .none) →
   (∀ c ∈ es, c.length = size) → vx = v → (es.length + ys.length) * bytes ≤ 140737488355328 → es.length + ys.length ≤ 9223372036854775807 → K (.sl (es ++ ys) (.own id)) (H0.set id (.perm e size (es.length + ys.length))) →
   OpOK P B w G K (((do pure (.value (← Builtin.append_ #[t, t] ty #[vx, vy]))) : Sem Next).run P w) := by
  intro G0 H0 id es v hE hH0 hid hμ hdx hsx hvx hb1 hb2 hk
  subst hvx
  obtain ⟨_, _, ⟨xs, hown⟩, _⟩ := hH0.ok id _ _ hid hμ
  by_cases hys : ys = []
  ·subst hys
   obtain ⟨ay, capy, rfl, _⟩ := hdy.slice_form
   obtain ⟨ax, capx, rfl, hle⟩ := zg5 hown
   have hrun := zha (P := P) (w := w) (ty := ty) (a := ax) (c := ay) (cap' := capy) he he ⟨size, hn⟩ hle
   simp only [List.length_nil]
   rw [Sem.run_bind, hrun]
   refine ⟨.sl es (.own id), G0, H0, hE, hH0, ⟨hE.drel hdx, _, size, es.length, hμ, Nat.le_refl _, fun _ => ⟨rfl, hsx⟩⟩, ?_⟩
   have : H0.set id (.perm e size (es.length + 0)) = H0 := by
    apply List.ext_getElem?
    intro k
    by_cases hk : k = id
    ·subst hk
     rw [List.getElem?_set_self (List.getElem?_eq_some_iff.1 hid).1]
     exact hid.symm
    ·rw [List.getElem?_set_ne (fun h => hk h.symm)]
   rw [List.length_nil, this] at hk
   simpa using hk
  ·obtain ⟨b, off, capy, news, hvy, hln, hrn, hcn, _⟩ := hdy.flat hys hsy
   subst hvy
   have hm0 : 0 < ys.length := by cases ys <;> simp_all
   unfold zaM at hn
   unfold zcJ at hby
   unfold zbd at hz
   cases hi : P.info? e with
   | none => simp [hi] at hn
   | some i =>
    simp [hi] at hn hby hz
    subst hn
    subst hby
    have hone : ∀ u ∈ news, u.oneCell' = true := fun u hu => by
     obtain ⟨j, hj⟩ := List.mem_iff_getElem?.1 hu
     obtain ⟨c, _, h2⟩ := hrn.get' hj
     exact zo0 h2
    obtain ⟨v', w', hrun, hown', hcase⟩ := zkZ (P := P) (ty := ty) (zbY he) hi hz hzs hown ⟨b, off, none⟩ ys.length capy news hln (fun j u hj => by rw [add_lit]; exact hcn j u hj) hone hm0 (by simp only [maxLen]; omega) hb1 hH0.base
    obtain ⟨G', hE', hH', hT⟩ := zpW hH0 hid hμ hown hown' hcase rfl hm0 rfl hsx hsy (zxw hown (hE.drel hdx) rfl hsx) (hrn.mono fun _ _ => hE.drel)
    rw [Sem.run_bind, hrun]
    exact ⟨_, G', _, hE.trans hE', hH', hT, hk⟩
 unfold zaI at h
 split at h
 ·cases hx
  obtain ⟨hE, hH0⟩ := hH.newOwn e size
  have hid : (H ++ [.perm e size 0])[H.length]? = some (.perm e size ([] : List (List AV)).length) := by simp
  refine main _ _ H.length [] _ hE hH0 hid (by rw [← hH.len]; simp) (.slE _ _) (by simp) rfl (by simpa using h.1.1) (by simpa using h.1.2) ?_
  simpa using h.2
 ·rename_i es id _
  obtain ⟨h1, ⟨h2, h3⟩, hk⟩ := h
  obtain ⟨hd, v', s', n', hμ, hle, heq⟩ := hx
  have hok := hH.ok id _ _ h1 hμ
  obtain ⟨hss, hnn, _⟩ := hok
  subst hnn
  subst hss
  obtain ⟨hvv, hsx⟩ := heq rfl
  subst hvv
  exact main G H id es _ (Ext.refl _ _ _) hH h1 hμ hd hsx rfl h2 h3 hk
 ·rename_i id n _
  split at h
  ·rename_i e' s' n' cs hid
   obtain ⟨⟨⟨rfl, rfl, rfl⟩, hb1, hb2⟩, hk⟩ := h
   obtain ⟨hsl, v', s0, n0, hμ, hle, heq⟩ := hx
   obtain ⟨rfl, rfl, ⟨xs, hown, hrx⟩, _⟩ := hH.ok id _ _ hid hμ
   obtain rfl := heq rfl
   by_cases hys : ys = []
   ·subst hys
    obtain ⟨ay, capy, rfl, _⟩ := hdy.slice_form
    obtain ⟨ax, capx, rfl, hle⟩ := zg5 hown
    have hrun := zha (P := P) (w := w) (ty := ty) (a := ax) (c := ay) (cap' := capy) he he ⟨_, hn⟩ hle
    simp only [List.length_nil]
    rw [Sem.run_bind, hrun]
    refine ⟨.ov id n', G, H, Ext.refl _ _ _, hH, ⟨hsl, _, _, n', hμ, Nat.le_refl _, fun _ => rfl⟩, ?_⟩
    have : H.set id (.vec e' s' n' cs) = H := by
     apply List.ext_getElem?
     intro k
     by_cases hk : k = id
     ·subst hk
      rw [List.getElem?_set_self (List.getElem?_eq_some_iff.1 hid).1]
      exact hid.symm
     ·rw [List.getElem?_set_ne (fun h => hk h.symm)]
    simp only [List.length_nil, Nat.add_zero, List.flatten_nil, List.append_nil, this] at hk
    exact hk
   ·obtain ⟨b, off, capy, news, hvy, hln, hrn, hcn, _⟩ := hdy.flat hys hsy
    subst hvy
    have hm0 : 0 < ys.length := by cases ys <;> simp_all
    unfold zaM at hn
    unfold zcJ at hby
    unfold zbd at hz
    cases hi : P.info? e' with
    | none => simp [hi] at hn
    | some i =>
     simp [hi] at hn hby hz
     subst hn
     subst hby
     have hone : ∀ u ∈ news, u.oneCell' = true := fun u hu => by
      obtain ⟨j, hj⟩ := List.mem_iff_getElem?.1 hu
      obtain ⟨c, _, h2⟩ := hrn.get' hj
      exact zo0 h2
     obtain ⟨v2, w', hrun, hown', hcase⟩ := zkZ (P := P) (ty := ty) (zbY he) hi hz hzs hown ⟨b, off, none⟩ ys.length capy news hln (fun j u hj => by rw [add_lit]; exact hcn j u hj) hone hm0 (by simp only [maxLen]; omega) hb1 hH.base
     obtain ⟨G', hE', hH', hT⟩ := zfL hH hid hμ hown hown' hcase hm0 hrx (hrn.mono fun _ _ h => ARel.of_b h.toB)
     rw [Sem.run_bind, hrun]
     exact ⟨_, G', _, hE', hH', hT, hk⟩
  ·exact h.elim
 ·rename_i es _
  obtain ⟨⟨hm0, hsx, hb1, hb2⟩, hk⟩ := h
  obtain ⟨hdx, ax, rfl⟩ := hx
  have hys : ys ≠ [] := fun h => by rw [h] at hm0; simp at hm0
  obtain ⟨b, off, capy, news, hvy, hln, hrn, hcn, _⟩ := hdy.flat hys hsy
  subst hvy
  unfold zaM at hn
  unfold zcJ at hby
  unfold zbd at hz
  cases hi : P.info? e with
  | none => simp [hi] at hn
  | some i =>
   simp [hi] at hn hby hz
   subst hn
   subst hby
   obtain ⟨xs, hxl, hrx, hxc, hx0⟩ : ∃ xs : List Value, xs.length = es.length * i.size ∧ All2 (DRel w G.L) xs es.flatten ∧ (∀ b, ax = some b → ∀ j u, xs[j]? = some u → w.cell? (b.add j) = some u) ∧ (ax = none → es.length = 0) := by
    by_cases hne : es = []
    ·subst hne
     exact ⟨[], by simp, trivial, fun b hb j u hj => by simp at hj, fun _ => rfl⟩
    ·obtain ⟨b2, off2, cap2, xs, hv2, hxl, hrx, hxc, _⟩ := hdx.flat hne hsx
     injection hv2 with e1 e2 e3
     subst e1
     refine ⟨xs, hxl, hrx, fun b hb j u hj => ?_, fun h => by cases h⟩
     injection hb with hb
     subst hb
     rw [add_lit]
     exact hxc j u hj
   obtain ⟨v', w', hrun, hown', hblk, hgr⟩ := zph (P := P) (ty := ty) (zbY he) hi hz hzs hxl hxc hx0 ⟨b, off, none⟩ ys.length capy news hln (fun j u hj => by rw [add_lit]; exact hcn j u hj) hm0 (by simp only [maxLen]; omega) hb1 hH.base
   obtain ⟨hE, hH0⟩ := hH.newOwn e i.size
   have hid : (H ++ [.perm e i.size 0])[H.length]? = some (.perm e i.size 0) := by simp
   obtain ⟨G', hE', hH', hT⟩ := zpW (es := []) (ys := es ++ ys) (xs := []) (news := xs ++ news) (m := es.length + ys.length) (v' := v') (w' := w') hH0 hid (by rw [← hH.len]; simp) (World.ownsRow_nil w B e i.size)
    (by simpa using hown') (.inr ⟨hblk, hgr⟩) (by simp) (by omega) rfl (by simp) (fun c hc => by
     rcases List.mem_append.1 hc with hc | hc
     ·exact hsx c hc
     ·exact hsy c hc) trivial (by rw [List.flatten_append]; exact (hrx.append hrn).mono fun _ _ => hE.drel)
   rw [Sem.run_bind, hrun]
   refine ⟨_, G', _, hE.trans hE', hH', hT, ?_⟩
   simpa using hk
 ·exact h.elim

theorem zvm {v : Value} {a : AV} (h : TRel w G v a) (hb : a.isB = true) : BRel w G v a := by
 cases a <;> first | exact h | (simp [AV.isB] at hb; done)
theorem zpq : ∀ {vs : List Value} {asx : List AV}, All2 (TRel w G) vs asx → asx.all AV.isB = true → All2 (BRel w G) vs asx
 | [], [], _, _ => trivial
 | v :: vs, a :: asx, h, hb => by
  simp only [List.all_cons, Bool.and_eq_true] at hb
  exact ⟨zvm h.1 hb.1, zpq h.2 hb.2⟩


theorem zbL {s : Sem Value} {K : AV → zaa → Prop} (hH : HRel B w G H) (h : ∃ r, s.run P w = .ok r w ∧ ∃ av, TRel w G r av ∧ K av H) : OpOK P B w G K (((do pure (.value (← s))) : Sem Next).run P w) := by
 obtain ⟨r, h1, av, h2, h3⟩ := h
 rw [Sem.run_bind, h1]
 exact ⟨av, G, H, Ext.refl _ _ _, hH, h2, h3⟩

theorem zg2 {a : Act} {F : List AV} (hF : FRel w G a.tmps F) (x : Option Operand) : All2 (TRel w G) (x.map a.eval).toList (x.map (ev F)).toList := by
 cases x with
 | none => trivial
 | some x => exact ⟨zaF hF x, trivial⟩

theorem zk0 {a : Act} {F : List AV} (hF : FRel w G a.tmps F) (ps : List (Nat × Operand)) :
  All2 (fun (p : Nat × Value) (q : Nat × AV) => p.1 = q.1 ∧ TRel w G p.2 q.2) (ps.map fun (i, x) => (i, a.eval x)) (ps.map fun p => (p.1, ev F p.2)) := by
 induction ps with
 | nil => trivial
 | cons p ps ih => exact ⟨⟨rfl, zaF hF p.2⟩, ih⟩

theorem zwg {f : FuncId} {vs : Array Value} (h : zdq P f = true) : (callFunc f vs).run P w = .ok (.enter f vs) w := by
 unfold zdq at h
 cases hf : P.funcs[f]? with
 | none => simp [hf] at h
 | some fn =>
  simp only [hf, Bool.and_eq_true, Bool.not_eq_true'] at h
  obtain ⟨h1, h2⟩ := h
  have h3 : fn.body.isNone = false := by cases hb : fn.body <;> simp_all
  simp only [callFunc, Sem.run_bind, run_program, Result.andThen_ok, hf, h1, h3, Bool.false_eq_true, if_false, Sem.run_pure]

theorem zwQ {c : Call} {ty : TypeId} {a : Act} {F : List AV} {fo : Operand} {K : AV → zaa → Prop} (hH : HRel B w G H) (hF : FRel w G a.tmps F) (hc : c.callee = .value fo)
  (h : aCallV P (ev F fo) (c.args.toList.map (ev F)) H K) : OpOK P B w G K (((do let d ← resolve a.eval c ty; invoke d.target d.args) : Sem Next).run P w) := by
 have hf := zaF hF fo
 unfold aCallV at h
 split at h
 ·rename_i f caps hfe
  rw [hfe] at hf
  obtain ⟨cs, hfv, hcaps⟩ := hf
  split at h
  ·rename_i hcall
   have hrun : ((do let d ← resolve a.eval c ty; invoke d.target d.args) : Sem Next).run P w = .ok (.enter f (c.args.map a.eval ++ cs)) w := by
    simp only [resolve, hc, hfv, Deferred.ofValue, Sem.run_bind, Sem.run_pure, Result.andThen_ok, invoke, Array.empty_append]
    exact zwg hcall
   rw [hrun]
   refine ⟨rfl, h B w G _ hH ?_⟩
   have h1 := zo3 hF c.args.toList
   have h2 : All2 (TRel w G) cs.toList caps := hcaps.mono fun _ _ hb => TRel.of_v (VRel.of_a (ARel.of_b hb))
   simpa using h1.append h2
  ·exact h.elim
 ·exact h.elim

theorem zoA {α : Type} {xs : Array α} {x : α} (h : xs.toList = [x]) : xs = #[x] := by cases xs; simp_all
theorem zoB {α : Type} {xs : Array α} {x y : α} (h : xs.toList = [x, y]) : xs = #[x, y] := by cases xs; simp_all

theorem zwP {c : Call} {ty : TypeId} {a : Act} {F : List AV} {b : Builtin} {K : AV → zaa → Prop} (hH : HRel B w G H) (hF : FRel w G a.tmps F) (hc : c.callee = .builtin b)
  (h : zdk P b c F H K) : OpOK P B w G K (((do let d ← resolve a.eval c ty; invoke d.target d.args) : Sem Next).run P w) := by
 cases b <;> simp only [zdk] at h <;> (try exact h.elim)
 case append =>
  split at h
  ·rename_i x y t t' hargs htypes
   split at h
   ·rename_i e size bytes z he hs hb hz htt
    simp only [beq_iff_eq] at htt
    subst htt
    split at h
    ·rename_i hq
     simp only [Bool.and_eq_true, decide_eq_true_eq, beq_iff_eq] at hq
     simp only [he, Option.bind_some] at hs hz hb
     have h1 := zoB hargs
     have h2 := zoB htypes
     have hrun : ((do let d ← resolve a.eval c ty; invoke d.target d.args) : Sem Next).run P w = ((do pure (.value (← Builtin.append_ #[t, t] ty #[a.eval x, a.eval y]))) : Sem Next).run P w := by
      simp only [resolve, hc, h1, h2, List.map_toArray, List.map_cons, List.map_nil, Sem.run_bind, Sem.run_pure, Result.andThen_ok, invoke, builtin]
     rw [hrun]
     exact zwJ hH he hs hb hz hq.2 (zaF hF x) (zaF hF y) h
    ·exact h.elim
   ·exact h.elim
  ·exact h.elim
 case len =>
  split at h
  ·rename_i x t hargs htypes
   split at h
   ·rename_i u hu
    have h1 := zoA hargs
    have h2 := zoA htypes
    have hrun : ((do let d ← resolve a.eval c ty; invoke d.target d.args) : Sem Next).run P w = ((do pure (.value (← Builtin.len_ #[t] ty #[a.eval x]))) : Sem Next).run P w := by
     simp only [resolve, hc, h1, h2, List.map_toArray, List.map_cons, List.map_nil, Sem.run_bind, Sem.run_pure, Result.andThen_ok, invoke, builtin]
    rw [hrun]
    exact zbL hH (zw0 (zaF hF x) hu h)
   ·exact h.elim
  ·exact h.elim

theorem zvH {o : Oper} {a : Act} {F : List AV} {K : AV → zaa → Prop} (hH : HRel B w G H) (hF : FRel w G a.tmps F) (h : zbw P o F H K) : OpOK P B w G K ((execOp a.eval o).run P w) := by
 obtain ⟨dst, op, type, pos, after, guard⟩ := o
 unfold zbw at h
 simp only [] at h
 cases op <;> (try simp only [] at h) <;> (try exact h.elim) <;> simp only [execOp]
 case move x => exact OpOK.same hH (zaF hF x) h
 case assign x => exact OpOK.same hH (zaF hF x) h
 case pick c x y =>
  unfold zaj at h
  split at h
  ·rename_i t ht
   have hc := zaF hF c
   rw [ht] at hc
   have hc : a.eval c = .bool t := hc
   have hrun : ((do pure (.value (if ← asBool (a.eval c) then a.eval x else a.eval y))) : Sem Next).run P w = .ok (.value (if t = true then a.eval x else a.eval y)) w := by
    rw [hc]; cases t <;> rfl
   rw [hrun]
   refine OpOK.same hH ?_ h
   cases t
   ·exact zaF hF y
   ·exact zaF hF x
  ·exact h.elim
 case alloc t =>
  split at h
  ·rename_i z hz
   exact zwI hH hz h
  ·exact h.elim
 case box t x => exact zwL hH (zaF hF x) h
 case build t parts =>
  split at h
  ·rename_i z ps hz hp
   exact zbL hH (zwM hz hp (by simpa using zk0 hF parts.toList) h)
  ·exact h.elim
 case buildSlice t len parts =>
  split at h
  ·rename_i size z hs hz
   split at h
   ·rename_i hb
    simp only [Bool.and_eq_true, decide_eq_true_eq, beq_iff_eq] at hb
    cases he : za5 P t with
    | none => simp [he] at hs
    | some e =>
     simp only [he, Option.bind_some] at hs hz
     exact zwN hH he hs hz hb.1.1 hb.1.2 hb.2 (by simpa using zk0 hF parts.toList) h
   ·exact h.elim
  ·exact h.elim
 case load t x =>
  split at h
  ·rename_i g n hg hn
   obtain ⟨u, h1, av, h2, h3⟩ := zqu hH (zaF hF x) hg hn h
   exact zbL hH ⟨u, h1, av, h2, h3⟩
  ·exact h.elim
 case store t x y =>
  split at h
  ·rename_i n hn
   obtain ⟨w', H', h1, h2, h3, h4⟩ := zw7 hH (zaF hF x) (zaF hF y) hn h
   have hrun : ((do Instr.storeAt t (a.eval x) (a.eval y); pure .skip) : Sem Next).run P w = .ok .skip w' := by rw [Sem.run_bind, h1]; rfl
   rw [hrun]
   exact ⟨G, H', h2, h3, h4⟩
  ·exact h.elim
 case nilCheck x =>
  have hx := zaF hF x
  rw [zuv] at h
  split at h
  ·rename_i id off hid
   rw [hid] at hx h
   obtain ⟨b, hμ, hv⟩ := hx
   rw [hv]
   exact OpOK.same hH (av := .ptr id off) ⟨b, hμ, rfl⟩ h
  ·rename_i cs hid
   rw [hid] at hx h
   obtain ⟨b, off, hv, hc⟩ := hx
   rw [hv]
   exact OpOK.same hH (av := .view cs) ⟨b, off, rfl, hc⟩ h
  ·rename_i f cs hid
   rw [hid] at hx h
   obtain ⟨vs, hv, hc⟩ := hx
   rw [hv]
   exact OpOK.same hH (av := .fn f cs) ⟨vs, rfl, hc⟩ h
  ·rename_i id m off hid
   rw [hid] at hx h
   obtain ⟨⟨b, o, hv⟩, hr⟩ := hx
   rw [hv] at hr ⊢
   exact OpOK.same hH (av := .vp id m off) ⟨⟨b, o, rfl⟩, hr⟩ h
  ·exact h.elim
 case binOp op t x y yt =>
  split at h
  ·rename_i hy
   exact zbL hH (zw4 (zaF hF x) hy h)
  ·exact zbL hH (zwK (zaF hF x) (zaF hF y) h)
 case unOp op t x => exact zbL hH (zw8 (zaF hF x) h)
 case convert s t x =>
  have hspec : ∀ k, cvK P s t = some k → (match k with
    | .ints k => (∃ j, P.underlying s = some (.int j)) ∧ P.underlying t = some (.int k)
    | .strs => P.underlying s = some .string ∧ P.underlying t = some .string
    | .bytes => ∃ e, P.underlying s = some (.slice e) ∧ P.underlying t = some .string ∧ tU8 P e = true) := by
   intro k hk
   unfold cvK at hk
   split at hk
   ·rename_i hs
    split at hk
    ·rename_i ht; cases hk; exact ⟨⟨_, hs⟩, ht⟩
    ·cases hk
   ·rename_i hs
    split at hk
    ·rename_i ht; cases hk; exact ⟨hs, ht⟩
    ·cases hk
   ·rename_i hs
    split at hk
    ·rename_i ht
     split at hk
     ·rename_i he; cases hk; exact ⟨_, hs, ht, he⟩
     ·cases hk
    ·cases hk
   ·cases hk
  split at h
  ·rename_i k hk
   obtain ⟨⟨j, hs⟩, ht⟩ := hspec _ hk
   exact zbL hH (zwR (zaF hF x) hs ht h)
  ·rename_i hk
   obtain ⟨hs, ht⟩ := hspec _ hk
   exact zbL hH (zwT (zaF hF x) hs ht h)
  ·rename_i hk
   obtain ⟨e, hs, ht, he⟩ := hspec _ hk
   exact zbL hH (zwS (zaF hF x) hs ht he h)
  ·exact h.elim
 case makeFunc fn first caps =>
  cases fn <;> simp only [] at h <;> (try exact h.elim)
  rename_i f
  split at h
  ·rename_i hfirst
   obtain ⟨hb, hk⟩ := h
   have hf0 : first = #[] := by cases first; simp_all
   subst hf0
   have hrun : ((do pure (.value (← Instr.makeFunc (.func f) (Array.map a.eval #[]) (caps.map a.eval)))) : Sem Next).run P w = .ok (.value (.func (.func f) #[] (caps.map a.eval))) w := by simp [Instr.makeFunc]
   rw [hrun]
   refine OpOK.same hH (av := .fn f (caps.toList.map (ev F))) ⟨_, rfl, ?_⟩ hk
   have := zpq (zo3 hF caps.toList) hb
   simpa using this
  ·exact h.elim
 case makeSlice t l c =>
  split at h
  ·rename_i size bytes z hs hb hz
   split at h
   ·rename_i hq
    simp only [Bool.and_eq_true, decide_eq_true_eq, beq_iff_eq] at hq
    cases he : za5 P t with
    | none => simp [he] at hs
    | some e =>
     simp only [he, Option.bind_some] at hs hz hb
     exact zw2 hH he hs hb hz hq.1 hq.2 (zaF hF l) (zaF hF c) h
   ·exact h.elim
  ·exact h.elim
 case slice t x lo hi mx =>
  cases mx <;> simp only [] at h <;> (try exact h.elim)
  split at h
  ·rename_i ht
   exact zbL hH (zqw (zaF hF x) (zg2 hF lo) (zg2 hF hi) ht (by omega) h)
  ·rename_i ht
   split at h
   ·rename_i size hs
    exact zbL hH (zqw (zaF hF x) (zg2 hF lo) (zg2 hF hi) ht (fun _ => hs) h)
   ·exact h.elim
  ·exact h.elim
 case fieldAddr s x i =>
  split at h
  ·rename_i f hf
   split at h
   ·rename_i n hn
    exact zbL hH (zwW (zaF hF x) hf hn h)
   ·exact h.elim
  ·exact h.elim
 case field s x i =>
  split at h
  ·rename_i f hf
   split at h
   ·rename_i g n hg hn
    exact zbL hH (zwX (zaF hF x) hf hg hn h)
   ·exact h.elim
  ·exact h.elim
 case indexAddr t x i =>
  split at h
  ·rename_i size hs
   cases he : za5 P t with
   | none => simp [he] at hs
   | some e =>
    simp only [he, Option.bind_some] at hs
    exact zbL hH (zwY (zaF hF x) (zaF hF i) he hs h)
  ·exact h.elim
 case index t x i =>
  split at h
  ·rename_i ht
   exact zbL hH (zwZ (zaF hF x) (zaF hF i) ht h)
  ·exact h.elim
 case extract x i => exact zbL hH (zwU (zaF hF x) h)
 case call c =>
  split at h
  ·rename_i fo hc
   exact zwQ hH hF hc h
  ·rename_i b hc
   exact zwP hH hF hc h
  ·exact h.elim

theorem zvL {o : Oper} {a : Act} {F : List AV} {K : AV → zaa → Prop} (hH : HRel B w G H) (hF : FRel w G a.tmps F) (h : zdn P o.op F H K) : OpOK P B w G K ((execOp a.eval o).run P w) := by
 obtain ⟨dst, op, type, pos, after, guard⟩ := o
 unfold zdn at h
 simp only [] at h
 cases op <;> (try simp only [] at h) <;> (try exact h.elim) <;> simp only [execOp]
 case makeMap t r =>
  split at h
  ·exact zw3 hH h
  ·exact h.elim
 case lookup t x i ok =>
  split at h
  ·rename_i z hz
   cases he : zdf P t with
   | none => simp [he] at hz
   | some e =>
    simp only [he, Option.bind_some] at hz
    exact zbL hH (zw1 hH he hz (zaF hF x) (zaF hF i) h)
  ·exact h.elim
 case mapUpdate t m k x =>
  split at h
  ·rename_i e he
   obtain ⟨w', H', h1, h2, h3, h4⟩ := zqv hH he (zaF hF m) (zaF hF k) (zaF hF x) h
   have hrun : ((do Instr.mapUpdate t (a.eval m) (a.eval k) (a.eval x); pure .skip) : Sem Next).run P w = .ok .skip w' := by rw [Sem.run_bind, h1]; rfl
   rw [hrun]
   exact ⟨G, H', h2, h3, h4⟩
  ·exact h.elim
 case insert t m k x =>
  split at h
  ·rename_i e he
   obtain ⟨w', H', h1, h2, h3, h4⟩ := zqv hH he (zaF hF m) (zaF hF k) (zaF hF x) h
   have hrun : ((do Instr.mapUpdate t (a.eval m) (a.eval k) (a.eval x); pure .skip) : Sem Next).run P w = .ok .skip w' := by rw [Sem.run_bind, h1]; rfl
   rw [hrun]
   exact ⟨G, H', h2, h3, h4⟩
  ·exact h.elim
theorem zez {o : Oper} {a : Act} {F : List AV} {K : AV → zaa → Prop} (hH : HRel B w G H) (hF : FRel w G a.tmps F) (h : aop P o F H K) : OpOK P B w G K ((execOp a.eval o).run P w) := by
 unfold aop at h
 split at h
 ·exact zvL hH hF h
 ·exact zvH hH hF h

end Go.Abs
namespace Go.Abs
open Go Go.RowKit

variable {fl : Bool} {wc : WM} {P : Program} {B : Nat} {w : World} {G : Gh} {H : zaa}
theorem zog {e s b m : Nat} {x : AV} {ds : List AV} {H : zaa} {K : AV → zaa → Prop} (h : zbV e s b x m ds H K) : ∃ r H', (zbV e s b x m ds H fun v H2 => v = r ∧ H2 = H') ∧ K r H' := by
 unfold zbV at h ⊢
 split at h
 ·split at h
  ·exact ⟨_, _, ⟨h.1, rfl, rfl⟩, h.2⟩
  ·exact h.elim
 ·split at h
  ·exact ⟨_, _, ⟨rfl, rfl⟩, h⟩
  ·exact ⟨_, _, ⟨h.1, rfl, rfl⟩, h.2⟩
 ·exact h.elim
theorem zoj {e s b : Nat} {x : AV} {ys : List (List AV)} {H : zaa} {K : AV → zaa → Prop} (h2 : zaI e s b x ys H K) : ∃ r H', (zaI e s b x ys H fun v H2 => v = r ∧ H2 = H') ∧ K r H' := by
 unfold zaI at h2 ⊢
 split at h2
 ·exact ⟨_, _, ⟨h2.1, rfl, rfl⟩, h2.2⟩
 ·exact ⟨_, _, ⟨h2.1, h2.2.1, rfl, rfl⟩, h2.2.2⟩
 ·split at h2
  ·exact ⟨_, _, ⟨h2.1, rfl, rfl⟩, h2.2⟩
  ·exact h2.elim
 ·exact ⟨_, _, ⟨h2.1, rfl, rfl⟩, h2.2⟩
 ·exact h2.elim
theorem zuo {e s b : Nat} {x y : AV} {H : zaa} {K : AV → zaa → Prop} (h : zar e s b x y H K) : ∃ r H', (zar e s b x y H fun v H2 => v = r ∧ H2 = H') ∧ K r H' := by
 unfold zar at h ⊢
 split at h
 ·split at h
  ·obtain ⟨r, H', h1, h2⟩ := zog h.2
   exact ⟨r, H', ⟨h.1, h1⟩, h2⟩
  ·exact h.elim
 ·split at h
  ·obtain ⟨r, H', h1, h2⟩ := zog h.2
   exact ⟨r, H', ⟨h.1, h1⟩, h2⟩
  ·exact h.elim
 ·unfold zaW at h ⊢
  split at h
  ·obtain ⟨r, H', h1, h2⟩ := zoj h.2
   exact ⟨r, H', ⟨h.1, h1⟩, h2⟩
  ·obtain ⟨r, H', h1, h2⟩ := zoj h.2
   exact ⟨r, H', ⟨h.1, h1⟩, h2⟩
  ·exact h.elim
theorem zoi {e s b m : Nat} {x : AV} {ds : List AV} {H : zaa} {K K' : AV → zaa → Prop} (hk : ∀ v H', K v H' → K' v H') (h : zbV e s b x m ds H K) : zbV e s b x m ds H K' := by
 unfold zbV at h ⊢
 split at h
 ·split at h
  ·exact ⟨h.1, hk _ _ h.2⟩
  ·exact h.elim
 ·split at h
  ·exact hk _ _ h
  ·exact ⟨h.1, hk _ _ h.2⟩
 ·exact h.elim
theorem zol {e s b : Nat} {x : AV} {ys : List (List AV)} {H : zaa} {K K' : AV → zaa → Prop} (hk : ∀ v H', K v H' → K' v H') (h2 : zaI e s b x ys H K) : zaI e s b x ys H K' := by
 unfold zaI at h2 ⊢
 split at h2
 ·exact ⟨h2.1, hk _ _ h2.2⟩
 ·exact ⟨h2.1, h2.2.1, hk _ _ h2.2.2⟩
 ·split at h2
  ·exact ⟨h2.1, hk _ _ h2.2⟩
  ·exact h2.elim
 ·exact ⟨h2.1, hk _ _ h2.2⟩
 ·exact h2.elim
theorem zom {e s b : Nat} {x y : AV} {H : zaa} {K K' : AV → zaa → Prop} (hk : ∀ v H', K v H' → K' v H') (h : zar e s b x y H K) : zar e s b x y H K' := by
 unfold zar at h ⊢
 split at h
 ·split at h
  ·exact ⟨h.1, zoi hk h.2⟩
  ·exact h.elim
 ·split at h
  ·exact ⟨h.1, zoi hk h.2⟩
  ·exact h.elim
 ·unfold zaW at h ⊢
  split at h
  ·exact ⟨h.1, zol hk h.2⟩
  ·exact ⟨h.1, zol hk h.2⟩
  ·exact h.elim

theorem FRel.put {a : Act} {F : List AV} {d : Option Tmp} {v : Value} {av : AV} (hF : FRel w G a.tmps F) (hv : TRel w G v av) : FRel w G (a.put d v).tmps (zaR F d av) := by
 cases d with
 | none => exact hF
 | some d =>
  unfold FRel at *
  simp only [Act.put, zaR, Array.toList_setIfInBounds]
  exact All2.set d hF hv
theorem FRel.ext {w' : World} {G' : Gh} {tm : Array Value} {F : List AV} (hF : FRel w G tm F) (he : Ext B w G w' G') : FRel w' G' tm F := All2.mono (fun _ _ => he.trel) hF

theorem zpg {tm : Array Value} {F : List AV} {d : Nat} {x : AV} (hF : FRel w G tm F) (h : F.getD d .unk = x) (hx : x ≠ .unk) : ∃ v, tm[d]? = some v ∧ TRel w G v x := by
 rw [List.getD_eq_getElem?_getD] at h
 cases hd : F[d]? with
 | none => rw [hd] at h; exact absurd h.symm hx
 | some y =>
  rw [hd] at h
  simp at h
  subst h
  obtain ⟨v, h1, h2⟩ := All2.get hF hd
  exact ⟨v, by simpa using h1, h2⟩

theorem zlt {ops : Array Oper} {o : Oper} {a : Act} {F : List AV} {j d : Nat} {want b : Bool} (hF : FRel w G a.tmps F) (hg : o.guard = some (j, want)) (hd : (ops[j]?).bind (·.dst) = some d)
  (hb : F.getD d .unk = .bool b) : Region.wanted o (yielded ops a.tmps) = (b == want) := by
 obtain ⟨v, h1, h2⟩ := zpg hF hb (by simp)
 have h2 : v = .bool b := h2
 subst h2
 simp [Region.wanted, hg, yielded, hd, h1]
theorem zq0 {ops : Array Oper} {o : Oper} {a : Act} {F : List AV} {j d : Nat} {want : Bool} (hF : FRel w G a.tmps F) (hg : o.guard = some (j, want)) (hd : (ops[j]?).bind (·.dst) = some d)
  (hb : F.getD d .unk = .tup []) : Region.wanted o (yielded ops a.tmps) = false := by
 obtain ⟨v, h1, h2⟩ := zpg hF hb (by simp)
 obtain ⟨vs, rfl, _⟩ := h2
 simp [Region.wanted, hg, yielded, hd, h1]

theorem zlr : TRel w G undef (.tup []) := ⟨#[], rfl, trivial⟩

theorem zfB {o : Oper} {a : Act} {F : List AV} {K : AV → zaa → Prop} {K' : Act → World → Prop} {Q : Exit → Act → World → Prop} (hF : FRel w G a.tmps F)
  (h : OpOK P B w G K ((execOp a.eval o).run P w))
  (hK : ∀ v av w' G' H', Ext B w G w' G' → HRel B w' G' H' → TRel w' G' v av → K av H' → K' (a.put o.dst v) w') : o.wp P a w K' Q := by
 unfold Oper.wp
 generalize (execOp a.eval o).run P w = r at *
 cases r with
 | halt x w' => cases x <;> exact h.elim
 | ok n w' =>
  cases n <;> simp only [OpOK] at h <;> simp only [Oper.upon]
  case value v =>
   obtain ⟨av, G', H', h1, h2, h3, h4⟩ := h
   exact hK v av w' G' H' h1 h2 h3 h4
  case skip =>
   obtain ⟨G', H', h1, h2, h4⟩ := h
   exact hK undef (.tup []) w' G' H' h1 h2 zlr h4
  case enter f vs =>
   obtain ⟨rfl, hc⟩ := h
   refine hc.mono fun e w'' he => ?_
   obtain ⟨v, r, H', G', rfl, h1, h2, h3, h4⟩ := he
   exact hK v r w'' G' H' h1 h2 h3 h4

theorem HRel.newB (h : HRel B w G H) (vs : Array Value) (t : TypeId) (cs : List AV) (hc : All2 (ARel w G) vs.toList cs) :
  Ext B w G (w.alloc (.cells vs t)) ⟨G.L, G.μ ++ [.blk w.heap.size]⟩ ∧ HRel B (w.alloc (.cells vs t)) ⟨G.L, G.μ ++ [.blk w.heap.size]⟩ (H ++ [.bld t cs]) := by
 obtain ⟨he, hH⟩ := h.new vs t cs hc
 refine ⟨he, by simpa using hH.len, fun id ab gi h1 h2 => ?_, hH.dist, hH.fresh, hH.lt, hH.base⟩
 by_cases hlt : id < H.length
 ·rw [List.getElem?_append_left hlt] at h1
  exact hH.ok id ab gi (by rw [List.getElem?_append_left hlt]; exact h1) h2
 ·have hlt2 := (List.getElem?_eq_some_iff.1 h1).1
  simp at hlt2
  obtain rfl : id = H.length := by omega
  simp at h1
  subst h1
  have hg : gi = .blk w.heap.size := by
   simp only [] at h2
   rw [← h.len] at h2
   simpa using h2.symm
  subst hg
  exact ⟨h.base, h.fresh _ (Nat.le_refl _), vs, zgc _, hc.mono fun _ _ => he.arel⟩
theorem zvM {o : Oper} {a : Act} {F : List AV} {K : AV → zaa → Prop} (hH : HRel B w G H) (hF : FRel w G a.tmps F) (h : zeZ P o F H K) : OpOK P B w G K ((execOp a.eval o).run P w) := by
 unfold zeZ at h
 split at h
 ·rename_i t hop
  split at h
  ·split at h
   ·rename_i z hz
    obtain ⟨he, hH'⟩ := hH.newB z.cells t (za7 z) (zcT z)
    have hrun : (execOp a.eval o).run P w = .ok (.value (.pointer (some ⟨w.heap.size, 0, none⟩))) (w.alloc (.cells z.cells t)) := by
     obtain ⟨dst, op, type, pos, after, guard⟩ := o
     simp only [] at hop
     subst hop
     simp [execOp, Instr.alloc, zdB hz, newVar, newRow, World.alloc_eq]
    rw [hrun]
    refine ⟨.ptr H.length 0, _, _, he, hH', ⟨w.heap.size, ?_, rfl⟩, h⟩
    rw [← hH.len]; simp
   ·exact h.elim
  ·exact zez hH hF h
 ·exact zez hH hF h

theorem zwO {t e : TypeId} {size len : Nat} {z : Value} {parts : Array (Nat × Value)} {aparts : List (Nat × AV)} {K : AV → zaa → Prop} (hH : HRel B w G H) (he : za5 P t = some e) (hn : zaM P e = some size)
  (hz : zbd P e = some z) (hzl : (za7 z).length = size)
  (hr : All2 (fun (p : Nat × Value) (q : Nat × AV) => p.1 = q.1 ∧ TRel w G p.2 q.2) parts.toList aparts) (h : zcC e size len aparts H K) :
  OpOK P B w G K (((do pure (.value (← Instr.buildSlice t len parts))) : Sem Next).run P w) := by
 unfold zcC at h
 split at h
 ·rename_i x
  obtain ⟨hkn, hk⟩ := h
  have hzr := zcT (w := w) (G := G) z
  have hzs : z.cells.size = 1 := by have := hzr.length; simp at this; omega
  obtain ⟨v, rfl, hv⟩ : ∃ v, parts = #[(0, v)] ∧ ARel w G v x := by
   match parts, hr with
   | ⟨[(i, v)]⟩, ⟨⟨h1, h2⟩, _⟩ =>
    have h1 : i = 0 := h1
    subst h1
    refine ⟨v, rfl, ?_⟩
    cases x <;> first | exact h2 | (simp [AV.oneK] at hkn; done)
   | ⟨[]⟩, hr => exact hr.elim
   | ⟨_ :: _ :: _⟩, hr => exact hr.2.elim
  have hone : v.oneCell' = true := ARel.oneCell (fun hu => by subst hu; simp [AV.oneK] at hkn) hv
  have hvc : v.cells = #[v] := by cases v <;> first | rfl | (simp [Value.oneCell'] at hone)
  have hrun : ((do pure (.value (← Instr.buildSlice t 1 #[(0, v)]))) : Sem Next).run P w = .ok (.value (.slice (some ⟨w.heap.size, 0, none⟩) 1 1)) (w.alloc (.cells #[v] e)) := by
   have hfill : Instr.fill (fun i => some (i * 1, 1)) ((Array.range (1 * 1)).map fun x => z.cells[x % z.cells.size]!) [(0, v)] = some #[v] := by
    have hs : ((Array.range (1 * 1)).map fun x => z.cells[x % z.cells.size]!).size = 1 := by simp
    unfold Instr.fill
    simp only [hvc, hs]
    simp [Instr.fill]
    refine Array.ext (by simp) fun i h1 h2 => ?_
    have : i = 0 := by simp at h2; omega
    subst this
    simp
   simp only [Nat.mul_one] at hfill
   simp [Instr.buildSlice, zaJ (zbY he), zbH hn, zdB hz, hfill, newRow, World.alloc_eq]
  obtain ⟨hE, hH0⟩ := hH.newVec0 e 1
  have hid : (H ++ [.vec e 1 0 []])[H.length]? = some (.vec e 1 0 []) := by simp
  have hgr : GrB w (w.alloc (.cells #[v] e)) none := ⟨Nat.le_refl _, rfl, rfl, rfl, by simp, fun k hk _ => heap_alloc_old w _ k hk⟩
  have hown : (w.alloc (.cells #[v] e)).ownsRow B e 1 (.slice (some ⟨w.heap.size, 0, none⟩) (0 + 1) 1) (0 + 1) ([] ++ [v]) :=
   ⟨rfl, .inr ⟨w.heap.size, 1, #[v], rfl, hH.base, heap_alloc_new w _, by omega, by simp [maxLen], rfl, rfl⟩⟩
  obtain ⟨G', hE', hH', hT⟩ := zfL (n := 0) (m := 1) (cs := []) (xs := []) (news := [v]) (ds := [x]) hH0 hid (by rw [← hH.len]; simp) (World.ownsRow_nil w B e 1) hown (.inr ⟨rfl, hgr⟩) (by omega) trivial ⟨hE.arel hv, trivial⟩
  rw [hrun]
  refine ⟨_, G', _, hE.trans hE', hH', hT, ?_⟩
  simpa using hk
 ·rename_i x y
  obtain ⟨⟨hx1, hy1⟩, hk⟩ := h
  have hzr := zcT (w := w) (G := G) z
  have hzs : z.cells.size = 2 := by have := hzr.length; simp at this; omega
  obtain ⟨u, v, rfl, hu, hv⟩ : ∃ u v, parts = #[(0, .agg #[u, v])] ∧ ARel w G u x ∧ ARel w G v y := by
   match parts, hr with
   | ⟨[(i, p)]⟩, ⟨⟨h1, h2⟩, _⟩ =>
    have h1 : i = 0 := h1
    subst h1
    obtain ⟨us, rfl, h3⟩ := h2
    match us, h3 with
    | ⟨[u, v]⟩, ⟨h4, h5, _⟩ => exact ⟨u, v, rfl, h4, h5⟩
    | ⟨[]⟩, h3 => exact h3.elim
    | ⟨[_]⟩, h3 => exact h3.2.elim
    | ⟨_ :: _ :: _ :: _⟩, h3 => exact h3.2.2.elim
   | ⟨[]⟩, hr => exact hr.elim
   | ⟨_ :: _ :: _⟩, hr => exact hr.2.elim
  have hrun : ((do pure (.value (← Instr.buildSlice t 1 #[(0, .agg #[u, v])]))) : Sem Next).run P w = .ok (.value (.slice (some ⟨w.heap.size, 0, none⟩) 1 1)) (w.alloc (.cells #[u, v] e)) := by
   have hfill : Instr.fill (fun i => some (i * 2, 2)) ((Array.range (1 * 2)).map fun x => z.cells[x % z.cells.size]!) [(0, .agg #[u, v])] = some #[u, v] := by
    have hs : ((Array.range (1 * 2)).map fun x => z.cells[x % z.cells.size]!).size = 2 := by simp
    have hvc : (Value.agg #[u, v]).cells = #[u, v] := rfl
    unfold Instr.fill
    simp only [hvc, hs]
    simp [Instr.fill]
    refine Array.ext (by simp) fun i h1 h2 => ?_
    have : i = 0 ∨ i = 1 := by simp at h2; omega
    rcases this with rfl | rfl <;> simp
   simp [Instr.buildSlice, zaJ (zbY he), zbH hn, zdB hz, newRow, World.alloc_eq, Nat.one_mul] at hfill ⊢
   simp [hfill]
  obtain ⟨hE, hH0⟩ := hH.newVec0 e 2
  have hid : (H ++ [.vec e 2 0 []])[H.length]? = some (.vec e 2 0 []) := by simp
  have hgr : GrB w (w.alloc (.cells #[u, v] e)) none := ⟨Nat.le_refl _, rfl, rfl, rfl, by simp, fun k hk _ => heap_alloc_old w _ k hk⟩
  have hown : (w.alloc (.cells #[u, v] e)).ownsRow B e 2 (.slice (some ⟨w.heap.size, 0, none⟩) (0 + 1) 1) (0 + 1) ([] ++ [u, v]) :=
   ⟨rfl, .inr ⟨w.heap.size, 1, #[u, v], rfl, hH.base, heap_alloc_new w _, by omega, by simp [maxLen], rfl, rfl⟩⟩
  obtain ⟨G', hE', hH', hT⟩ := zfL (n := 0) (m := 1) (cs := []) (xs := []) (news := [u, v]) (ds := [x, y]) hH0 hid (by rw [← hH.len]; simp) (World.ownsRow_nil w B e 2) hown (.inr ⟨rfl, hgr⟩) (by omega) trivial ⟨hE.arel hu, hE.arel hv, trivial⟩
  rw [hrun]
  refine ⟨_, G', _, hE.trans hE', hH', hT, ?_⟩
  simpa using hk
 ·exact h.elim
theorem zpH {x : AV} {v : Value} {K : Bool → Prop} (hx : TRel w G v x) (h : zdW x K) : ∃ ad n c b, v = .slice ad n c ∧ b = ad.isNone ∧ K b := by
 unfold zdW at h
 split at h
 ·cases hx; exact ⟨_, _, _, _, rfl, rfl, h⟩
 ·obtain ⟨b, _, rfl⟩ := hx; exact ⟨_, _, _, _, rfl, rfl, h⟩
 ·obtain ⟨⟨a, cap0, rfl, hb⟩, _⟩ := hx
  obtain ⟨g, hg⟩ := hb (by omega)
  subst hg
  exact ⟨_, _, _, _, rfl, rfl, h⟩
 ·have hx : DRel w G.L v _ := hx
  cases hx with
  | sl b off cap esz es vs hne => exact ⟨_, _, _, _, rfl, rfl, h⟩
 ·exact h.elim
theorem zw5 {op : BinOp} {t : TypeId} {xo yo : Operand} {u : Value} {x : AV} {a : Act} {K : AV → Prop} (hx : TRel w G u x) (hy : zki yo = true) (h : zem (zlk P t) op x K) :
  ∃ r, ((do eqGuard op t xo yo u (a.eval yo); binOp op t u (a.eval yo)) : Sem Value).run P w = .ok r w ∧ ∃ av, TRel w G r av ∧ K av := by
 obtain ⟨ht, h⟩ := h
 obtain ⟨e, hu⟩ : ∃ e, P.underlying t = some (.slice e) := by
  unfold zlk at ht
  split at ht
  ·exact ⟨_, by assumption⟩
  ·cases ht
 obtain rfl : yo = .const (.slice none 0 0) := by
  unfold zki at hy
  split at hy
  ·rfl
  ·cases hy
 have he : a.eval (.const (.slice none 0 0)) = .slice none 0 0 := rfl
 rw [he]
 have key : ∀ ad n c, (Op.equal t (.slice ad n c) (.slice none 0 0)).run P w = .ok ad.isNone w := fun ad n c => by
  have hm : Op.equal t (.slice ad n c) (.slice none 0 0) = Op.equalIn (9999 + 1) t (.slice ad n c) (.slice none 0 0) := rfl
  rw [hm]
  unfold Op.equalIn
  cases ad <;> simp only [Sem.run_bind, zaJ hu, Result.andThen_ok, Sem.run_pure, Option.isNone_none, Option.isNone_some]
 split at h
 ·obtain ⟨ad, n, c, b, rfl, rfl, hk⟩ := zpH hx h
  exact ⟨.bool ad.isNone, by rw [show eqGuard .eql t xo (.const (.slice none 0 0)) (.slice ad n c) (.slice none 0 0) = pure () from rfl]; simp [binOp, key], .bool ad.isNone, rfl, hk⟩
 ·obtain ⟨ad, n, c, b, rfl, rfl, hk⟩ := zpH hx h
  exact ⟨.bool (!ad.isNone), by rw [show eqGuard .neq t xo (.const (.slice none 0 0)) (.slice ad n c) (.slice none 0 0) = pure () from rfl]; simp [binOp, key], .bool (!ad.isNone), rfl, hk⟩
 ·exact h.elim
theorem zvP {o : Oper} {a : Act} {F : List AV} {K : AV → zaa → Prop} (hH : HRel B w G H) (hF : FRel w G a.tmps F) (h : zjV P o F H K) : OpOK P B w G K ((execOp a.eval o).run P w) := by
 unfold zjV at h
 split at h
 ·rename_i t len parts hop
  obtain ⟨dst, op, type, pos, after, guard⟩ := o
  simp only [] at hop
  subst hop
  simp only [execOp]
  split at h
  ·rename_i e he
   split at h
   ·rename_i size z hs hz
    split at h
    ·rename_i hb
     exact zwO hH he hs hz (by simpa using hb) (by simpa using zk0 hF parts.toList) h
    ·exact h.elim
   ·exact h.elim
  ·exact h.elim
 ·rename_i op t x y pos hop
  obtain ⟨dst, op0, type, pos0, after, guard⟩ := o
  simp only [] at hop
  subst hop
  split at h
  ·rename_i hy
   simp only [execOp]
   exact zbL hH (zw5 (a := a) (zaF hF x) hy h)
  ·exact zez hH hF h
 ·exact zez hH hF h
theorem zqg {ops : Array Oper} {K : List AV → zaa → Prop} {Q : Exit → Act → World → Prop} {w0 : World} {G0 : Gh}
  (hQ : ∀ a w G F H, Ext B w0 G0 w G → HRel B w G H → FRel w G a.tmps F → a.defers = [] → K F H → Q .normal a w) :
  ∀ (l : List Oper) (F : List AV) (H : zaa) (a : Act) (w : World) (G : Gh), Ext B w0 G0 w G → HRel B w G H → FRel w G a.tmps F → a.defers = [] → zfF P l K F H → wpList P ops Q l a w
 | [], F, H, a, w, G, hE, hH, hF, hd, h => hQ a w G F H hE hH hF hd h
 | o :: l, F, H, a, w, G, hE, hH, hF, hd, h => by
  refine wpList_step fun K' hK' => ?_
  unfold zfF at h
  split at h
  ·rename_i hg
   rw [if_pos (by simp [Region.wanted, hg])]
   exact zfB hF (zvP hH hF h) fun v av w' G' H' h1 h2 h3 h4 =>
    hK' _ _ (zqg hQ l _ _ _ _ G' (hE.trans h1) h2 ((hF.ext h1).put h3) (by cases hdst : o.dst <;> simpa [Act.put, hdst] using hd) h4)
  ·exact h.elim
theorem zla {ops : Array Oper} {K : List AV → zaa → Prop} {Q : Exit → Act → World → Prop} {w0 : World} {G0 : Gh}
  (hQ : ∀ a w G F H, Ext B w0 G0 w G → HRel B w G H → FRel w G a.tmps F → a.defers = [] → K F H → Q .normal a w) :
  ∀ (l : List Oper) (F : List AV) (H : zaa) (a : Act) (w : World) (G : Gh), Ext B w0 G0 w G → HRel B w G H → FRel w G a.tmps F → a.defers = [] → zdz P ops l K F H → wpList P ops Q l a w
 | [], F, H, a, w, G, hE, hH, hF, hd, h => hQ a w G F H hE hH hF hd h
 | o :: l, F, H, a, w, G, hE, hH, hF, hd, h => by
  have go : ∀ (K' : Act → World → Prop), (∀ a w, wpList P ops Q l a w → K' a w) → zeZ P o F H (fun v H' => zdz P ops l K (zaR F o.dst v) H') → o.wp P a w K' Q := fun K' hK' hop =>
   zfB hF (zvM hH hF hop) fun v av w' G' H' h1 h2 h3 h4 =>
    hK' _ _ (zla hQ l _ _ _ _ G' (hE.trans h1) h2 ((hF.ext h1).put h3) (by cases hdst : o.dst <;> simpa [Act.put, hdst] using hd) h4)
  have skip : ∀ (K' : Act → World → Prop), (∀ a w, wpList P ops Q l a w → K' a w) → zdz P ops l K (zaR F o.dst (.tup [])) H → K' (a.put o.dst undef) w := fun K' hK' hop =>
   hK' _ _ (zla hQ l _ _ _ _ G hE hH (hF.put zlr) (by cases hdst : o.dst <;> simpa [Act.put, hdst] using hd) hop)
  refine wpList_step fun K' hK' => ?_
  unfold zdz at h
  split at h
  ·rename_i hg
   rw [if_pos (by simp [Region.wanted, hg])]
   exact go K' hK' h
  ·rename_i j want hg
   split at h
   ·rename_i d hd'
    unfold zab zcs at h
    split at h
    ·rename_i b hb
     rw [zlt hF hg hd' hb]
     unfold aIf at h
     split at h
     ·rename_i hw
      rw [if_pos hw]
      exact go K' hK' h
     ·rename_i hw
      rw [if_neg hw]
      exact skip K' hK' h
    ·rename_i hb
     rw [zq0 hF hg hd' hb, if_neg (by simp)]
     exact skip K' hK' h
    ·exact h.elim
   ·exact h.elim


theorem zuC {o : Oper} {F F' : List AV} {K : AV → zaa → Prop} (h : ∀ x ∈ o.op.operands, ev F x = ev F' x) : zbw P o F H K = zbw P o F' H K := by
 obtain ⟨dst, op, type, pos, after, guard⟩ := o
 have pairs : ∀ ps : Array (Nat × Operand), (∀ x ∈ ps.toList.map (·.2), ev F x = ev F' x) → (ps.toList.map fun p => (p.1, ev F p.2)) = (ps.toList.map fun p => (p.1, ev F' p.2)) := fun ps hp =>
  List.map_congr_left fun p hm => by rw [hp p.2 (List.mem_map.2 ⟨p, hm, rfl⟩)]
 cases op <;> simp only [Op.operands] at h <;> simp only [zbw]
 case build t ps => rw [pairs ps (by simpa using h)]
 case buildSlice t n ps => rw [pairs ps (by simpa using h)]
 case makeFunc fn first caps =>
  cases fn <;> simp only []
  rw [List.map_congr_left (l := caps.toList) (fun x hx => h x (Array.mem_append.2 (.inr (by simpa using hx))))]
 case slice t x lo hi mx =>
  cases mx <;> simp only []
  have hx := h x (by simp)
  have hlo : lo.map (ev F) = lo.map (ev F') := by cases lo <;> simp_all
  have hhi : hi.map (ev F) = hi.map (ev F') := by cases hi <;> simp_all
  rw [hx, hlo, hhi]
 case call c =>
  cases hc : c.callee with
  | value f =>
   have hf := h f (by simp [Call.operands, hc])
   have ha : c.args.toList.map (ev F) = c.args.toList.map (ev F') := List.map_congr_left fun x hx => h x (by simp [Call.operands, hc]; exact .inr (by simpa using hx))
   simp only [hf, ha]
  | builtin b =>
   have ha : ∀ x ∈ c.args.toList, ev F x = ev F' x := fun x hx => h x (by simp [Call.operands, hc]; simpa using hx)
   cases b <;> simp only [zdk]
   all_goals
    split
    ·rename_i hargs _
     rw [hargs] at ha
     simp only [List.mem_cons, List.not_mem_nil, or_false, forall_eq_or_imp, forall_eq] at ha
     simp only [ha]
    ·rfl
  | invoke r m => rfl
 all_goals (first | rfl | (simp_all; done))

theorem zuF {o : Oper} {F F' : List AV} {K : AV → zaa → Prop} (h : ∀ x ∈ o.op.operands, ev F x = ev F' x) : zdn P o.op F H K = zdn P o.op F' H K := by
 obtain ⟨dst, op, type, pos, after, guard⟩ := o
 cases op <;> simp only [Op.operands] at h <;> simp only [zdn]
 all_goals (first | rfl | (simp_all; done))
theorem zjW {o : Oper} {F F' : List AV} {K : AV → zaa → Prop} (h : ∀ x ∈ o.op.operands, ev F x = ev F' x) : aop P o F H K = aop P o F' H K := by
 unfold aop
 rw [zuF h, zuC h]
theorem zuE {o : Oper} {F F' : List AV} {K : AV → zaa → Prop} (h : ∀ x ∈ o.op.operands, ev F x = ev F' x) : zaT fl P o F H K = zaT fl P o F' H K := by
 unfold zaT
 split
 ·rename_i t a hop
  rw [h a (by rw [hop]; simp [Op.operands])]
 ·exact zjW h
theorem zuD {o : Oper} {F : List AV} {K : AV → zaa → Prop} (h : zaT fl P o F H K) : aop P o F H K := by
 obtain ⟨dst, op, type, pos, after, guard⟩ := o
 unfold zaT at h
 cases op <;> (try simp only [] at h) <;> (try exact h)
 simp only [aop, isM, zbw]
 split at h
 ·rename_i g n hg hn
  cases fl with
  | true => exact h
  | false =>
   unfold zjS zan at h
   simp only [] at h
   split at h
   ·exact h.elim
   ·exact h
 ·exact h.elim

theorem zpM {o : Oper} (ho : opF o.op = true) {F : List AV} {r : AV} {H H' : zaa} (h : zaT fl P o F H fun v H2 => v = r ∧ H2 = H) : zaT fl P o F H' fun v H2 => v = r ∧ H2 = H' := by
 obtain ⟨dst, op, type, pos, after, guard⟩ := o
 cases op <;> simp only [opF, Bool.false_eq_true] at ho <;> simp only [zaT, aop, isM, zbw, and_true] at h ⊢
 all_goals first
  | exact h
  | skip
 case call c =>
  cases hc : c.callee with
  | value f => simp [hc] at ho
  | invoke r m => simp [hc] at ho
  | builtin b =>
   cases b <;> simp [hc] at ho
   simpa [hc, zdk] using h
 case makeFunc fn first caps =>
  cases fn <;> simp only [] at h ⊢ <;> try exact h
 case slice t x lo hi mx =>
  cases mx <;> simp only [] at h ⊢ <;> exact h

theorem zvO {o : Oper} (ho : opW .n o.op = true) {F : List AV} {H : zaa} {K : AV → zaa → Prop} (h : zaT fl P o F H K) : ∃ v H', (zaT fl P o F H fun v2 H2 => v2 = v ∧ H2 = H') ∧ K v H' := by
 obtain ⟨dst, op, type, pos, after, guard⟩ := o
 cases op <;> simp only [opW, Bool.false_eq_true] at ho <;> simp only [zaT, aop, isM, zbw, zdn] at h ⊢
 case alloc t =>
  split at h
  ·exact ⟨_, _, ⟨rfl, rfl⟩, h⟩
  ·exact h.elim
 case box t x =>
  unfold zaq at h ⊢
  split at h
  ·exact ⟨_, _, ⟨rfl, rfl⟩, h⟩
  ·exact h.elim
 case store t x y =>
  split at h
  ·simp only [zdm] at h ⊢
   split at h
   ·split at h
    ·exact ⟨_, _, ⟨h.1, rfl, rfl⟩, h.2⟩
    ·exact h.elim
   ·split at h
    ·exact ⟨_, _, ⟨h.1, rfl, rfl⟩, h.2⟩
    ·exact h.elim
   ·exact h.elim
  ·exact h.elim
 case makeSlice t l c =>
  split at h
  ·split at h
   ·unfold zbo at h ⊢
    split at h
    ·exact ⟨_, _, ⟨h.1, rfl, rfl⟩, h.2⟩
    ·exact h.elim
   ·exact h.elim
  ·exact h.elim
 case makeMap t r =>
  split at h
  ·exact ⟨_, _, ⟨rfl, rfl⟩, h⟩
  ·exact h.elim
 case mapUpdate t m k x =>
  split at h
  ·unfold zci at h ⊢
   split at h
   ·split at h
    ·split at h
     ·exact h.elim
     ·exact ⟨_, _, ⟨rfl, rfl⟩, h⟩
    ·exact h.elim
   ·exact h.elim
  ·exact h.elim
 case insert t m k x =>
  split at h
  ·unfold zci at h ⊢
   split at h
   ·split at h
    ·split at h
     ·exact h.elim
     ·exact ⟨_, _, ⟨rfl, rfl⟩, h⟩
    ·exact h.elim
   ·exact h.elim
  ·exact h.elim
 case call c =>
  cases hc : c.callee with
  | value f => simp [hc, WM.on] at ho
  | invoke r m => simp [hc] at ho
  | builtin b =>
   cases b <;> simp [hc] at ho
   simp only [hc, zdk] at h ⊢
   split at h
   ·split at h
    ·split at h
     ·obtain ⟨r, H', k1, k2⟩ := zuo h
      exact ⟨r, H', k1, k2⟩
     ·exact h.elim
    ·exact h.elim
   ·exact h.elim

def TrOK (fl : Bool) (P : Program) (ops : Array Oper) (H : zaa) (F : List AV) (o : Oper) (r : AV) (H' : zaa) : Prop :=
 match o.guard with
 | none => zaT fl P o F H fun v H2 => v = r ∧ H2 = H'
 | some (j, want) => ∃ d, (ops[j]?).bind (·.dst) = some d ∧
   ((∃ b, F.getD d .unk = .bool b ∧ (b == want) = true ∧ zaT fl P o F H fun v H2 => v = r ∧ H2 = H') ∨
    (∃ b, F.getD d .unk = .bool b ∧ (b == want) = false ∧ r = .tup [] ∧ H' = H) ∨ (F.getD d .unk = .tup [] ∧ r = .tup [] ∧ H' = H))

theorem TrOK.congr {ops : Array Oper} {F F' : List AV} {o : Oper} {r : AV} {H' : zaa} (h : ∀ s ∈ zcF ops o, F.getD s .unk = F'.getD s .unk) (ht : TrOK fl P ops H F o r H') : TrOK fl P ops H F' o r H' := by
 have hev : ∀ x ∈ o.op.operands, ev F x = ev F' x := fun x hx => by
  cases x with
  | tmp t => exact h t (by simp only [zcF, List.mem_append, List.mem_filterMap]; exact .inl ⟨.tmp t, by simpa using hx, rfl⟩)
  | _ => rfl
 have hop : (zaT fl P o F H fun v H2 => v = r ∧ H2 = H') = zaT fl P o F' H fun v H2 => v = r ∧ H2 = H' := zuE hev
 unfold TrOK at *
 split at ht
 ·rw [← hop]; exact ht
 ·rename_i j want hg
  obtain ⟨d, hd, ht⟩ := ht
  have hs := h d (by simp [zcF, hg, hd])
  refine ⟨d, hd, ?_⟩
  rw [← hs, ← hop]
  exact ht

theorem TrOK.free {ops : Array Oper} {F : List AV} {o : Oper} {r : AV} {H H' : zaa} (ho : opF o.op = true) (ht : TrOK fl P ops H F o r H) : TrOK fl P ops H' F o r H' := by
 unfold TrOK at *
 split at ht
 ·exact zpM ho ht
 ·obtain ⟨d, hd, ht⟩ := ht
  refine ⟨d, hd, ?_⟩
  rcases ht with ⟨b, h1, h2, h3⟩ | ⟨b, h1, h2, h3, _⟩ | ⟨h1, h2, _⟩
  ·exact .inl ⟨b, h1, h2, zpM ho h3⟩
  ·exact .inr (.inl ⟨b, h1, h2, h3, rfl⟩)
  ·exact .inr (.inr ⟨h1, h2, rfl⟩)

inductive TrL (fl : Bool) (wc : WM) (P : Program) (ops : Array Oper) : List Oper → List AV → zaa → List AV → List zaa → List AV → zaa → Prop
 | nil (F : List AV) (H : zaa) : TrL fl wc P ops [] F H [] [] F H
 | cons {o : Oper} {os : List Oper} {F rs Fn : List AV} {r : AV} {H H' Hn : zaa} {hs : List zaa} (h : TrOK fl P ops H F o r H') (hw : opW wc o.op = false → H' = H) (hx : opC wc o.op = true → ∀ J, TrOK fl P ops (H ++ J) F o r (H ++ J)) (hgr : opG wc o.op = true → GrowA H H') (t : TrL fl wc P ops os (zaR F o.dst r) H' rs hs Fn Hn) : TrL fl wc P ops (o :: os) F H (r :: rs) (H' :: hs) Fn Hn

theorem zoY {o : Oper} {gr : Bool} (ho : opW wc o.op = true) (hg : wc = .n → gr = false) {F : List AV} {H : zaa} {K : AV → zaa → Prop} (h : zjR wc gr H (zaT fl P o F H) K) : ∃ v H', (zaT fl P o F H fun v2 H2 => v2 = v ∧ H2 = H') ∧ (gr = true → GrowA H H') ∧ K v H' := by
 cases wc with
 | n =>
  obtain ⟨v, H', h1, h2⟩ := zvO ho h
  exact ⟨v, H', h1, (fun h => by rw [hg rfl] at h; cases h), h2⟩
 | w => exact h
 | g => exact h
 | c => exact h
theorem zpN (op : Op) : opG .n op = false := by
 cases op <;> try rfl
 rename_i c
 cases hc : c.callee <;> simp [opG, hc, WM.gr]
theorem zvK {op : Op} (h : opW wc op = false) : opG wc op = false := by
 cases op <;> try rfl
 rename_i c
 cases hc : c.callee with
 | value f => cases wc <;> simp [opW, opG, hc, WM.on, WM.gr] at h ⊢
 | builtin b => simp [opG, hc]
 | invoke r m => simp [opG, hc]
theorem zvJ {op : Op} (h : opC wc op = true) : opW wc op = false := by
 cases op <;> simp only [opC, Bool.false_eq_true] at h
 rename_i c
 cases hc : c.callee with
 | value f => simpa [opW, hc] using h
 | builtin b => simp [hc] at h
 | invoke r m => simp [hc] at h
theorem zce {ops : Array Oper} {K : List AV → zaa → Prop} : ∀ (l : List Oper) (F : List AV) (H : zaa), zb3 fl wc P ops l K F H → ∃ rs hs Fn Hn, TrL fl wc P ops l F H rs hs Fn Hn ∧ K Fn Hn
 | [], F, H, h => ⟨[], [], F, H, .nil F H, h⟩
 | o :: l, F, H, h => by
  unfold zb3 at h
  have noC : ∀ {p : Prop}, opC wc o.op = false → opC wc o.op = true → p := fun h1 h2 => by rw [h1] at h2; cases h2
  have noG : ∀ {p : Prop}, opW wc o.op = false → opG wc o.op = true → p := fun h1 h2 => by rw [zvK h1] at h2; cases h2
  have noW : ∀ {p : Prop}, opW wc o.op = true → opC wc o.op = true → p := fun h1 h2 => by rw [zvJ h2] at h1; cases h1
  split at h
  ·rename_i hg
   split at h
   ·rename_i hw
    split at h
    ·rename_i hc
     obtain ⟨r, h1, h2⟩ := h
     obtain ⟨rs, hs, Fn, Hn, h3, h4⟩ := zce l _ _ h2
     exact ⟨r :: rs, H :: hs, Fn, Hn, .cons (by unfold TrOK; rw [hg]; exact h1) (fun _ => rfl) (noC hc) (noG hw) h3, h4⟩
    ·rename_i hc
     obtain ⟨r, h1, h2⟩ := h
     obtain ⟨rs, hs, Fn, Hn, h3, h4⟩ := zce l _ _ h2
     have hx : ∀ J, TrOK fl P ops (H ++ J) F o r (H ++ J) := fun J => by unfold TrOK; rw [hg]; exact h1 J
     exact ⟨r :: rs, H :: hs, Fn, Hn, .cons (by have := hx []; rwa [List.append_nil] at this) (fun _ => rfl) (fun _ => hx) (noG hw) h3, h4⟩
   ·rename_i hw
    obtain ⟨r, H', h1, hgr, h2⟩ := zoY hw (fun e => by rw [e]; exact zpN _) h
    obtain ⟨rs, hs, Fn, Hn, h3, h4⟩ := zce l _ _ h2
    exact ⟨r :: rs, H' :: hs, Fn, Hn, .cons (by unfold TrOK; rw [hg]; exact h1) (fun h0 => by rw [hw] at h0; cases h0) (noW hw) hgr h3, h4⟩
  ·rename_i j want hg
   split at h
   ·rename_i d hd
    have yes : ∀ b, F.getD d .unk = .bool b → (b == want) = true → ∀ {H1 H2 : zaa} {r : AV}, (zaT fl P o F H1 fun v H3 => v = r ∧ H3 = H2) → TrOK fl P ops H1 F o r H2 := fun b hb hwb _ _ _ h1 => by
     unfold TrOK; rw [hg]; exact ⟨d, hd, .inl ⟨b, hb, hwb, h1⟩⟩
    have no : ∀ b, F.getD d .unk = .bool b → (b == want) = false → ∀ H1 : zaa, TrOK fl P ops H1 F o (.tup []) H1 := fun b hb hwb H1 => by
     unfold TrOK; rw [hg]; exact ⟨d, hd, .inr (.inl ⟨b, hb, hwb, rfl, rfl⟩)⟩
    have nil : F.getD d .unk = .tup [] → ∀ H1 : zaa, TrOK fl P ops H1 F o (.tup []) H1 := fun hb H1 => by
     unfold TrOK; rw [hg]; exact ⟨d, hd, .inr (.inr ⟨hb, rfl, rfl⟩)⟩
    split at h
    ·rename_i hw
     split at h
     ·rename_i hc
      unfold zab zcs at h
      split at h
      ·rename_i b hb
       unfold aIf at h
       split at h
       ·rename_i hwb
        obtain ⟨r, h1, h2⟩ := h
        obtain ⟨rs, hs, Fn, Hn, h3, h4⟩ := zce l _ _ h2
        exact ⟨r :: rs, H :: hs, Fn, Hn, .cons (yes b hb hwb h1) (fun _ => rfl) (noC hc) (noG hw) h3, h4⟩
       ·rename_i hwb
        obtain ⟨rs, hs, Fn, Hn, h3, h4⟩ := zce l _ _ h
        exact ⟨.tup [] :: rs, H :: hs, Fn, Hn, .cons (no b hb (by simpa using hwb) H) (fun _ => rfl) (noC hc) (noG hw) h3, h4⟩
      ·rename_i hb
       obtain ⟨rs, hs, Fn, Hn, h3, h4⟩ := zce l _ _ h
       exact ⟨.tup [] :: rs, H :: hs, Fn, Hn, .cons (nil hb H) (fun _ => rfl) (noC hc) (noG hw) h3, h4⟩
      ·exact h.elim
     ·rename_i hc
      unfold zab zcs at h
      split at h
      ·rename_i b hb
       unfold aIf at h
       split at h
       ·rename_i hwb
        obtain ⟨r, h1, h2⟩ := h
        obtain ⟨rs, hs, Fn, Hn, h3, h4⟩ := zce l _ _ h2
        have hx : ∀ J, TrOK fl P ops (H ++ J) F o r (H ++ J) := fun J => yes b hb hwb (h1 J)
        exact ⟨r :: rs, H :: hs, Fn, Hn, .cons (by have := hx []; rwa [List.append_nil] at this) (fun _ => rfl) (fun _ => hx) (noG hw) h3, h4⟩
       ·rename_i hwb
        obtain ⟨rs, hs, Fn, Hn, h3, h4⟩ := zce l _ _ h
        exact ⟨.tup [] :: rs, H :: hs, Fn, Hn, .cons (no b hb (by simpa using hwb) H) (fun _ => rfl) (fun _ J => no b hb (by simpa using hwb) _) (noG hw) h3, h4⟩
      ·rename_i hb
       obtain ⟨rs, hs, Fn, Hn, h3, h4⟩ := zce l _ _ h
       exact ⟨.tup [] :: rs, H :: hs, Fn, Hn, .cons (nil hb H) (fun _ => rfl) (fun _ J => nil hb _) (noG hw) h3, h4⟩
      ·exact h.elim
    ·rename_i hw
     unfold zab zcs at h
     split at h
     ·rename_i b hb
      unfold aIf at h
      split at h
      ·rename_i hwb
       obtain ⟨r, H', h1, hgr, h2⟩ := zoY hw (fun e => by rw [e]; exact zpN _) h
       obtain ⟨rs, hs, Fn, Hn, h3, h4⟩ := zce l _ _ h2
       exact ⟨r :: rs, H' :: hs, Fn, Hn, .cons (yes b hb hwb h1) (fun h0 => by rw [hw] at h0; cases h0) (noW hw) hgr h3, h4⟩
      ·rename_i hwb
       obtain ⟨rs, hs, Fn, Hn, h3, h4⟩ := zce l _ _ h
       exact ⟨.tup [] :: rs, H :: hs, Fn, Hn, .cons (no b hb (by simpa using hwb) H) (fun _ => rfl) (noW hw) (fun _ => .inl rfl) h3, h4⟩
     ·rename_i hb
      obtain ⟨rs, hs, Fn, Hn, h3, h4⟩ := zce l _ _ h
      exact ⟨.tup [] :: rs, H :: hs, Fn, Hn, .cons (nil hb H) (fun _ => rfl) (noW hw) (fun _ => .inl rfl) h3, h4⟩
     ·exact h.elim
   ·exact h.elim

def frk : List Oper → List AV → List AV → Nat → List AV
 | _, _, F, 0 => F
 | o :: os, r :: rs, F, i + 1 => frk os rs (zaR F o.dst r) i
 | _, _, F, _ => F
def hpk : List zaa → zaa → Nat → zaa
 | _, H, 0 => H
 | h :: hs, _, i + 1 => hpk hs h i
 | [], H, _ => H

theorem TrL.at {ops : Array Oper} {l : List Oper} {F rs Fn : List AV} {H Hn : zaa} {hs : List zaa} (h : TrL fl wc P ops l F H rs hs Fn Hn) : rs.length = l.length ∧ frk l rs F l.length = Fn ∧ hpk hs H l.length = Hn ∧
  ∀ (i : Nat) o, l[i]? = some o → ∃ r, rs[i]? = some r ∧ TrOK fl P ops (hpk hs H i) (frk l rs F i) o r (hpk hs H (i + 1)) ∧ frk l rs F (i + 1) = zaR (frk l rs F i) o.dst r ∧ (opW wc o.op = false → hpk hs H (i + 1) = hpk hs H i) ∧ (opC wc o.op = true → ∀ J, TrOK fl P ops (hpk hs H i ++ J) (frk l rs F i) o r (hpk hs H i ++ J)) ∧ (opG wc o.op = true → GrowA (hpk hs H i) (hpk hs H (i + 1))) := by
 induction h with
 | nil F H => exact ⟨rfl, rfl, rfl, fun i o h => by simp at h⟩
 | cons h hw hx hgr t ih =>
  obtain ⟨h1, h2, h2', h3⟩ := ih
  refine ⟨by simp [h1], by simpa [frk] using h2, by simpa [hpk] using h2', fun i o' ho => ?_⟩
  cases i with
  | zero =>
   simp at ho
   subst ho
   rename_i os F rs Fn r H H' Hn hs
   have e1 : hpk (H' :: hs) H 1 = H' := by cases hs <;> rfl
   refine ⟨_, rfl, ?_, by simp [frk], fun h0 => ?_, fun h0 => hx h0, fun h0 => ?_⟩
   ·rw [Nat.zero_add, e1]; exact h
   ·rw [Nat.zero_add, e1]; exact hw h0
   ·rw [Nat.zero_add, e1]; exact hgr h0
  | succ i =>
   obtain ⟨r, h4, h5, h6, h7, h8, h9⟩ := h3 i o' (by simpa using ho)
   exact ⟨r, by simpa using h4, by simpa [hpk, frk] using h5, by simpa [frk] using h6, by simpa [hpk] using h7, by simpa [hpk, frk] using h8, by simpa [hpk] using h9⟩

def Grow (H H' : zaa) : Prop := H' = H ∨ (∃ x, H' = H ++ [x]) ∨ ∃ (id : Nat) (a b : AB), H[id]? = some a ∧ (∀ cs, a ≠ .cells cs) ∧ H' = H.set id b
theorem zok {e s b : Nat} {x r : AV} {ys : List (List AV)} {H H' : zaa} (h2 : zaI e s b x ys H fun v H2 => v = r ∧ H2 = H') : GrowA H H' := by
 unfold zaI at h2
 split at h2
 ·exact .inr (.inl ⟨_, _, _, h2.2.2.symm⟩)
 ·rename_i es id
  exact .inr (.inr (.inl ⟨id, e, s, es.length, _, h2.1, h2.2.2.2.symm⟩))
 ·split at h2
  ·rename_i hid
   obtain ⟨⟨⟨rfl, rfl, rfl⟩, _⟩, _, he⟩ := h2
   exact .inr (.inr (.inr (.inl ⟨_, _, _, _, _, _, _, hid, he.symm⟩)))
  ·exact h2.elim
 ·exact .inr (.inl ⟨_, _, _, h2.2.2.symm⟩)
 ·exact h2.elim
theorem zoh {e s b m : Nat} {x r : AV} {ds : List AV} {H H' : zaa} (h : zbV e s b x m ds H fun v H2 => v = r ∧ H2 = H') : GrowA H H' := by
 unfold zbV at h
 split at h
 ·split at h
  ·rename_i hid
   obtain ⟨⟨⟨rfl, rfl, rfl⟩, _⟩, _, he⟩ := h
   exact .inr (.inr (.inr (.inl ⟨_, _, _, _, _, _, _, hid, he.symm⟩)))
  ·exact h.elim
 ·split at h
  ·exact .inl h.2.symm
  ·exact .inr (.inr (.inr (.inr ⟨_, _, _, _, h.2.2.symm⟩)))
 ·exact h.elim
theorem zup {e s b : Nat} {x y r : AV} {H H' : zaa} (h : zar e s b x y H fun v H2 => v = r ∧ H2 = H') : GrowA H H' := by
 unfold zar at h
 split at h
 ·split at h
  ·exact zoh h.2
  ·exact h.elim
 ·split at h
  ·exact zoh h.2
  ·exact h.elim
 ·unfold zaW at h
  split at h
  ·exact zok h.2
  ·exact zok h.2
  ·exact h.elim
theorem GrowA.grow {H H' : zaa} (h : GrowA H H') : Grow H H' := by
 rcases h with h | ⟨e, s, n, h⟩ | ⟨id, e, s, n, n', h1, h2⟩ | ⟨id, e, s, n, n', cs, cs', h1, h2⟩ | ⟨e, s, n, cs, h⟩
 ·exact .inl h
 ·exact .inr (.inl ⟨_, h⟩)
 ·exact .inr (.inr ⟨id, _, _, h1, (fun _ h => by cases h), h2⟩)
 ·exact .inr (.inr ⟨id, _, _, h1, (fun _ h => by cases h), h2⟩)
 ·exact .inr (.inl ⟨_, h⟩)
theorem Grow.cells {H H' : zaa} (h : Grow H H') {id : Nat} {cs : List AV} (hc : H[id]? = some (.cells cs)) : H'[id]? = some (.cells cs) := by
 have hlt : id < H.length := (List.getElem?_eq_some_iff.1 hc).1
 rcases h with rfl | ⟨x, rfl⟩ | ⟨id', a, b, h1, h2, rfl⟩
 ·exact hc
 ·rw [List.getElem?_append_left hlt]; exact hc
 ·by_cases he : id = id'
  ·subst he; rw [hc] at h1; cases h1; exact (h2 _ rfl).elim
  ·rw [List.getElem?_set_ne (fun h => he h.symm)]; exact hc
theorem GrowA.cells {H H' : zaa} (h : GrowA H H') {id : Nat} {cs : List AV} (hc : H'[id]? = some (.cells cs)) : H[id]? = some (.cells cs) := by
 rcases h with rfl | ⟨e, s, n, rfl⟩ | ⟨id', e, s, n, n', h1, rfl⟩ | ⟨id', e, s, n, n', cs1, cs2, h1, rfl⟩ | ⟨e, s, n, cs1, rfl⟩
 ·exact hc
 ·by_cases hlt : id < H.length
  ·rwa [List.getElem?_append_left hlt] at hc
  ·have hlt2 := (List.getElem?_eq_some_iff.1 hc).1
   simp at hlt2
   have : id = H.length := by omega
   subst this
   simp at hc
 ·by_cases he : id = id'
  ·subst he
   rw [List.getElem?_set_self (List.getElem?_eq_some_iff.1 h1).1] at hc
   cases hc
  ·rwa [List.getElem?_set_ne (fun h => he h.symm)] at hc
 ·by_cases he : id = id'
  ·subst he
   rw [List.getElem?_set_self (List.getElem?_eq_some_iff.1 h1).1] at hc
   cases hc
  ·rwa [List.getElem?_set_ne (fun h => he h.symm)] at hc
 ·by_cases hlt : id < H.length
  ·rwa [List.getElem?_append_left hlt] at hc
  ·have hlt2 := (List.getElem?_eq_some_iff.1 hc).1
   simp at hlt2
   have : id = H.length := by omega
   subst this
   simp at hc
theorem zpt {o : Oper} (hl : opL o.op = true) {F : List AV} {H H' : zaa} {r : AV} (he : fl = true → H' = H) (hc : ∀ (id : Nat) (cs : List AV), H[id]? = some (AB.cells cs) → H'[id]? = some (AB.cells cs)) (h : zaT fl P o F H fun v H2 => v = r ∧ H2 = H) : zaT fl P o F H' fun v H2 => v = r ∧ H2 = H' := by
 obtain ⟨dst, op, type, pos, after, guard⟩ := o
 cases op <;> simp only [opL, Bool.false_eq_true] at hl
 cases fl with
 | true => rw [he rfl]; exact h
 | false =>
 simp only [zaT, zjS, and_true] at h ⊢
 split at h
 ·unfold zan at h ⊢
  split at h
  ·exact h.elim
  rename_i hvp
  simp only [zeV] at h ⊢
  split at h
  ·split at h
   ·rename_i hcs
    rw [hc _ _ hcs]
    exact h
   ·exact h.elim
  ·exact h
  ·rename_i hev
   exact (hvp _ _ _ hev).elim
  ·exact h.elim
 ·exact h.elim
theorem TrOK.load {ops : Array Oper} {F : List AV} {o : Oper} {r : AV} {H H' : zaa} (hl : opL o.op = true) (he : fl = true → H' = H) (hc : ∀ (id : Nat) (cs : List AV), H[id]? = some (AB.cells cs) → H'[id]? = some (AB.cells cs)) (ht : TrOK fl P ops H F o r H) : TrOK fl P ops H' F o r H' := by
 unfold TrOK at *
 split at ht
 ·exact zpt hl he hc ht
 ·obtain ⟨d, hd, ht⟩ := ht
  refine ⟨d, hd, ?_⟩
  rcases ht with ⟨b, h1, h2, h3⟩ | ⟨b, h1, h2, h3, _⟩ | ⟨h1, h2, _⟩
  ·exact .inl ⟨b, h1, h2, zpt hl he hc h3⟩
  ·exact .inr (.inl ⟨b, h1, h2, h3, rfl⟩)
  ·exact .inr (.inr ⟨h1, h2, rfl⟩)
theorem zpk {o : Oper} (ho : opN o.op = true) {F : List AV} {H H' : zaa} {r : AV} (h : zaT fl P o F H fun v H2 => v = r ∧ H2 = H') : Grow H H' := by
 obtain ⟨dst, op, type, pos, after, guard⟩ := o
 cases op <;> simp only [opN, Bool.false_eq_true] at ho <;> simp only [zaT, aop, isM, zbw, zdn] at h
 case alloc t =>
  split at h
  ·exact .inr (.inl ⟨_, h.2.symm⟩)
  ·exact h.elim
 case box t x =>
  unfold zaq at h
  split at h
  ·exact .inr (.inl ⟨_, h.2.symm⟩)
  ·exact h.elim
 case makeSlice t l c =>
  split at h
  ·split at h
   ·unfold zbo at h
    split at h
    ·exact .inr (.inl ⟨_, h.2.2.symm⟩)
    ·exact h.elim
   ·exact h.elim
  ·exact h.elim
 case makeMap t r =>
  split at h
  ·exact .inr (.inl ⟨_, h.2.symm⟩)
  ·exact h.elim
theorem zpj {o : Oper} (ho : opA .n o.op = true) {F : List AV} {H H' : zaa} {r : AV} (h : zaT fl P o F H fun v H2 => v = r ∧ H2 = H') : GrowA H H' := by
 obtain ⟨dst, op, type, pos, after, guard⟩ := o
 cases op <;> simp only [opA, WM.gr, Bool.false_eq_true] at ho <;> simp only [zaT, aop, isM, zbw] at h
 rename_i c
 cases hc : c.callee with
 | value f => simp [hc] at ho
 | invoke r m => simp [hc] at ho
 | builtin b =>
  cases b <;> simp [hc] at ho
  simp only [hc, zdk] at h
  split at h
  ·split at h
   ·split at h
    ·exact zup h
    ·exact h.elim
   ·exact h.elim
  ·exact h.elim
theorem TrOK.growN {ops : Array Oper} {F : List AV} {o : Oper} {r : AV} {H H' : zaa} (ho : opN o.op = true) (ht : TrOK fl P ops H F o r H') : Grow H H' := by
 unfold TrOK at ht
 split at ht
 ·exact zpk ho ht
 ·obtain ⟨d, hd, ht⟩ := ht
  rcases ht with ⟨b, h1, h2, h3⟩ | ⟨b, h1, h2, h3, h4⟩ | ⟨h1, h2, h4⟩
  ·exact zpk ho h3
  ·exact .inl h4
  ·exact .inl h4
theorem TrOK.growA {ops : Array Oper} {F : List AV} {o : Oper} {r : AV} {H H' : zaa} (ho : opA .n o.op = true) (ht : TrOK fl P ops H F o r H') : GrowA H H' := by
 unfold TrOK at ht
 split at ht
 ·exact zpj ho ht
 ·obtain ⟨d, hd, ht⟩ := ht
  rcases ht with ⟨b, h1, h2, h3⟩ | ⟨b, h1, h2, h3, h4⟩ | ⟨h1, h2, h4⟩
  ·exact zpj ho h3
  ·exact .inl h4
  ·exact .inl h4

end Go.Abs
