import Derived.Test.YtddlhljflggenaaGreatDoorKE5
import Derived.Test.YtddlhljflggenaaGreatDoorKNum
import Derived.Test.YtddlhljflggenaaGreatDoorProg
import Derived.KernelRfl
import Derived.WalkKit
import Derived.BigCall
import Derived.Laws.Externs
import Derived.Laws.Entries
import Derived.Lib.Builder
import Derived.Lib.AppendStr
import Derived.Lib.UnsafeStr
import Derived.Test.YtddlhljflggenaaGreatDoorKL1
import Derived.RegionTactic
import Derived.Test.YtddlhljflggenaaGreatDoorKTW5
import Derived.Test.YtddlhljflggenaaGreatDoorKM6
import Derived.Test.YtddlhljflggenaaGreatDoorAbsZ
import Derived.Deep.Slices
import Derived.DataReads
set_option linter.unusedSimpArgs false
set_option linter.unusedVariables false
namespace Go.Proofs.YtddlhljflggenaaGreatDoor
open Go Go.Abs
set_option maxRecDepth 8000
theorem ztM {H : zaa} {x : AV} {n : Nat} (hn : n ≤ 1) (hl : ∀ k : AV → Prop, zah 1 x k = k (.int .i64 n)) (K : Kt) (hK : K (.tup []) H) : ACalls tP zgg [x] H K := by
 refine zvG fun hs => ?_
 simp only [zos]
 refine zvE (Inv := fun q t2 H' => t2 = .int .i64 1 ∧ H' = H) 1 (fun _ => ⟨rfl, rfl⟩) ?_
 rintro q t2 H' ⟨rfl, rfl⟩ _ _ _ Kb _
 have h1 : ¬ ((1 : Int) < (n : Int)) := by omega
 simp only [zjB, hl]
 simp [h1]
 simpa [zaw] using hK
theorem SlR.len {H : zaa} {lo : Nat} {x : AV} {l : List IT} (h : SlR H lo x l) (k : AV → Prop) : zah 1 x k = k (.int .i64 l.length) := by
 rcases h with ⟨rfl, rfl⟩ | ⟨_, rfl⟩ | ⟨b, _, rfl, _⟩ <;> simp [css_len]
theorem zz0 (l : List IT) : (l.flatMap IT.cs).all AV.known = true := by
 rw [List.all_flatMap, List.all_eq_true]
 intro x _
 obtain ⟨a, b, h, h1, h2⟩ := zbE x
 rw [h]; simp [h1, h2]
theorem zqK (H J : zaa) (out l : List IT) : (NV H out ++ J).set H.length (.vec zak 2 (out.length + l.length) (out.flatMap IT.cs ++ l.flatMap IT.cs)) = NV H (out ++ l) ++ J := by
 simp [NV, List.set_append_right]
theorem zBI {H J : zaa} {out l : List IT} {x : AV} (hsc : HSc (NV H out ++ J)) (hx : SlR (NV H out ++ J) (H.length + 1) x l) (hn : out.length + l.length ≤ 100000) (hnod : l.Nodup) (hnd : ∀ x ∈ l, x.nodes ≤ 1000000) (K : Kt) (hK : ∀ J', K (.ov H.length (out ++ zaW l).length) (NV H (out ++ zaW l) ++ J')) :
  ACalls tP zgg [x] (NV H out ++ J) fun _ H' => zat zak 2 32 (.ov H.length out.length) x H' K := by
 have hg := fun J => zqJ H J out
 have hsl : (zaW l).length = l.length := (zcl l).length_eq
 have hadd : ∀ J, zaE zak 2 32 (.ov H.length out.length) (IT.css l) (NV H out ++ J) K ↔ ((out.length + l.length) * 32 ≤ 140737488355328 ∧ out.length + l.length ≤ 9223372036854775807) ∧ K (.ov H.length (out.length + l.length)) (NV H (out ++ l) ++ J) := fun J => by
  simp only [zaE, hg, css_len, ← zlM, ← IT.css_map]
  rw [← zqK]
  simp [zlM, IT.css_map]
 rcases hx with ⟨rfl, rfl⟩ | ⟨h1, rfl⟩ | ⟨b, hb, rfl, hbg⟩
 ·refine ztM (n := 0) (by omega) (fun k => by simp) _ ?_
  have := hK J
  simp only [zat, zaI]
  refine ⟨by simp, ?_⟩
  have h2 := (hadd J).2 ⟨by simp at hn ⊢; omega, by simpa [zaW] using this⟩
  simpa [IT.css] using h2
 ·refine ztM (n := 1) (by omega) (fun k => by simp [css_len, h1]) _ ?_
  obtain ⟨v, rfl⟩ : ∃ v, l = [v] := by
   match l, h1 with
   | [v], _ => exact ⟨v, rfl⟩
  have := hK J
  simp only [zat, zaI]
  refine ⟨zfT, ?_⟩
  exact (hadd J).2 ⟨by simp at hn ⊢; omega, by simpa [zaW, zdQ] using this⟩
 ·refine zGa hbg hsc (by omega) hnod hnd _ ?_
  have hbl := (List.getElem?_eq_some_iff.1 hbg).1
  have hset : (NV H out ++ J).set b (.vec zak 2 l.length ((zaW l).flatMap IT.cs)) = NV H out ++ J.set (b - (NV H out).length) (.vec zak 2 l.length ((zaW l).flatMap IT.cs)) := by
   rw [List.set_append_right _ _ (by simpa using hb)]
  have hgb : ((NV H out ++ J).set b (.vec zak 2 l.length ((zaW l).flatMap IT.cs)))[b]? = some (.vec zak 2 l.length ((zaW l).flatMap IT.cs)) := List.getElem?_set_self hbl
  rw [hset] at hgb ⊢
  generalize J.set (b - (NV H out).length) (.vec zak 2 l.length ((zaW l).flatMap IT.cs)) = J2 at *
  simp only [zat, zcN, hgb, hg J2]
  refine ⟨by simp, ⟨by simp, zz0 _, by rw [zcs, hsl], by omega, by omega⟩, ?_⟩
  have := hK J2
  rw [← zqK, List.length_append, hsl] at this
  exact this
theorem zKf (data : List Dat) (hk : zaP data) (t : VT) (ht : t.nodes ≤ 1000) (d : Int) (H : zaa) (K : Kt) (hK : K (zb9 data t d) H) : ACalls tP zmx [.sl (data.map Dat.cs) .none, .agg t.cs, .int .i64 d] H K := by
 refine ACalls.out (zKd fun hs => ?_)
 obtain ⟨x, y, z, hvx, hx, hy, hz⟩ := zaX t
 simp [zq6, hvx, hx, hy, hz]
 rw [← hvx]
 refine zFT data hk t (by omega) _ _ ?_
 unfold zb9 at hK
 cases hf : zbm data t with
 | false =>
  rw [hf] at hK
  simp
  exact ⟨⟨rfl, rfl⟩, Out.tup hs hK ⟨zaC rfl rfl, zaC rfl rfl, trivial⟩⟩
 | true =>
  rw [hf, if_pos rfl] at hK
  simp
  by_cases h0 : d < 0
  ·rw [if_pos (.inl h0)] at hK
   simp [h0, zai]
   exact ⟨⟨rfl, rfl⟩, Out.tup hs hK ⟨zaC rfl rfl, zaC rfl rfl, trivial⟩⟩
  ·by_cases h6 : 6 < d
   ·rw [if_pos (.inr h6)] at hK
    simp [h0, h6, zai]
    exact ⟨⟨rfl, rfl⟩, Out.tup hs hK ⟨zaC rfl rfl, zaC rfl rfl, trivial⟩⟩
   ·rw [if_neg (by omega)] at hK
    simp [h0, h6, zai]
    simp only [zbm, Bool.and_eq_true] at hf
    have hG := zlO hf.1
    have hg : zaT data 0 t = true := hf.2
    obtain ⟨dn, rfl⟩ : ∃ n : Nat, d = n := ⟨d.toNat, by omega⟩
    simp only [Int.toNat_natCast] at hK
    have hd6 : dn ≤ 6 := by omega
    have hok := zdz (P := zan data) (nc := ncF data) (fun t c ps h => zc7 h) dn t (by omega)
    -- too many
    have hfail : WitV (zan data) dn t → ∀ J, Out H.length K (.tup [.snil, .int .i64 9]) (H ++ J) := fun hw J => by
     have hu : upF (zan data) (ncF data) dn t = none := by
      cases hu : upF (zan data) (ncF data) dn t with
      | none => rfl
      | some ls =>
       rw [hu] at hok
       have := znn hok.1 hw
       have := hok.2
       omega
     rw [hu] at hK
     exact Out.tup hs hK ⟨zaC rfl rfl, zaC rfl rfl, trivial⟩
    unfold zkG
    refine ALoop.vec 8 zak 2 rfl ?_
    generalize hH1 : H ++ [AB.cells t.cs] = H1
    have hs1 : HSc H1 := by rw [← hH1]; exact hs.append (by simp [AB.sc])
    have hid : H1[H.length]? = some (.cells t.cs) := by rw [← hH1]; simp
    have hidl := (List.getElem?_eq_some_iff.1 hid).1
    show zkG (.sl (data.map Dat.cs) .none) (.int .i64 dn) (.ptr H.length 0) (.ov H1.length 0) (.int .i64 0) (NV H1 []) (Out H.length K)
    refine zKb (Inv := fun q t8 t9 H' => ∃ (k : Nat) (ls : LL), k ≤ dn + 1 ∧ q = dn + 1 - k ∧ t9 = .int .i64 k ∧ Lst' (fun v => dV (zan data) v t) k ls ∧ zaq ls ≤ 500 ∧ t8 = .ov H1.length (zaB ls).length ∧ H' = NV H1 (zaB ls)) (dn + 1) ?_ ?_
    ·intro _; exact ⟨0, [], by omega, by omega, rfl, ⟨rfl, fun k hk => by omega⟩, by simp, rfl, rfl⟩
    ·rintro q t8 t9 H' ⟨k, ls, hk1, rfl, rfl, hls, ht5, rfl, rfl⟩ hsc hlen hsF Kb hKb
     by_cases hlt : k < dn + 1
     ·have hkd : (k : Int) ≤ dn := by omega
      have hid0 : (NV H1 (zaB ls))[H.length]? = some (.cells t.cs) := by rw [NV, List.getElem?_append_left hidl]; exact hid
      simp only [zp8]
      simp [hkd, hid0, hvx, hx, hy, hz]
      rw [← hvx]
      refine ACalls.mono' ((zA1 hk hG k (by omega)).1 t hg _ (fun r H2 => ∃ o, zk6 (zan data) k t o ∧ NV H1 (zaB ls) <+: H2 ∧ ExR H2 (NV H1 (zaB ls)).length r o) (fun o r H2 ho hp hr => ⟨o, ho, hp, hr⟩)) (fun r H2 hs2 hl2 hh => ?_)
      obtain ⟨o, ho, hp, hr⟩ := hh
      have hpx : ∀ Y, NV H1 (zaB ls) <+: Y → ∃ J, Y = H ++ J := fun Y ⟨J, hJ⟩ => ⟨[AB.cells t.cs] ++ ([AB.vec zak 2 (zaB ls).length ((zaB ls).flatMap IT.cs)] ++ J), by rw [← hJ, NV, ← hH1]; simp⟩
      cases o with
      | none =>
       obtain ⟨xx, _, rfl⟩ := hr
       obtain ⟨J, rfl⟩ := hpx _ hp
       have ho : WitV (zan data) k t := ho
       simp [zai]
       exact ⟨⟨rfl, rfl⟩, hfail (ho.mono (by omega)) _⟩
      | some l =>
       obtain ⟨hset, hl5⟩ := ho
       obtain ⟨xx, rfl, hsl⟩ := hr
       simp [hsl.len, zai]
       rw [zam (by omega) (by omega)]
       refine zfJ (fun hb => ?_) (fun hb => ?_)
       ·simp at hb
        obtain ⟨J, rfl⟩ := hpx _ hp
        exact ⟨⟨rfl, rfl⟩, hfail (zCH hls (by omega) hset (by omega)) _⟩
       ·simp at hb
        obtain ⟨J, rfl⟩ := hp
        have hnd : ∀ x ∈ l, x.nodes ≤ 1000000 := fun x hx => by
         have h3 := zfX (zip hk) x t k ((hset.mem x).1 hx)
         have : 8001 * k ≤ 8001 * 6 := Nat.mul_le_mul_left _ (by omega)
         omega
        rw [zeb] at hsl
        refine ACalls.monoZ (zBI (K := fun t48 HH => Kb (zhg (.sl (data.map Dat.cs) .none) (.int .i64 dn) (.ptr H.length 0) t48 (.int .i64 (IntKind.i64.wrap ((k : Int) + 1)))) HH) hs2 hsl (by simp; omega) hset.nodup hnd (fun J' => ?_)) (fun r H' h => ?_)
        ·rw [zam (by omega) (by omega), ← zsq]
         have hln : H.length < H1.length := by rw [← hH1]; simp
         refine hKb _ _ ⟨dn + 1 - (k + 1), by omega, Back.at (J := J') (H2 := NV H1 (zaB (ls ++ [l]))) rfl (by simp) (zeG hs1) ?_ ⟨_, _, rfl, k + 1, ls ++ [l], by omega, rfl, by simp, hls.snoc hset, by rw [zfe]; simp; omega, rfl, rfl⟩⟩
         simp only [zeb]
         simp [zhg, AV.sc, AV.scV, AV.scA, AV.scB]
         omega
        ·simpa using h
     ·obtain rfl : k = dn + 1 := by omega
      have hkd : ¬ ((dn : Int) + 1 ≤ dn) := by omega
      simp only [zp8]
      simp [hkd]
      have hl1 := hls.lst
      have hu : ∃ ls2, upF (zan data) (ncF data) dn t = some ls2 ∧ zaB ls2 = zaB ls := by
       cases hu : upF (zan data) (ncF data) dn t with
       | none =>
        rw [hu] at hok
        have := znn hl1 hok
        omega
       | some ls2 =>
        rw [hu] at hok
        exact ⟨ls2, rfl, zz8 hok.1 hl1⟩
      obtain ⟨ls2, hu1, hu2⟩ := hu
      rw [hu1, zf7, hu2] at hK
      rw [← zf6]
      refine ⟨⟨rfl, rfl⟩, .tup [.sl (IT.css (zaB ls)) .none, .int .i64 0], H, [AB.cells t.cs, AB.vec zak 2 (zaB ls).length ((zaB ls).flatMap IT.cs)], by rw [NV, ← hH1]; simp, Nat.le_refl _, hs, .tup ⟨?_, .wk (.atom (.refl _)) rfl rfl, trivial⟩, hK⟩
      show OutV (NV H1 (zaB ls)) H.length _ _
      refine .vfz H1.length zak 2 (zaB ls).length ((zaB ls).flatMap IT.cs) _ (by rw [← hH1]; simp) (by simp [NV]) ?_ (css_len _) zfT
      rw [IT.css_map]; exact zmL _
end Go.Proofs.YtddlhljflggenaaGreatDoor
namespace Go.Proofs.YtddlhljflggenaaGreatDoor
open Go Go.RowKit
set_option maxHeartbeats 1000000 in
set_option maxRecDepth 100000 in
theorem zzj (b : Nat) (w : World) (h0 : w.cell? ⟨b, 0, none⟩ = some (.pointer (some ⟨b, 0, none⟩))) :
  Calls tP zhO #[.pointer (some ⟨b, 0, none⟩)] w fun e w' => e = .returned (.tuple #[]) ∧ w' = w := by
 obtain ⟨j, hj⟩ : ∃ j, tP.info? 86 = some j := Option.isSome_iff_exists.1 (by kernel_rfl)
 go_enter Tryz.func108, Tryz.ntmps108
 go_wp2
 rw [Lib.run_neq_ptr_same w _ Tryz.underlying83 hj]
 go_wp2
 go_end0
 exact ⟨rfl, rfl⟩
set_option maxHeartbeats 1000000 in
set_option maxRecDepth 100000 in
theorem zzh (b : Nat) (w : World) (h0 : w.cell? ⟨b, 0, none⟩ = some (.pointer none)) (hsh : w.shape? b = some (86, 2)) (hfz : w.frozen? ⟨b, 0, none⟩ = false) :
  Calls tP zhO #[.pointer (some ⟨b, 0, none⟩)] w fun e w' => e = .returned (.tuple #[]) ∧ w' = w.setCell ⟨b, 0, none⟩ (.pointer (some ⟨b, 0, none⟩)) := by
 obtain ⟨j, hj⟩ : ∃ j, tP.info? 86 = some j := Option.isSome_iff_exists.1 (by kernel_rfl)
 have hjs : j.size = 2 := by
  have : (tP.info? 86).map (·.size) = some 2 := by kernel_rfl
  rw [hj] at this
  simpa using this
 go_enter Tryz.func108, Tryz.ntmps108
 go_wp2
 rw [Lib.run_to_unsafe w ⟨b, 0, none⟩ Tryz.underlying83 Tryz.underlying175 hj (by rw [hjs]; decide) hsh (Nat.zero_lt_succ 1)]
 simp only [Result.andThen]
 rw [Oper.upon_value]
 go_wp2
 rw [run_callFunc_extern Tryz.func133 (by kernel_rfl) (by kernel_rfl) (by kernel_rfl) (e := Extern.AbiNoEscape.same) (by kernel_rfl)]
 rw [Lib.run_noEscape]
 simp only [Result.andThen]
 rw [Oper.upon_value]
 go_wp2
 rw [Lib.run_from_unsafe w ⟨b, 0, none⟩ Tryz.underlying175 Tryz.underlying83 hj hsh (by kernel_rfl)]
 simp only [Result.andThen]
 rw [Oper.upon_value]
 go_wp2
 go_end0
 exact ⟨rfl, rfl⟩
end Go.Proofs.YtddlhljflggenaaGreatDoor
namespace Go.Proofs.YtddlhljflggenaaGreatDoor
open Go Go.RowKit
set_option maxHeartbeats 2000000 in
set_option maxRecDepth 100000 in
theorem zCM (b : Nat) (s : ByteArray) (v v' : Value) (w w1 w2 : World)
  (hcc : Calls tP zhO #[.pointer (some ⟨b, 0, none⟩)] w fun e w' => e = .returned (.tuple #[]) ∧ w' = w1)
  (hb1 : w1.heap[b]? = some (.cells #[.pointer (some ⟨b, 0, none⟩), v] 86 (0, 0)))
  (hr : ∀ ty, (Builtin.append_ #[84, 9] ty #[v, .string s]).run tP w1 = .ok v' w2)
  (hb2 : w2.heap[b]? = some (.cells #[.pointer (some ⟨b, 0, none⟩), v] 86 (0, 0))) (hv' : ∃ ao n cap, v' = .slice ao n cap) :
  Calls tP zgr #[.pointer (some ⟨b, 0, none⟩), .string s] w fun e w' => e = .returned (.tuple #[.int .i64 s.size, .nilIface]) ∧ w' = w2.setCell ⟨b, 1, none⟩ v' := by
 obtain ⟨ao, n', cap, rfl⟩ := hv'
 have c1 : w1.cell? ⟨b, 1, none⟩ = some v := by rw [Lib.cell_of_heap hb1]; rfl
 have d1 : w2.cell? ⟨b, 1, none⟩ = some v := by rw [Lib.cell_of_heap hb2]; rfl
 have f1 : w2.frozen? ⟨b, 1, none⟩ = false := Lib.frozen_of_heap hb2 1
 go_enter Tryz.func84, Tryz.ntmps84
 go_wp2_with (go_at_call 108; refine hcc.mono ?_)
 rintro e w1' ⟨rfl, rfl⟩
 go_wp2_with (at_builtin; refine Go.Abs.wpList_append_str rfl _ _ 84 9 rfl rfl rfl hr ?_)
 go_wp2
 go_ret2
 exact ⟨rfl, rfl⟩
end Go.Proofs.YtddlhljflggenaaGreatDoor
namespace Go.Proofs.YtddlhljflggenaaGreatDoor
open Go Go.RowKit Go.Abs
theorem zyY : ∃ i, tP.info? 5 = some i ∧ i.zero = some (.int .u8 0) ∧ i.size = 1 ∧ i.bytes = 1 := by
 obtain ⟨i, hi⟩ : ∃ i, tP.info? 5 = some i := Option.isSome_iff_exists.1 (by kernel_rfl)
 have h1 : (tP.info? 5).map (·.size) = some 1 := by kernel_rfl
 have h2 : (tP.info? 5).map (·.bytes) = some 1 := by kernel_rfl
 have h3 : (tP.info? 5).bind (·.zero) = some (.int .u8 0) := by kernel_rfl
 rw [hi] at h1 h2 h3
 exact ⟨i, hi, by simpa using h3, by simpa using h1, by simpa using h2⟩
theorem zzi {B : Nat} {w : World} {G : Gh} {H : zaa} (hH : HRel B w G H) {id b : Nat} {p c : AV} (hp : p = .nilp ∨ p = .ptr id 0) (h1 : H[id]? = some (.bld 86 [p, c])) (hμ : G.μ[id]? = some (.blk b)) :
  ∃ w1 v, Calls tP zhO #[.pointer (some ⟨b, 0, none⟩)] w (fun e w' => e = .returned (.tuple #[]) ∧ w' = w1) ∧ Ext B w G w1 G ∧ HRel B w1 G (H.set id (.bld 86 [.ptr id 0, c])) ∧
   w1.heap[b]? = some (.cells #[.pointer (some ⟨b, 0, none⟩), v] 86 (0, 0)) ∧ ARel w1 G v c := by
 obtain ⟨hB, hL, ⟨vs⟩, hw, hc⟩ := hH.ok id _ _ h1 hμ
 match vs, hc with
 | [vp, v], ⟨hvp, hv, _⟩ =>
  have hvp' : vp = .pointer none ∨ vp = .pointer (some ⟨b, 0, none⟩) := by
   rcases hp with rfl | rfl
   ·exact .inl hvp
   ·obtain ⟨b', k1, k2⟩ := hvp
    rw [hμ] at k1
    cases k1
    exact .inr k2
  have hstep := hH.storeB (cs' := [.ptr id 0, c]) (vs' := #[.pointer (some ⟨b, 0, none⟩), v]) h1 hμ hw ⟨⟨b, hμ, rfl⟩, hv, trivial⟩
  rcases hvp' with rfl | rfl
  ·refine ⟨_, v, ?_, hstep.1, hstep.2, setRow_heap w b _ _ _ _ hw, hstep.1.arel hv⟩
   refine (zzh b w (by rw [Lib.cell_of_heap hw]; rfl) (by simp [World.shape?, hw]) (Lib.frozen_of_heap hw 0)).mono ?_
   rintro e w' ⟨rfl, rfl⟩
   refine ⟨rfl, ?_⟩
   rw [setCell_eq_setRow w b 0 _ _ _ _ hw]
   rfl
  ·refine ⟨w, v, zzj b w (by rw [Lib.cell_of_heap hw]; rfl), Ext.refl _ _ _, ?_, hw, hv⟩
   refine hH.reCellB h1 fun us hus => ?_
   match us, hus with
   | [u1, u2], ⟨k1, k2⟩ =>
    refine ⟨?_, k2⟩
    rcases hp with rfl | rfl
    ·cases hvp
    ·exact k1
theorem zyq {H : zaa} {id id2 : Nat} {l s : List UInt8} {p : AV} (hp : p = .nilp ∨ p = .ptr id 0) (h1 : H[id]? = some (.bld 86 [p, .sl (bcs l) (.own id2)])) (h2 : H[id2]? = some (.perm 5 1 l.length))
  (hn : l.length + s.length ≤ 140737488355328) {K : AV → zaa → Prop}
  (hK : K (.tup [.int .i64 s.length, .nili]) ((H.set id2 (.perm 5 1 (l.length + s.length))).set id (.bld 86 [.ptr id 0, .sl (bcs (l ++ s)) (.own id2)]))) :
  ACalls tP zgr [.ptr id 0, .str s] H K := by
 intro B w G ⟨vs⟩ hH hv
 match vs, hv with
 | [v0, v1], ⟨⟨b, hμ, hv0⟩, hv1, _⟩ =>
  have hv1 : v1 = .string ⟨s.toArray⟩ := hv1
  subst hv0 hv1
  obtain ⟨w1, v, hcc, hE1, hH1, hw1, hva⟩ := zzi hH hp h1 hμ
  obtain ⟨hd, v', size, n', hμ2, hle, heq⟩ := hva
  have hne : id ≠ id2 := by
   rintro rfl
   rw [h1] at h2
   cases h2
  have h21 : (H.set id (.bld 86 [.ptr id 0, .sl (bcs l) (.own id2)]))[id2]? = some (.perm 5 1 l.length) := by rw [List.getElem?_set_ne hne]; exact h2
  have hok := hH1.ok id2 _ _ h21 hμ2
  obtain ⟨hs1, hn1, ⟨xs, hown⟩, hL2⟩ := hok
  subst hs1 hn1
  obtain ⟨rfl, hall⟩ := heq (zeM l)
  have hbne : v.ownBlock ≠ some b := fun h => hne (hH1.dist id id2 _ _ b hμ hμ2 rfl h)
  have hblt : b < w1.heap.size := hH1.lt id _ b hμ rfl
  obtain ⟨i, hi, hz, hsz, hby⟩ := zyY
  have hmx : maxLen = 9223372036854775807 := rfl
  have key : ∃ v' w2 G2, (∀ ty, (Builtin.append_ #[84, 9] ty #[v, .string ⟨s.toArray⟩]).run tP w1 = .ok v' w2) ∧ Ext B w1 G w2 G2 ∧
    HRel B w2 G2 ((H.set id (.bld 86 [.ptr id 0, .sl (bcs l) (.own id2)])).set id2 (.perm 5 1 (l.length + s.length))) ∧ ARel w2 G2 v' (.sl (bcs (l ++ s)) (.own id2)) ∧ w2.heap[b]? = w1.heap[b]? := by
   by_cases hs : s = []
   ·subst hs
    refine ⟨v, w1, G, fun ty => zAK Tryz.underlying84 Tryz.underlying9 hi hsz hown _ rfl, Ext.refl _ _ _, ?_, ?_, rfl⟩
    ·have : (H.set id (.bld 86 [.ptr id 0, .sl (bcs l) (.own id2)])).set id2 (.perm 5 1 (l.length + ([] : List UInt8).length)) = H.set id (.bld 86 [.ptr id 0, .sl (bcs l) (.own id2)]) := by
      apply List.ext_getElem?
      intro k
      by_cases hk : k = id2
      ·subst hk; rw [List.getElem?_set_self (List.getElem?_eq_some_iff.1 h21).1, h21]; rfl
      ·rw [List.getElem?_set_ne (fun h => hk h.symm)]
     rw [this]
     exact hH1
    ·rw [List.append_nil]
     exact ⟨hd, v, 1, _, hμ2, hle, heq⟩
   ·have hpos : 0 < s.length := List.length_pos_iff.2 hs
    obtain ⟨v', w2, hrun, hown', hcase⟩ := zAJ (P := tP) (ty := 84) (B := B) Tryz.underlying84 Tryz.underlying9 hi hz hsz hby hown ⟨s.toArray⟩ (by simpa [ByteArray.size] using hpos) (by simp [ByteArray.size]; omega) (by simpa [ByteArray.size] using hn) hH1.base
    have hss : (⟨s.toArray⟩ : ByteArray).size = s.length := rfl
    rw [hss] at hown'
    have hx : All2 (DRel w1 G.L) xs (bcs l).flatten := znp hown hd (zeM l) (zhv l)
    obtain ⟨G2, hE2, hH2, hT⟩ := zmI hH1 h21 hμ2 hown hown' hcase (zeM s) hpos (zeM l) (zhv l) (zhv s) hx (zyQ s)
    refine ⟨v', w2, G2, fun ty => hrun, hE2, hH2, by rw [← zyP]; exact hT, ?_⟩
    rcases hcase with ⟨g, k1, _, k3⟩ | ⟨_, k3⟩
    ·exact k3.block b hblt (fun h => hbne (by rw [k1, h]))
    ·exact k3.block b hblt (by simp)
  obtain ⟨v', w2, G2, hrun, hE2, hH2, hva', hb2⟩ := key
  have hw2 := hb2.trans hw1
  have hμ' := (hE2.blk hμ)
  obtain ⟨hE3, hH3⟩ := hH2.storeB (id := id) (cs' := [.ptr id 0, .sl (bcs (l ++ s)) (.own id2)]) (vs' := #[.pointer (some ⟨b, 0, none⟩), v']) (by rw [List.getElem?_set_ne (fun h => hne h.symm)]; exact List.getElem?_set_self (List.getElem?_eq_some_iff.1 h1).1) hμ' hw2 ⟨⟨b, hμ', rfl⟩, hva', trivial⟩
  refine (zCM b ⟨s.toArray⟩ v v' w w1 w2 hcc hw1 hrun hw2 ?_).mono ?_
  ·obtain ⟨hd', _⟩ := hva'
   generalize bcs (l ++ s) = cs at hd'
   cases hd' with
   | slE a c => exact ⟨_, _, _, rfl⟩
   | sl => exact ⟨_, _, _, rfl⟩
  ·rintro e w' ⟨rfl, rfl⟩
   have hset : w2.setCell ⟨b, 1, none⟩ v' = w2.setRow b #[.pointer (some ⟨b, 0, none⟩), v'] := by
    rw [setCell_eq_setRow w2 b 1 _ _ _ _ hw2]
    rfl
   rw [hset]
   refine ⟨_, _, _, G2, rfl, (hE1.trans hE2).trans hE3, ?_, ?_, hK⟩
   ·rw [List.set_comm _ _ hne, List.set_set] at hH3
    exact hH3
   ·exact ⟨#[.int .i64 s.length, .nilIface], rfl, rfl, rfl, trivial⟩
end Go.Proofs.YtddlhljflggenaaGreatDoor
namespace Go.Proofs.YtddlhljflggenaaGreatDoor
open Go Go.RowKit
theorem zyX : tP.cellsOf 5 = 1 := by kernel_rfl
set_option maxHeartbeats 2000000 in
set_option maxRecDepth 100000 in
theorem zCj (b g cap n : Nat) (p : Value) (cur : Array Value) (l : List UInt8) (w : World) (h0 : l ≠ []) (hbk : w.heap[b]? = some (.cells #[p, .slice (some ⟨g, 0, none⟩) l.length cap] 86 (0, 0)))
  (hg : w.heap[g]? = some (.cells cur 5 (0, 0))) (hc1 : l.length ≤ cap) (hc2 : cap ≤ maxLen) (hcs : cur.size = cap)
  (hcell : ∀ j x, l[j]? = some x → w.cell? ((⟨g, 0, none⟩ : Addr).add j) = some (.int .u8 x.toNat)) :
  Calls tP ze1 #[.pointer (some ⟨b, 0, none⟩)] w fun e w' => e = .returned (.string ⟨l.toArray⟩) ∧ w' = w.drew.freeze ⟨g, 0, none⟩ l.length := by
 have hl0 : l.length ≠ 0 := by simpa using h0
 have c1 : w.drew.cell? ⟨b, 1, none⟩ = some (.slice (some ⟨g, 0, none⟩) l.length cap) := by
  have : w.drew.heap[b]? = some (.cells #[p, .slice (some ⟨g, 0, none⟩) l.length cap] 86 (0, 0)) := hbk
  rw [Lib.cell_of_heap this]; rfl
 have hSD : (Builtin.unsafeSliceData_ #[84] 124 #[.slice (some ⟨g, 0, none⟩) l.length cap]).run tP w.drew = .ok (.pointer (some ⟨g, 0, none⟩)) w.drew :=
  Lib.run_unsafeSliceData_row _ _ _ _ _ _ (by omega)
 have hUS : (Builtin.unsafeString_ #[124, 3] 9 #[.pointer (some ⟨g, 0, none⟩), .int .i64 l.length]).run tP w.drew = .ok (.string ⟨l.toArray⟩) (w.drew.freeze ⟨g, 0, none⟩ l.length) := by
  refine Lib.run_unsafeString_row w.drew 124 3 9 5 Tryz.underlying124 zyX g cur.size (by have hg' : w.drew.heap[g]? = some (.cells cur 5 (0, 0)) := hg; simp [World.shape?, hg']) l h0 (by omega) (by unfold maxLen at hc2; omega) ?_
  intro j x hx
  exact hcell j x hx
 go_enter Tryz.func49, Tryz.ntmps49
 go_wp2
 go_region
 all_goals (go_wp2; go_ret; exact ⟨rfl, rfl⟩)
set_option maxHeartbeats 2000000 in
set_option maxRecDepth 100000 in
theorem zCk (b : Nat) (p : Value) (w : World) (hbk : w.heap[b]? = some (.cells #[p, .slice none 0 0] 86 (0, 0))) :
  Calls tP ze1 #[.pointer (some ⟨b, 0, none⟩)] w fun e w' => e = .returned (.string ⟨#[]⟩) ∧ w' = w.drew := by
 have hUS : ∀ (W : World) (q : Option Addr), (Builtin.unsafeString_ #[124, 3] 9 #[.pointer q, .int .i64 0]).run tP W = .ok (.string .empty) W := fun W q => Lib.run_unsafeString_none W _ _ _ q
 have c1 : w.drew.cell? ⟨b, 1, none⟩ = some (.slice none 0 0) := by
  have : w.drew.heap[b]? = some (.cells #[p, .slice none 0 0] 86 (0, 0)) := hbk
  rw [Lib.cell_of_heap this]; rfl
 have hSD : (Builtin.unsafeSliceData_ #[84] 124 #[.slice none 0 0]).run tP w.drew = .ok (.pointer none) w.drew := rfl
 go_enter Tryz.func49, Tryz.ntmps49
 go_wp2
 go_region
 all_goals (go_wp2; go_ret; exact ⟨rfl, rfl⟩)
set_option maxHeartbeats 2000000 in
set_option maxRecDepth 100000 in
theorem zCm (b g cap : Nat) (p : Value) (w : World) (hc0 : cap ≠ 0) (hbk : w.heap[b]? = some (.cells #[p, .slice (some ⟨g, 0, none⟩) 0 cap] 86 (0, 0))) :
  Calls tP ze1 #[.pointer (some ⟨b, 0, none⟩)] w fun e w' => e = .returned (.string ⟨#[]⟩) ∧ w' = w.drew := by
 have hUS : ∀ (W : World) (q : Option Addr), (Builtin.unsafeString_ #[124, 3] 9 #[.pointer q, .int .i64 0]).run tP W = .ok (.string .empty) W := fun W q => Lib.run_unsafeString_none W _ _ _ q
 have c1 : w.drew.cell? ⟨b, 1, none⟩ = some (.slice (some ⟨g, 0, none⟩) 0 cap) := by
  have : w.drew.heap[b]? = some (.cells #[p, .slice (some ⟨g, 0, none⟩) 0 cap] 86 (0, 0)) := hbk
  rw [Lib.cell_of_heap this]; rfl
 have hSD : (Builtin.unsafeSliceData_ #[84] 124 #[.slice (some ⟨g, 0, none⟩) 0 cap]).run tP w.drew = .ok (.pointer (some ⟨g, 0, none⟩)) w.drew :=
  Lib.run_unsafeSliceData_row _ _ _ _ _ _ hc0
 clear hc0
 go_enter Tryz.func49, Tryz.ntmps49
 go_wp2
 go_region
 all_goals (go_wp2; go_ret; exact ⟨rfl, rfl⟩)
set_option maxHeartbeats 2000000 in
set_option maxRecDepth 100000 in
theorem zCl (b g : Nat) (p : Value) (cur : Array Value) (w : World) (hbk : w.heap[b]? = some (.cells #[p, .slice (some ⟨g, 0, none⟩) 0 0] 86 (0, 0))) (hg : w.heap[g]? = some (.cells cur 5 (0, 0))) :
  Calls tP ze1 #[.pointer (some ⟨b, 0, none⟩)] w fun e w' => e = .returned (.string ⟨#[]⟩) ∧ w' = (w.alloc (.view ⟨g, 0, none⟩ 5)).drew := by
 have hUS : ∀ (W : World) (q : Option Addr), (Builtin.unsafeString_ #[124, 3] 9 #[.pointer q, .int .i64 0]).run tP W = .ok (.string .empty) W := fun W q => Lib.run_unsafeString_none W _ _ _ q
 have hlt : b < w.heap.size := by
  rcases Nat.lt_or_ge b w.heap.size with h' | h'
  ·exact h'
  ·simp [Array.getElem?_eq_none h'] at hbk
 have c1 : w.drew.cell? ⟨b, 1, none⟩ = some (.slice (some ⟨g, 0, none⟩) 0 0) := by
  have : w.drew.heap[b]? = some (.cells #[p, .slice (some ⟨g, 0, none⟩) 0 0] 86 (0, 0)) := hbk
  rw [Lib.cell_of_heap this]; rfl
 have hSD : (Builtin.unsafeSliceData_ #[84] 124 #[.slice (some ⟨g, 0, none⟩) 0 0]).run tP w.drew = .ok (.pointer (some ⟨w.drew.heap.size, 0, none⟩)) (w.drew.alloc (.view ⟨g, 0, none⟩ 5)) :=
  Lib.run_unsafeSliceData_zero w.drew _ _ 5 Tryz.underlying124 ⟨g, 0, none⟩ 0 (5, cur.size) (by have hg' : w.drew.heap[g]? = some (.cells cur 5 (0, 0)) := hg; simp [World.shape?, hg'])
 have c2 : (w.drew.alloc (.view ⟨g, 0, none⟩ 5)).cell? ⟨b, 1, none⟩ = some (.slice (some ⟨g, 0, none⟩) 0 0) := by
  have : (w.drew.alloc (.view ⟨g, 0, none⟩ 5)).heap[b]? = _ := (Lib.alloc_old w.drew _ b hlt).trans hbk
  rw [Lib.cell_of_heap this]; rfl
 have c3 : (w.alloc (.view ⟨g, 0, none⟩ 5)).drew.cell? ⟨b, 1, none⟩ = some (.slice (some ⟨g, 0, none⟩) 0 0) := c2
 have c0 : w.cell? ⟨b, 1, none⟩ = some (.slice (some ⟨g, 0, none⟩) 0 0) := c1
 go_enter Tryz.func49, Tryz.ntmps49
 go_wp2
 go_region
 all_goals (go_wp2; go_ret; exact ⟨rfl, rfl⟩)
end Go.Proofs.YtddlhljflggenaaGreatDoor
namespace Go.Proofs.YtddlhljflggenaaGreatDoor
open Go Go.RowKit Go.Abs
theorem zrx {w : World} {L : Nat → Nat} : ∀ {l : List UInt8} {xs : List Value}, All2 (DRel w L) xs (bcs l).flatten → xs = l.map fun b => Value.int .u8 b.toNat
 | [], [], _ => rfl
 | [], _ :: _, h => h.elim
 | _ :: _, [], h => h.elim
 | c :: l, x :: xs, ⟨hx1, hx2⟩ => by
  cases hx1
  rw [List.map_cons, zrx (l := l) hx2]
theorem zyp {H : zaa} {id id2 : Nat} {l : List UInt8} {p : AV} (h1 : H[id]? = some (.bld 86 [p, .sl (bcs l) (.own id2)])) (h2 : H[id2]? = some (.perm 5 1 l.length)) {K : AV → zaa → Prop}
  (hK : K (.str l) (H.set id2 .dead)) : ACalls tP ze1 [.ptr id 0] H K := by
 intro B w G ⟨vs⟩ hH hv
 match vs, hv with
 | [v0], ⟨⟨b, hμ, hv0⟩, _⟩ =>
  subst hv0
  obtain ⟨hB, hL, ⟨us⟩, hw, hc⟩ := hH.ok id _ _ h1 hμ
  match us, hc with
  | [vp, v], ⟨hvp, ⟨hd, v', size, n', hμ2, hle, heq⟩, _⟩ =>
   obtain ⟨hs1, hn1, ⟨xs, hown⟩, hL2⟩ := hH.ok id2 _ _ h2 hμ2
   subst hs1 hn1
   obtain ⟨rfl, hall⟩ := heq (zeM l)
   have hdr := Ext.drew B w G (w.drawn + 1) (Nat.le_succ _)
   have hHd := hH.drew (w.drawn + 1) (Nat.le_succ _)
   by_cases hl : l = []
   ·subst hl
    rcases hown.2 with ⟨rfl, _⟩ | ⟨g, cap, cur, rfl, k1, k2, k3, k4, k5, k6⟩
    ·refine (zCk b vp w hw).mono ?_
     rintro e w' ⟨rfl, rfl⟩
     exact ⟨_, (.str []), _, G, rfl, hdr, hHd.dead h2, rfl, hK⟩
    ·by_cases hc0 : cap = 0
     ·subst hc0
      refine (zCl b g vp cur w hw k2).mono ?_
      rintro e w' ⟨rfl, rfl⟩
      obtain ⟨hE1, hH1⟩ := hH.other (.view ⟨g, 0, none⟩ 5)
      exact ⟨_, (.str []), _, G, rfl, hE1.trans (Ext.drew B _ G _ (Nat.le_succ _)), (hH1.drew _ (Nat.le_succ _)).dead h2, rfl, hK⟩
     ·refine (zCm b g cap vp w hc0 hw).mono ?_
      rintro e w' ⟨rfl, rfl⟩
      exact ⟨_, (.str []), _, G, rfl, hdr, hHd.dead h2, rfl, hK⟩
   ·rcases hown.2 with ⟨_, hz⟩ | ⟨g, cap, cur, rfl, k1, k2, k3, k4, k5, k6⟩
    ·exact absurd (List.eq_nil_of_length_eq_zero hz) hl
    ·have hx : All2 (DRel w G.L) xs (bcs l).flatten := znp hown hd (zeM l) (zhv l)
     have hxs : xs = l.map fun b => Value.int .u8 b.toNat := by
      exact zrx hx
     refine (zCj b g cap l.length vp cur l w hl hw k2 k3 k4 (by omega) ?_).mono ?_
     ·intro j x hj
      exact hown.cells (g := g) rfl j _ (by rw [hxs, List.getElem?_map, hj]; rfl)
     ·rintro e w' ⟨rfl, rfl⟩
      obtain ⟨hE1, hH1⟩ := hHd.freezeB h2 hμ2 l.length
      exact ⟨_, (.str l), _, G, rfl, hdr.trans hE1, hH1, rfl, hK⟩
end Go.Proofs.YtddlhljflggenaaGreatDoor
namespace Go.Proofs.YtddlhljflggenaaGreatDoor
open Go Go.Abs
set_option maxRecDepth 100000
def zEt (_ : Nat) : List Bool := []
noncomputable def zEu : Code := Tryz.f141.body.getD .skip
def znW (t0 : AV) (H : zaa) (K : Kt) : Prop :=
 zac .lss false t0 (.int .i64 10) fun t4 =>
 zaf t4
 (zac .add false t0 (.int .i64 1) fun t7 =>
 zaK 0 0 (.str [48, 49, 50, 51, 52, 53, 54, 55, 56, 57, 97, 98, 99, 100, 101, 102, 103, 104, 105, 106, 107, 108, 109, 110, 111, 112, 113, 114, 115, 116, 117, 118, 119, 120, 121, 122]) (some t0) (some t7) fun t8 =>
 K t8 H)
 (zac .mul false t0 (.int .i64 2) fun t10 =>
 zac .mul false t0 (.int .i64 2) fun t12 =>
 zac .add false t12 (.int .i64 2) fun t13 =>
 zaK 0 0 (.str [48, 48, 48, 49, 48, 50, 48, 51, 48, 52, 48, 53, 48, 54, 48, 55, 48, 56, 48, 57, 49, 48, 49, 49, 49, 50, 49, 51, 49, 52, 49, 53, 49, 54, 49, 55, 49, 56, 49, 57, 50, 48, 50, 49, 50, 50, 50, 51, 50, 52, 50, 53, 50, 54, 50, 55, 50, 56, 50, 57, 51, 48, 51, 49, 51, 50, 51, 51, 51, 52, 51, 53, 51, 54, 51, 55, 51, 56, 51, 57, 52, 48, 52, 49, 52, 50, 52, 51, 52, 52, 52, 53, 52, 54, 52, 55, 52, 56, 52, 57, 53, 48, 53, 49, 53, 50, 53, 51, 53, 52, 53, 53, 53, 54, 53, 55, 53, 56, 53, 57, 54, 48, 54, 49, 54, 50, 54, 51, 54, 52, 54, 53, 54, 54, 54, 55, 54, 56, 54, 57, 55, 48, 55, 49, 55, 50, 55, 51, 55, 52, 55, 53, 55, 54, 55, 55, 55, 56, 55, 57, 56, 48, 56, 49, 56, 50, 56, 51, 56, 52, 56, 53, 56, 54, 56, 55, 56, 56, 56, 57, 57, 48, 57, 49, 57, 50, 57, 51, 57, 52, 57, 53, 57, 54, 57, 55, 57, 56, 57, 57]) (some t10) (some t13) fun t14 =>
 K t14 H)
theorem zEv {t0 : AV} {H : zaa} {K : Kt} (h : HSc H → znW t0 H K) : ACalls tP zmb [t0] H K :=
 zar (M := zEt) Tryz.func141 (c := zEu) (by kernel_rfl) (fun hs => Eq.mpr (by kernel_rfl) (h hs))
def zK0 (_ : Nat) : List Bool := []
noncomputable def zK1 : Code := Tryz.f85.body.getD .skip
def zKZ (t0 : AV) (H : zaa) (K : Kt) : Prop :=
 ACalls tP zsF [t0] H fun t4 H =>
 K t4 H
theorem zK2 {t0 : AV} {H : zaa} {K : Kt} (h : HSc H → zKZ t0 H K) : ACalls tP zmB [t0] H K :=
 zar (M := zK0) Tryz.func85 (c := zK1) (by kernel_rfl) (fun hs => Eq.mpr (by kernel_rfl) (h hs))
def zC5 (_ : Nat) : List Bool := []
noncomputable def zC6 : Code := Tryz.f109.body.getD .skip
def zC4 (t0 : AV) (H : zaa) (K : Kt) : Prop :=
 ACalls tP zl8 [t0, (.int .i64 10)] H fun t4 H =>
 K t4 H
theorem zC7 {t0 : AV} {H : zaa} {K : Kt} (h : HSc H → zC4 t0 H K) : ACalls tP zsF [t0] H K :=
 zar (M := zC5) Tryz.func109 (c := zC6) (by kernel_rfl) (fun hs => Eq.mpr (by kernel_rfl) (h hs))
end Go.Proofs.YtddlhljflggenaaGreatDoor

namespace Go.Proofs.YtddlhljflggenaaGreatDoor
open Go Go.RowKit Go.Abs
set_option maxRecDepth 8000
def small (n : Nat) : List UInt8 := if n < 10 then [48 + UInt8.ofNat n] else [48 + UInt8.ofNat (n / 10), 48 + UInt8.ofNat (n % 10)]
def digs : List UInt8 := [48, 49, 50, 51, 52, 53, 54, 55, 56, 57, 97, 98, 99, 100, 101, 102, 103, 104, 105, 106, 107, 108, 109, 110, 111, 112, 113, 114, 115, 116, 117, 118, 119, 120, 121, 122]
def pairs : List UInt8 := (List.range 100).flatMap fun n => [48 + UInt8.ofNat (n / 10), 48 + UInt8.ofNat (n % 10)]
theorem zzp : ∀ n, n < 10 → (digs.take (n + 1)).drop n = small n := by decide
theorem zAM : ∀ n, n < 100 → 10 ≤ n → (pairs.take (2 * n + 2)).drop (2 * n) = small n := by decide
theorem zBF (n : Nat) (hn : n < 100) (H : zaa) (K : Kt) (hK : K (.str (small n)) H) : ACalls tP zmb [.int .i64 n] H K := by
 refine zEv fun hs => ?_
 by_cases h10 : n < 10
 ·have : (n : Int) < 10 := by omega
  have e1 : IntKind.i64.wrap ((n : Int) + 1) = ((n + 1 : Nat) : Int) := by rw [zam (by omega) (by omega)]; omega
  simp [znW, this]
  rw [e1]
  refine ⟨by omega, ⟨by omega, by omega⟩, ?_⟩
  have hK' : K (.str ((digs.take (n + 1)).drop n)) H := by rw [zzp n h10]; exact hK
  rw [Int.toNat_natCast]
  exact hK'
 ·have : ¬ (n : Int) < 10 := by omega
  have e1 : IntKind.i64.wrap ((n : Int) * 2) = ((2 * n : Nat) : Int) := by rw [zam (by omega) (by omega)]; omega
  have e2 : IntKind.i64.wrap (((2 * n : Nat) : Int) + 2) = ((2 * n + 2 : Nat) : Int) := by rw [zam (by omega) (by omega)]; omega
  simp [znW, this]
  rw [e1, e2]
  refine ⟨by omega, by omega, ⟨by omega, by omega⟩, ?_⟩
  have hK' : K (.str ((pairs.take (2 * n + 2)).drop (2 * n))) H := by rw [zAM n hn (by omega)]; exact hK
  have hp : pairs = [48, 48, 48, 49, 48, 50, 48, 51, 48, 52, 48, 53, 48, 54, 48, 55, 48, 56, 48, 57, 49, 48, 49, 49, 49, 50, 49, 51, 49, 52, 49, 53, 49, 54, 49, 55, 49, 56, 49, 57, 50, 48, 50, 49, 50, 50, 50, 51, 50, 52, 50, 53, 50, 54, 50, 55, 50, 56, 50, 57, 51, 48, 51, 49, 51, 50, 51, 51, 51, 52, 51, 53, 51, 54, 51, 55, 51, 56, 51, 57, 52, 48, 52, 49, 52, 50, 52, 51, 52, 52, 52, 53, 52, 54, 52, 55, 52, 56, 52, 57, 53, 48, 53, 49, 53, 50, 53, 51, 53, 52, 53, 53, 53, 54, 53, 55, 53, 56, 53, 57, 54, 48, 54, 49, 54, 50, 54, 51, 54, 52, 54, 53, 54, 54, 54, 55, 54, 56, 54, 57, 55, 48, 55, 49, 55, 50, 55, 51, 55, 52, 55, 53, 55, 54, 55, 55, 55, 56, 55, 57, 56, 48, 56, 49, 56, 50, 56, 51, 56, 52, 56, 53, 56, 54, 56, 55, 56, 56, 56, 57, 57, 48, 57, 49, 57, 50, 57, 51, 57, 52, 57, 53, 57, 54, 57, 55, 57, 56, 57, 57] := by decide
  rw [hp] at hK'
  rw [Int.toNat_natCast, Int.toNat_natCast]
  exact hK'
theorem zzR (n : Nat) (hn : n < 100) (w : World) (R : World → Prop) (s : ByteArray)
  (hs : Calls tP zmb #[.int .i64 n] w fun e w' => e = .returned (.string s) ∧ R w') :
  Calls tP zl8 #[.int .i64 n, .int .i64 10] w fun e w' => e = .returned (.string s) ∧ R w' := by
 have a1 : ((0 : Int) ≤ (n : Int)) := by omega
 have a2 : ((n : Int) < 100) := by omega
 go_enter Tryz.func134, Tryz.ntmps134
 go_wp2_with (go_at_call 141; refine hs.mono ?_)
 rintro e w1 ⟨rfl, hR⟩
 go_wp2
 go_ret
 exact ⟨rfl, hR⟩
theorem zzS (n : Nat) (hn : n < 100) (H : zaa) (K : Kt) (hK : K (.str (small n)) H) : ACalls tP zl8 [.int .i64 n, .int .i64 10] H K := by
 intro B w G ⟨vs⟩ hH hv
 match vs, hv with
 | [v0, v1], ⟨h0, h1, _⟩ =>
  have h0 : v0 = .int .i64 n := h0
  have h1 : v1 = .int .i64 10 := h1
  subst h0 h1
  have hs := zBF n hn H (fun r H' => r = .str (small n) ∧ H' = H) ⟨rfl, rfl⟩ B w G #[.int .i64 n] hH ⟨rfl, trivial⟩
  refine (zzR n hn w (fun w' => ∃ G', Ext B w G w' G' ∧ HRel B w' G' H) ⟨(small n).toArray⟩ (hs.mono ?_)).mono ?_
  ·rintro e w1 ⟨v, r, H', G', rfl, hE, hH', hT, rfl, rfl⟩
   have hT : v = .string ⟨(small n).toArray⟩ := hT
   exact ⟨by rw [hT], G', hE, hH'⟩
  ·rintro e w1 ⟨rfl, G', hE, hH'⟩
   exact ⟨_, .str (small n), _, G', rfl, hE, hH', rfl, hK⟩
theorem zyj (n : Nat) (hn : n < 100) (H : zaa) (K : Kt) (hK : K (.str (small n)) H) : ACalls tP zmB [.int .i64 n] H K :=
 zK2 fun hs => zC7 fun hs => zzS n hn _ _ hK
end Go.Proofs.YtddlhljflggenaaGreatDoor
namespace Go.Proofs.YtddlhljflggenaaGreatDoor
open Go Go.Abs
set_option maxRecDepth 8000
theorem zsn : zaP [] := by
 refine ⟨by simp, fun D hD => by simp at hD⟩
def c71 : List AV := [.int .i64 7, .int .i64 0, .sl [[.int .i64 1, .int .i64 0, .sl [] .none]] .full]
def t71 : AV := .agg c71
def i2 : AV := .agg [.int .i64 2, .snil]
theorem zrP : zb2 [] (.mk 7 0 [.mk 1 0 []]) (.mk 2 []) = 2 := by decide
theorem zsM {f : Nat} {H : zaa} {K : Kt} (h : ACalls tP f [.sl (([] : List Dat).map Dat.cs) .none, .agg (VT.mk 7 0 [.mk 1 0 []]).cs, .agg (IT.mk 2 []).cs] H K) : ACalls tP f [.snil, t71, i2] H K :=
 ACalls.wk h ⟨.atom .snil, .agg ⟨.refl _, .refl _, .sl _ _, trivial⟩, .agg ⟨.refl _, .snil, trivial⟩, trivial⟩
theorem zyd (H : zaa) (K : Kt) (hK : K (.int .i64 2) H) : ACalls tP zdS [.snil, t71, i2] H K :=
 zsM (zgK [] zsn _ (by decide) _ (by decide) _ _ (by rw [zrP]; exact hK))
theorem zqP (H : zaa) (K : Kt) (hK : K (.bool true) H) : ACalls tP zgh [.snil, t71, i2] H K :=
 zsM (zGf [] zsn _ (by decide) _ (by decide) _ _ (by rw [zrP]; exact hK))
theorem zye (H : zaa) (K : Kt) (hK : K (.str [50]) H) : ACalls tP zmj [.snil, t71, i2] H K := by
 refine ACalls.out (zGi fun hs => ?_)
 simp [zvI, t71, c71, i2, Nat.add_assoc]
 refine zqP _ _ ?_
 simp [zlf, Nat.add_assoc]
 refine zIe fun hs2 => ?_
 simp [zwE, Nat.add_assoc]
 refine zyj 2 (by omega) _ _ ?_
 refine ACalls.ownB (id := H.length + 2) (t := 86) (p := .nilp) 5 1 (by simp) ?_
 refine zyq (id2 := H.length + 5) (l := []) (.inl rfl) (by simp [bcs]) (by simp) (by simp [small]) ?_
 have e7 : small 2 = [50] := by decide
 have e1 : ∀ F : AV → zaa → Prop, ∀ X, zg8 X F = F (.tup []) X := fun F X => by simp [zg8, zaw]
 rw [e1, e7]
 refine zyp (id2 := H.length + 5) (l := [50]) (p := .ptr (H.length + 2) 0) ?_ ?_ ?_
 ·simp
 ·simp
 ·exact Out.at (H2 := H) (J := [.cells c71, .cells [.int .i64 2, .snil], .bld 86 [.ptr (H.length + 2) 0, .sl (bcs [50]) (.own (H.length + 5))], .cells c71, .cells [.int .i64 2, .snil], .dead]) (by simp [List.set_append_right, c71]) (Nat.le_refl _) hs .rfl' rfl rfl hK
theorem zdI (H : zaa) (K : Kt) (hK : K (.bool true) H) : ACalls tP zeq [] H K := by
 refine ACalls.out (zLL fun hs => ?_)
 simp [zq8, zau, zaH, zay, za8, plain, AV.pd, Nat.add_assoc]
 refine zyd _ _ ?_
 simp [Nat.add_assoc]
 refine zqP _ _ ?_
 simp [Nat.add_assoc]
 refine zye _ _ ?_
 simp
 exact Out.bool rfl (Nat.le_refl _) hs hK
theorem zmZ (data : List Dat) (hlen : data.length ≤ 9223372036854775807) (t : VT) (H : zaa) (K : Kt) (hK : ∀ b, (b = true → zaP data ∧ t.nodes ≤ 250) → K (.bool b) H) : ACalls tP zgk [.sl (data.map Dat.cs) .none, .agg t.cs] H K := by
 refine ACalls.out (zIu fun hs => ?_)
 have hO : ∀ b, (b = true → zaP data ∧ t.nodes ≤ 250) → ∀ J, Out H.length K (.bool b) (H ++ J) := fun b h J => Out.bool rfl (Nat.le_refl _) hs (hK b h)
 obtain ⟨x, y, z, hvx, hx, hy, hz⟩ := zaX t
 simp [zq4, hvx, Nat.add_assoc]
 refine zFo data _ _ hlen fun b1 hb1 => ?_
 cases b1 with
 | false =>
  simp
  exact hO _ (fun h => by cases h) _
 | true =>
  simp [Nat.add_assoc]
  rw [← hvx]
  refine zFs t _ _ fun b2 hb2 => ?_
  try simp
  exact hO _ (fun h => ⟨hb1 rfl, hb2 h⟩) _
theorem ztD (ks ks' : List IT) (hb : ks.length ≤ 1000000)
  (hc : ∀ (i : Nat) (h : i < ks.length) (h' : i < ks'.length) (H : zaa) (K : AV → zaa → Prop), K (.bool (IT.same ks[i] ks'[i])) H → ACalls tP zeW [.agg ks[i].cs, .agg ks'[i].cs] H K)
  (H : zaa) (K : AV → zaa → Prop) (hK : K (.bool (IT.sameL ks ks')) H) : ACalls tP zgo [.sl (IT.css ks) .none, .sl (IT.css ks') .none] H K := by
 refine ACalls.out (zKR fun hs => ?_)
 have fin := zdU (K := K) (H := H) (r := .bool (IT.sameL ks ks')) hs rfl rfl hK
 by_cases he : ks.length = ks'.length
 ·simp [zq7, he]
  refine zKP (Inv := fun q t13 H' => ∃ i : Nat, i ≤ ks.length ∧ q = ks.length - i ∧ t13 = .int .i64 i ∧ IT.sameL (ks.drop i) (ks'.drop i) = IT.sameL ks ks' ∧ H' = H) ks.length ?_ ?_
  ·intro _; exact ⟨0, by omega, by omega, rfl, by simp, rfl⟩
  ·rintro q t8 H' ⟨i, hi, rfl, rfl, ho, rfl⟩ hsc hlen hsF Kb hKb
   by_cases hlt : i < ks.length
   ·have hlt' : i < ks'.length := by omega
    rw [IT.sameL_drop hlt hlt'] at ho
    simp [zqk, hlt, hlt']
    refine zbH _ (fun J => hc i hlt hlt' _ _ ⟨rfl, rfl⟩) ?_
    cases hz : IT.same ks[i] ks'[i] with
    | true =>
     rw [hz, Bool.true_and] at ho
     simp
     rw [zam (by omega) (by omega)]
     refine hKb _ _ ⟨ks.length - (i + 1), by omega, Back.here (Nat.le_refl _) hs ?_ ⟨_, rfl, i + 1, by omega, rfl, by simp, ho, rfl⟩⟩
     simp [zkQ, AV.sc, AV.scV, AV.scA, AV.scB]
    | false =>
     rw [hz, Bool.false_and] at ho
     simp
     rw [← ho] at fin
     exact fin
   ·have hlt' : ¬ i < ks'.length := by omega
    simp [zqk, hlt, hlt']
    obtain rfl : i = ks.length := by omega
    rw [List.drop_length, he, List.drop_length] at ho
    rw [← ho] at fin
    exact fin
 ·have hb : ((ks.length : Int) != ks'.length) = true := by simp; omega
  simp [zq7, hb]
  have e : IT.sameL ks ks' = false := by
   cases h : IT.sameL ks ks' with
   | false => rfl
   | true => exact absurd (IT.sameL_len _ _ h) he
  rw [e] at fin
  exact fin
theorem zmV : ∀ (m : Nat) (v w : IT), v.nodes ≤ m → v.nodes ≤ 1000000 → ∀ (H : zaa) (K : AV → zaa → Prop), K (.bool (IT.same v w)) H → ACalls tP zeW [.agg v.cs, .agg w.cs] H K := by
 intro m
 induction m with
 | zero => intro v w h; have := v.nodes_pos; omega
 | succ m ih =>
  intro v w hv hb H K hK
  obtain ⟨n, ks⟩ := v
  obtain ⟨n', ks'⟩ := w
  have hnl : IT.nodesL ks + 1 ≤ 1000000 := by simpa [IT.nodes] using hb
  have hll := IT.len_le ks
  refine ACalls.out (zEd fun hs => ?_)
  have fin : ∀ J, Out H.length K (.bool (IT.same (.mk n ks) (.mk n' ks'))) (H ++ J) := fun J => Out.same rfl hs rfl rfl hK
  cases h2 : (n == n') with
  | false =>
   simp [IT.cs, znO, h2]
   simp only [IT.same, h2, Bool.false_and] at fin
   exact fin _
  | true =>
   simp [IT.cs, znO, h2]
   simp only [IT.same, h2, Bool.true_and] at fin
   refine ztD ks ks' (by omega) (fun i h h' H K hK => ?_) _ _ ?_
   ·have := IT.kid_lt (n := n) h
    exact ih _ _ (by omega) (by omega) H K hK
   ·exact fin _
theorem ztz (x : List IT) : IT.sameL x x = true := by
 have := IT.cmpL_anti x x
 exact (IT.cmpL_zero x x).1 (by omega)
theorem zqO (a b : List IT) (hl : a.length ≤ 1000000) (hn : ∀ x ∈ a, x.nodes ≤ 1000000) (H : zaa) (K : Kt) (hK : K (.bool (IT.sameL a b)) H) : ACalls tP zgo [.sl (IT.css a) .none, .sl (IT.css b) .none] H K :=
 ztD a b hl (fun i h h' H K hK => zmV _ _ _ (Nat.le_refl _) (hn _ (List.getElem_mem h)) H K hK) H K hK
inductive LShape (data : List Dat) (t : VT) (d : Int) : AV → Prop
 | err (e : Int) (he : e ≠ 0) : LShape data t d (.tup [.snil, .int .i64 e])
 | ok (ls : LL) (hf : zbm data t = true) (h0 : 0 ≤ d) (h6 : d ≤ 6) (hu : upF (zan data) (ncF data) d.toNat t = some ls) : LShape data t d (.tup [.sl (IT.css (zaB ls)) .none, .int .i64 0])
theorem zk8 (data : List Dat) (t : VT) (d : Int) : LShape data t d (zb9 data t d) := by
 unfold zb9
 split
 ·rename_i hf
  split
  ·exact .err 8 (by omega)
  ·rename_i hd
   cases hu : upF (zan data) (ncF data) d.toNat t with
   | none => exact .err 9 (by omega)
   | some ls => exact .ok ls hf (by omega) (by omega) hu
 ·exact .err 1 (by omega)
theorem zhN {data : List Dat} {t : VT} {d : Int} {ls : LL} (h6 : d ≤ 6) (hu : upF (zan data) (ncF data) d.toNat t = some ls) : Lst (fun v => dV (zan data) v t) d.toNat ls ∧ zaq ls ≤ 500 := by
 have hok := zdz (P := zan data) (nc := ncF data) (fun t c ps h => zc7 h) d.toNat t (by omega)
 rw [hu] at hok
 exact hok
theorem zss {data : List Dat} (hk : zaP data) {t : VT} (ht : t.nodes ≤ 1000) {d : Int} {ls : LL} (h6 : d ≤ 6) (hu : upF (zan data) (ncF data) d.toNat t = some ls) : ∀ x ∈ zaB ls, x.nodes ≤ 900000 := fun x hx => by
 obtain ⟨k, hk1, hk2⟩ := (zhM (zhN h6 hu).1 x).1 hx
 have h3 := zfX (zip hk) x t k hk2
 have : 8001 * k ≤ 8001 * 6 := Nat.mul_le_mul_left _ (by omega)
 omega
theorem zyh (data : List Dat) (hlen : data.length ≤ 9223372036854775807) (t : VT) (d : Int) (H : zaa) (K : Kt) (hK : K (.bool true) H) :
  ACalls tP zl3 [.sl (data.map Dat.cs) .none, .agg t.cs, .int .i64 d] H K := by
 refine ACalls.out (zFI fun hs => ?_)
 have hO : ∀ J, Out H.length K (.bool true) (H ++ J) := fun J => Out.bool rfl (Nat.le_refl _) hs hK
 obtain ⟨x, y, z, hvx, hx, hy, hz⟩ := zaX t
 simp [zq1, hvx, hx, hy, hz]
 rw [← hvx]
 refine zmZ data hlen t _ _ fun b hb => ?_
 cases b with
 | false => simp; exact hO _
 | true =>
  obtain ⟨hk, ht⟩ := hb rfl
  simp [hvx, hx, hy, hz]
  rw [← hvx]
  refine zkz data hk t (by omega) d _ _ ?_
  have hsh := zk8 data t d
  have href := fun (H : zaa) (K : Kt) (h : K (zb9 data t d) H) => zKf data hk t (by omega) d H K h
  generalize zb9 data t d = R at *
  cases hsh with
  | err e he =>
   simp [hvx, hx, hy, hz]
   rw [← hvx]
   refine href _ _ ?_
   simp
   refine ACalls.wk (args' := [.sl (IT.css []) .none, .sl (IT.css []) .none]) ?_ ⟨.atom .snil, .atom .snil, trivial⟩
   refine zqO [] [] (by simp) (by simp) _ _ ?_
   rw [ztz]
   simp
   refine zdI _ _ ?_
   exact hO _
  | ok ls hf h0 h6 hu =>
   have hl := (zhN h6 hu).2
   simp [hvx, hx, hy, hz]
   rw [← hvx]
   refine href _ _ ?_
   simp
   refine zqO _ _ (by rw [zf6]; omega) (fun x hx => by have := zss hk (by omega) h6 hu x hx; omega) _ _ ?_
   rw [ztz]
   simp
   refine zdI _ _ ?_
   exact hO _
end Go.Proofs.YtddlhljflggenaaGreatDoor
namespace Go.Abs
open Go Go.RowKit

def zbg (P : Program) : Nat → TypeId → List AV → Prop
 | 0, _, _ => False
 | n + 1, t, asx => match P.underlying t with
  | some .bool => ∃ b, asx = [.bool b]
  | some (.int k) => ∃ m, asx = [.int k m] ∧ (Lit.int k m).wf = true
  | some .string => ∃ s, asx = [.str s] ∧ s.length ≤ maxLen
  | some (.slice e) => ∃ es, asx = [.sl es .none] ∧ es.length ≤ maxLen ∧ ∀ c ∈ es, zbg P n e c
  | some (.struct fs) => asx.length = P.cellsOf t ∧ ∀ f ∈ fs.toList, zbg P n f.type ((asx.drop f.offset).take (P.cellsOf f.type))
  | _ => False

def zd0 (P : Program) : List Field → Nat → Nat → Bool
 | [], at_, n => at_ == n
 | f :: fs, at_, n => f.offset == at_ && zd0 P fs (at_ + P.cellsOf f.type) n
def zgy (P : Program) (S : List TypeId) : Bool :=
 S.all fun t => match P.underlying t with
  | some .bool | some (.int _) | some .string => P.cellsOf t == 1
  | some (.slice e) => S.contains e && decide (0 < P.cellsOf e) && P.cellsOf t == 1
  | some (.struct fs) => fs.toList.all (fun f => S.contains f.type) && zd0 P fs.toList 0 (P.cellsOf t)
  | _ => false

section
variable {Hh : Type} {enc : TypeId × Value → Hh} {P : Program} {w : World} {base : Nat} {spare : Nat → Bool} {held : Bool}

theorem zt2 {R : Value → AV → Prop} {cs : List Value} : ∀ (fs : List Field) (at_ n : Nat) (T : Field → List AV → Prop), zd0 P fs at_ n = true → cs.length = n →
  (∀ f ∈ fs, ∃ asx, All2 R ((cs.drop f.offset).take (P.cellsOf f.type)) asx ∧ T f asx) → at_ ≤ n →
  ∃ asx, All2 R (cs.drop at_) asx ∧ ∀ f ∈ fs, T f ((asx.drop (f.offset - at_)).take (P.cellsOf f.type)) ∧ at_ ≤ f.offset
 | [], at_, n, T, ht, hl, hf, hle => by
  simp [zd0] at ht
  subst ht
  refine ⟨[], ?_, by simp⟩
  rw [List.drop_eq_nil_of_le (by omega)]
  trivial
 | f :: fs, at_, n, T, ht, hl, hf, hle => by
  simp only [zd0, Bool.and_eq_true, beq_iff_eq] at ht
  obtain ⟨h1, h2⟩ := ht
  have hbound : ∀ (fs : List Field) (k n : Nat), zd0 P fs k n = true → k ≤ n := by
   intro fs
   induction fs with
   | nil => intro k n h; simp [zd0] at h; omega
   | cons g gs ih => intro k n h; simp only [zd0, Bool.and_eq_true] at h; have := ih _ _ h.2; omega
  have hb := hbound fs _ _ h2
  obtain ⟨as0, ha0, hT0⟩ := hf f (by simp)
  obtain ⟨as1, ha1, hT1⟩ := zt2 fs (at_ + P.cellsOf f.type) n T h2 hl (fun g hg => hf g (by simp [hg])) hb
  have hl0 : as0.length = P.cellsOf f.type := by
   have := ha0.length
   rw [List.length_take, List.length_drop] at this
   omega
  refine ⟨as0 ++ as1, ?_, ?_⟩
  ·have : cs.drop at_ = (cs.drop f.offset).take (P.cellsOf f.type) ++ cs.drop (at_ + P.cellsOf f.type) := by
    rw [h1, ← List.drop_drop, List.take_append_drop]
   rw [this]
   exact ha0.append ha1
  ·intro g hg
   rcases List.mem_cons.1 hg with rfl | hg
   ·rw [h1, Nat.sub_self, List.drop_zero, ← hl0, List.take_left]
    exact ⟨hT0, Nat.le_refl _⟩
   ·obtain ⟨k1, k2⟩ := hT1 g hg
    refine ⟨?_, by omega⟩
    have : (as0 ++ as1).drop (g.offset - at_) = as1.drop (g.offset - (at_ + P.cellsOf f.type)) := by
     rw [List.drop_append, List.drop_eq_nil_of_le (by omega), List.nil_append]
     congr 1
     omega
    rw [this]
    exact k1

theorem zhx {a : Addr} {n : Nat} {cs : List Value} (h : w.cells? base a n = some cs) : cs.length = n ∧ ∀ j v, cs[j]? = some v → w.cell? (a.add j) = some v := by
 unfold World.cells? at h
 split at h
 ·have h1 := mapM_some_length h
  refine ⟨by simpa using h1, fun j v hj => ?_⟩
  have hjn : j < n := by
   have := (List.getElem?_eq_some_iff.1 hj).1
   simp at h1
   omega
  have := mapM_some_get h j j (by simp [hjn])
  rw [this]
  exact hj
 ·cases h

theorem zz5 {b o : Nat} {v : Value} (h : w.cell? ⟨b, o, none⟩ = some v) : o < zcg w b := by
 unfold World.cell? at h
 unfold zcg
 split at h
 ·rename_i c t fr hb
  simp only [hb]
  simp at h
  exact (Array.getElem?_eq_some_iff.1 h).1
 ·cases h

theorem zt9 {S : List TypeId} (hS : zgy P S = true) : ∀ (n : Nat) (t : TypeId) (cs : List Value) (x : DataW Hh × List MemPlace), t ∈ S → DataW.trod enc P w base spare held n t cs = some x →
  ∃ asx, All2 (DRel w (zcg w)) cs asx ∧ zbg P n t asx := by
 intro n
 induction n with
 | zero => intro t cs x _ h; simp [DataW.trod] at h
 | succ n ih =>
  intro t cs x ht h
  have hp := List.all_eq_true.1 hS t ht
  unfold zbg
  cases hu : P.underlying t with
  | none => simp [hu] at hp
  | some d =>
   rw [hu] at hp
   cases d <;> simp only [] at hp <;> try (cases hp; done)
   case bool =>
    obtain ⟨b, rfl, _⟩ := DataW.trod_bool hu h
    exact ⟨[.bool b], ⟨.bool b, trivial⟩, b, rfl⟩
   case int k =>
    obtain ⟨m, rfl, _, hw⟩ := DataW.trod_int hu h
    exact ⟨[.int k m], ⟨.int k m, trivial⟩, m, rfl, hw⟩
   case string =>
    obtain ⟨s, rfl, _, hw⟩ := DataW.trod_string hu h
    have hs : (⟨s.data.toList.toArray⟩ : ByteArray) = s := by simp
    refine ⟨[.str s.data.toList], ⟨?_, trivial⟩, s.data.toList, rfl, by rw [Array.length_toList]; exact hw⟩
    have := DRel.str (w := w) (L := zcg w) s.data.toList
    rwa [hs] at this
   case slice e =>
    simp only [Bool.and_eq_true, decide_eq_true_eq] at hp
    obtain ⟨⟨he, hpos⟩, _⟩ := hp
    have he : e ∈ S := by simpa using he
    rcases DataW.trod_slice hu h with ⟨rfl, _⟩ | ⟨a, len, cap, elems, rest, n', hn, rfl, _, hb, hl, hm, hlen, hel, _⟩
    ·exact ⟨[.sl [] .none], ⟨.slE _ _, trivial⟩, [], rfl, by simp, by simp⟩
    ·obtain rfl : n = n' := by omega
     have hat : ∀ i, i < len → ∃ cs asx, w.cells? base (a.add (i * P.cellsOf e)) (P.cellsOf e) = some cs ∧ All2 (DRel w (zcg w)) cs asx ∧ zbg P n e asx := by
      intro i hi
      have h1 := hel i hi
      rw [List.getElem?_eq_getElem (by omega)] at h1
      cases hc : w.cells? base (a.add (i * P.cellsOf e)) (P.cellsOf e) with
      | none => rw [hc] at h1; cases h1
      | some cs =>
       rw [hc] at h1
       obtain ⟨asx, h2, h3⟩ := ih e cs _ he h1
       exact ⟨cs, asx, rfl, h2, h3⟩
     by_cases h0 : len = 0
     ·subst h0
      exact ⟨[.sl [] .none], ⟨.slE _ _, trivial⟩, [], rfl, by simp, by simp⟩
     ·-- the address is a plain one
      have hspot : a.spot = none := by
       obtain ⟨cs, asx, h1, h2, _⟩ := hat 0 (by omega)
       obtain ⟨h3, h4⟩ := zhx h1
       have h5 := h4 0 cs[0] (by simp)
       have := World.cell?_spot h5
       simpa [Addr.add] using this
      obtain ⟨b, off, sp⟩ := a
      simp only at hspot
      subst hspot
      obtain ⟨f, hf⟩ : ∃ f : Nat → List Value × List AV, ∀ i, i < len → w.cells? base ((⟨b, off, none⟩ : Addr).add (i * P.cellsOf e)) (P.cellsOf e) = some (f i).1 ∧ All2 (DRel w (zcg w)) (f i).1 (f i).2 ∧ zbg P n e (f i).2 :=
       Deep.choose_lt (p := fun i (y : List Value × List AV) => w.cells? base ((⟨b, off, none⟩ : Addr).add (i * P.cellsOf e)) (P.cellsOf e) = some y.1 ∧ All2 (DRel w (zcg w)) y.1 y.2 ∧ zbg P n e y.2)
        (fun i hi => by obtain ⟨cs, asx, h1, h2, h3⟩ := hat i hi; exact ⟨(cs, asx), h1, h2, h3⟩)
      have hcell : ∀ i, i < len → ∀ j v, (f i).1[j]? = some v → w.cell? ⟨b, off + i * P.cellsOf e + j, none⟩ = some v := by
       intro i hi j v hj
       have := (zhx (hf i hi).1).2 j v hj
       rw [add_lit, add_lit] at this
       exact this
      have hlen2 : ∀ i, i < len → (f i).2.length = P.cellsOf e := fun i hi => by
       rw [← (hf i hi).2.1.length]; exact (zhx (hf i hi).1).1
      refine ⟨[.sl ((List.range len).map fun i => (f i).2) .none], ⟨?_, trivial⟩, _, rfl, by simp; omega, ?_⟩
      ·have := DRel.sl (w := w) (L := zcg w) b off cap (P.cellsOf e) ((List.range len).map fun i => (f i).2) (fun i j => (f i).1.getD j undef) (by simp; exact h0) (by simpa using hl) ?_ ?_ ?_ ?_
       ·simpa using this
       ·-- the last cell is there
        have hi : len - 1 < len := by omega
        have hj : P.cellsOf e - 1 < (f (len - 1)).1.length := by rw [(zhx (hf _ hi).1).1]; omega
        have := zz5 (hcell (len - 1) hi (P.cellsOf e - 1) _ (List.getElem?_eq_getElem hj))
        have hmul : (len - 1) * P.cellsOf e + P.cellsOf e = len * P.cellsOf e := by
         rw [← Nat.succ_mul]; congr 1; omega
        simp
        omega
       ·intro i hi
        simp at hi
        simpa using hlen2 i hi
       ·intro i j hi hj
        simp at hi hj
        have hjl : j < (f i).1.length := by rw [(hf i hi).2.1.length]; exact hj
        simp only [List.getD_eq_getElem?_getD, List.getElem?_eq_getElem hjl, Option.getD_some]
        exact hcell i hi j _ (List.getElem?_eq_getElem hjl)
       ·intro i j hi hj
        simp at hi hj
        have hjl : j < (f i).1.length := by rw [(hf i hi).2.1.length]; exact hj
        obtain ⟨c, h1, h2⟩ := (hf i hi).2.1.get' (List.getElem?_eq_getElem hjl)
        simp only [List.getD_eq_getElem?_getD, List.getElem?_eq_getElem hjl, Option.getD_some, List.getElem_map, List.getElem_range]
        have : (f i).2[j] = c := by rw [List.getElem?_eq_getElem hj] at h1; exact Option.some.inj h1
        rw [this]
        exact h2
      ·intro c hc
       obtain ⟨i, hi, rfl⟩ := List.mem_map.1 hc
       exact (hf i (by simpa using hi)).2.2
   case struct fs =>
    simp only [Bool.and_eq_true] at hp
    obtain ⟨hfs, htile⟩ := hp
    obtain ⟨xs, n', hn, _, hcl, hxl, hat⟩ := DataW.trod_struct hu h
    obtain rfl : n = n' := by omega
    obtain ⟨asx, h1, h2⟩ := zt2 (P := P) (R := DRel w (zcg w)) (cs := cs) fs.toList 0 (P.cellsOf t) (fun f asx => zbg P n f.type asx) htile hcl (fun f hf => by
     obtain ⟨i, hi⟩ := List.mem_iff_getElem?.1 hf
     have hi' : fs[i]? = some f := by simpa using hi
     have h3 := hat i f hi'
     have hlt : i < xs.length := by rw [hxl]; exact (Array.getElem?_eq_some_iff.1 hi').1
     rw [List.getElem?_eq_getElem hlt] at h3
     exact ih f.type _ _ (by simpa using List.all_eq_true.1 hfs f hf) h3) (Nat.zero_le _)
    rw [List.drop_zero] at h1
    refine ⟨asx, h1, by rw [← h1.length]; exact hcl, fun f hf => ?_⟩
    simpa using (h2 f hf).1
end

theorem zio {Hh : Type} {enc : TypeId × Value → Hh} {P : Program} {w : World} {base : Nat} {spare : Nat → Bool} {held : Bool} {S : List TypeId} (hS : zgy P S = true) {t : TypeId} (ht : t ∈ S) {cs : Array Value} {d : DataW Hh} {p : List MemPlace}
  (h : DataW.Trod enc P w base spare held t (.agg cs) d p) : ∃ n asx, zbg P n t asx ∧ TRel w (G0 w) (.agg cs) (.agg asx) := by
 obtain ⟨n, hn⟩ := h
 obtain ⟨asx, h1, h2⟩ := zt9 hS n t _ _ ht hn
 exact ⟨n, asx, h2, cs, rfl, h1.mono fun _ _ hd => ARel.of_b (DRel.toB (G := G0 w) hd)⟩
theorem zgx {Hh : Type} {enc : TypeId × Value → Hh} {P : Program} {w : World} {base : Nat} {spare : Nat → Bool} {held : Bool} {S : List TypeId} (hS : zgy P S = true) {t : TypeId} (ht : t ∈ S) {v : Value} {d : DataW Hh} {p : List MemPlace} (hv : v.cells = #[v])
  (h : DataW.Trod enc P w base spare held t v d p) : ∃ n a, zbg P n t [a] ∧ TRel w (G0 w) v a := by
 obtain ⟨n, hn⟩ := h
 obtain ⟨asx, h1, h2⟩ := zt9 hS n t _ _ ht hn
 rw [hv] at h1
 match asx, h1, h2 with
 | [a], h1, h2 => exact ⟨n, a, h2, TRel.of_v (VRel.of_a (ARel.of_b (DRel.toB (G := G0 w) h1.1)))⟩
section
variable {P : Program} {n : Nat} {t : TypeId} {l : List AV}
theorem zff {k : IntKind} (hu : P.underlying t = some (.int k)) (h : zbg P n t l) : ∃ m, l = [.int k m] ∧ (Lit.int k m).wf = true := by
 cases n with
 | zero => exact h.elim
 | succ n => unfold zbg at h; rw [hu] at h; exact h
theorem zuh (hu : P.underlying t = some .string) (h : zbg P n t l) : ∃ s, l = [.str s] ∧ s.length ≤ maxLen := by
 cases n with
 | zero => exact h.elim
 | succ n => unfold zbg at h; rw [hu] at h; exact h
theorem zgG {e : TypeId} (hu : P.underlying t = some (.slice e)) (h : zbg P n t l) : ∃ es n', n' < n ∧ l = [.sl es .none] ∧ es.length ≤ maxLen ∧ ∀ c ∈ es, zbg P n' e c := by
 cases n with
 | zero => exact h.elim
 | succ n => unfold zbg at h; rw [hu] at h; obtain ⟨es, h1, h2, h3⟩ := h; exact ⟨es, n, by omega, h1, h2, h3⟩
theorem ziG {fs : Array Field} (hu : P.underlying t = some (.struct fs)) (h : zbg P n t l) : ∃ n', n' < n ∧ l.length = P.cellsOf t ∧ ∀ f ∈ fs.toList, zbg P n' f.type ((l.drop f.offset).take (P.cellsOf f.type)) := by
 cases n with
 | zero => exact h.elim
 | succ n => unfold zbg at h; rw [hu] at h; exact ⟨n, by omega, h⟩
theorem zeT {α : Type} {cs : α → List AV} : ∀ {es : List (List AV)}, (∀ c ∈ es, ∃ x, c = cs x) → ∃ xs : List α, es = xs.map cs
 | [], _ => ⟨[], rfl⟩
 | e :: es, h => by
  obtain ⟨x, hx⟩ := h e (by simp)
  obtain ⟨xs, hxs⟩ := zeT (es := es) (fun c hc => h c (by simp [hc]))
  exact ⟨x :: xs, by simp [hx, hxs]⟩
end
end Go.Abs
