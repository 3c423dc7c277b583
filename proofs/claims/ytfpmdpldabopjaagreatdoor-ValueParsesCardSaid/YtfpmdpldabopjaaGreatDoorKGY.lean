import Derived.Shelf.Strconv.Atoi
import Derived.Test.YtfpmdpldabopjaaGreatDoorProg
import Derived.Test.YtfpmdpldabopjaaGreatDoorA3
import Derived.Test.YtfpmdpldabopjaaGreatDoorKNum
import Derived.KernelRfl
import Derived.Shelf.LaysC
import Derived.Shelf.Strconv.ParseIntPublic10
import Derived.Shelf.Strings.Runes
import Derived.Lib.ItoaNum
import Derived.Lib.ItoaMem
import Derived.Shelf.Strconv.AtoiAll
set_option linter.unusedSimpArgs false
set_option linter.unusedVariables false
namespace Go.Proofs.YtfpmdpldabopjaaGreatDoor
open Go Go.Shelf Go.Abs
theorem bw_eq (w : World) (e : TypeId) (s : ByteArray) : Lib.bytesWorld w e s = w.drew.alloc (.cells (Lib.bytesCells w e s) e ((Lib.bytesCells w e s).size, (Lib.bytesCells w e s).size + 1)) := by
 have hh : (Lib.bytesWorld w e s).heap = (w.drew.alloc (.cells (Lib.bytesCells w e s) e ((Lib.bytesCells w e s).size, (Lib.bytesCells w e s).size + 1))).heap := by
  refine Array.ext_getElem? fun j => ?_
  rcases Nat.lt_trichotomy j w.heap.size with h | h | h
  ·rw [Lib.bytesWorld_at_old w e s j h]
   exact (alloc_old (w := w.drew) h).symm
  ·subst h
   rw [Lib.bytesWorld_at_new]
   exact (alloc_new (w := w.drew) _).symm
  ·rw [Array.getElem?_eq_none (by rw [Lib.bytesWorld_size]; omega), Array.getElem?_eq_none]
   rw [alloc_size]
   show w.heap.size + 1 ≤ j
   omega
 have h1 : Lib.bytesWorld w e s = { w.drew.alloc (.cells (Lib.bytesCells w e s) e ((Lib.bytesCells w e s).size, (Lib.bytesCells w e s).size + 1)) with heap := (Lib.bytesWorld w e s).heap } := rfl
 rw [h1, hh]
def zlayB_ren : Go.Shelf.Ren := ⟨fun | 174 => 172 | 247 => 211 | 245 => 169 | 287 => 240 | 279 => 212 | 280 => 213 | 281 => 214 | 282 => 215 | 321 => 257 | 322 => 258 | 316 => 241 | 171 => 112 | 205 => 242 | 243 => 167 | 246 => 165 | 283 => 207 | 284 => 208 | 285 => 209 | 286 => 210 | 129 => 185 | 317 => 236 | 318 => 237 | 319 => 238 | 320 => 239 | 337 => 255 | 338 => 256 | n => n, fun | 9 => 9 | 3 => 3 | 2 => 2 | 75 => 123 | 85 => 174 | 4 => 4 | 167 => 217 | 5 => 5 | 53 => 189 | 175 => 242 | 46 => 151 | 168 => 218 | 37 => 71 | 0 => 0 | 210 => 246 | 21 => 21 | 127 => 130 | 145 => 263 | 143 => 261 | 171 => 213 | 173 => 215 | 212 => 240 | 51 => 187 | 20 => 20 | 213 => 241 | 232 => 267 | 233 => 268 | 80 => 75 | n => n, fun | 15 => 1 | 16 => 2 | 17 => 0 | 18 => 4 | 19 => 5 | n => n⟩
theorem zlayB : Go.Proofs.LaysC.n174 Tryz.prog zlayB_ren := {
 mixed := by kernel_rfl
 f129 := Tryz.func185.trans (congrArg some (by kernel_rfl))
 f171 := Tryz.func112.trans (congrArg some (by kernel_rfl))
 f174 := Tryz.func172.trans (congrArg some (by kernel_rfl))
 f205 := Tryz.func242.trans (congrArg some (by kernel_rfl))
 f243 := Tryz.func167.trans (congrArg some (by kernel_rfl))
 f245 := Tryz.func169.trans (congrArg some (by kernel_rfl))
 f246 := Tryz.func165.trans (congrArg some (by kernel_rfl))
 f247 := Tryz.func211.trans (congrArg some (by kernel_rfl))
 f279 := Tryz.func212.trans (congrArg some (by kernel_rfl))
 f280 := Tryz.func213.trans (congrArg some (by kernel_rfl))
 f281 := Tryz.func214.trans (congrArg some (by kernel_rfl))
 f282 := Tryz.func215.trans (congrArg some (by kernel_rfl))
 f283 := Tryz.func207.trans (congrArg some (by kernel_rfl))
 f284 := Tryz.func208.trans (congrArg some (by kernel_rfl))
 f285 := Tryz.func209.trans (congrArg some (by kernel_rfl))
 f286 := Tryz.func210.trans (congrArg some (by kernel_rfl))
 f287 := Tryz.func240.trans (congrArg some (by kernel_rfl))
 f316 := Tryz.func241.trans (congrArg some (by kernel_rfl))
 f317 := Tryz.func236.trans (congrArg some (by kernel_rfl))
 f318 := Tryz.func237.trans (congrArg some (by kernel_rfl))
 f319 := Tryz.func238.trans (congrArg some (by kernel_rfl))
 f320 := Tryz.func239.trans (congrArg some (by kernel_rfl))
 f321 := Tryz.func257.trans (congrArg some (by kernel_rfl))
 f322 := Tryz.func258.trans (congrArg some (by kernel_rfl))
 f337 := Tryz.func255.trans (congrArg some (by kernel_rfl))
 f338 := Tryz.func256.trans (congrArg some (by kernel_rfl))
 t0 := Tryz.underlying0
 a0 := Tryz.isAgg0
 z0 := Tryz.sizeOf0
 v0 := Tryz.zeroValue0
 t2 := Tryz.underlying2
 a2 := Tryz.isAgg2
 z2 := Tryz.sizeOf2
 v2 := Tryz.zeroValue2
 t3 := Tryz.underlying3
 a3 := Tryz.isAgg3
 z3 := Tryz.sizeOf3
 v3 := Tryz.zeroValue3
 t4 := Tryz.underlying4
 a4 := Tryz.isAgg4
 z4 := Tryz.sizeOf4
 v4 := Tryz.zeroValue4
 t5 := Tryz.underlying5
 a5 := Tryz.isAgg5
 z5 := Tryz.sizeOf5
 v5 := Tryz.zeroValue5
 t9 := Tryz.underlying9
 a9 := Tryz.isAgg9
 z9 := Tryz.sizeOf9
 v9 := Tryz.zeroValue9
 t20 := Tryz.underlying20
 a20 := Tryz.isAgg20
 z20 := Tryz.sizeOf20
 v20 := Tryz.zeroValue20
 t21 := Tryz.underlying21
 a21 := Tryz.isAgg21
 z21 := Tryz.sizeOf21
 v21 := Tryz.zeroValue21
 t37 := Tryz.underlying71
 a37 := Tryz.isAgg71
 z37 := Tryz.sizeOf71
 v37 := Tryz.zeroValue71
 t46 := Tryz.underlying151
 a46 := Tryz.isAgg151
 z46 := Tryz.sizeOf151
 v46 := Tryz.zeroValue151
 t51 := Tryz.underlying187
 a51 := Tryz.isAgg187
 z51 := Tryz.sizeOf187
 v51 := Tryz.zeroValue187
 t53 := Tryz.underlying189
 a53 := Tryz.isAgg189
 z53 := Tryz.sizeOf189
 v53 := Tryz.zeroValue189
 t75 := Tryz.underlying123
 a75 := Tryz.isAgg123
 z75 := Tryz.sizeOf123
 v75 := Tryz.zeroValue123
 t85 := Tryz.underlying174
 a85 := Tryz.isAgg174
 z85 := Tryz.sizeOf174
 v85 := Tryz.zeroValue174
 t127 := Tryz.underlying130
 a127 := Tryz.isAgg130
 z127 := Tryz.sizeOf130
 v127 := Tryz.zeroValue130
 t143 := Tryz.underlying261
 a143 := Tryz.isAgg261
 z143 := Tryz.sizeOf261
 v143 := Tryz.zeroValue261
 t145 := Tryz.underlying263
 a145 := Tryz.isAgg263
 z145 := Tryz.sizeOf263
 v145 := Tryz.zeroValue263
 t167 := Tryz.underlying217
 a167 := Tryz.isAgg217
 z167 := Tryz.sizeOf217
 v167 := Tryz.zeroValue217
 t168 := Tryz.underlying218
 a168 := Tryz.isAgg218
 z168 := Tryz.sizeOf218
 v168 := Tryz.zeroValue218
 t171 := Tryz.underlying213
 a171 := Tryz.isAgg213
 z171 := Tryz.sizeOf213
 v171 := Tryz.zeroValue213
 t173 := Tryz.underlying215
 a173 := Tryz.isAgg215
 z173 := Tryz.sizeOf215
 v173 := Tryz.zeroValue215
 t175 := Tryz.underlying242
 a175 := Tryz.isAgg242
 z175 := Tryz.sizeOf242
 v175 := Tryz.zeroValue242
 t210 := Tryz.underlying246
 a210 := Tryz.isAgg246
 z210 := Tryz.sizeOf246
 v210 := Tryz.zeroValue246
 t212 := Tryz.underlying240
 a212 := Tryz.isAgg240
 z212 := Tryz.sizeOf240
 v212 := Tryz.zeroValue240
 t213 := Tryz.underlying241
 a213 := Tryz.isAgg241
 z213 := Tryz.sizeOf241
 t232 := Tryz.underlying267
 a232 := Tryz.isAgg267
 z232 := Tryz.sizeOf267
 v232 := Tryz.zeroValue267
 t233 := Tryz.underlying268
 a233 := Tryz.isAgg268
 z233 := Tryz.sizeOf268
 v233 := Tryz.zeroValue268
 g15 := by kernel_rfl
 g16 := by kernel_rfl
 g17 := by kernel_rfl
 g18 := by kernel_rfl
 g19 := by kernel_rfl
 t80 := Tryz.underlying75
 a80 := Tryz.isAgg75
 z80 := Tryz.sizeOf75
 v80 := Tryz.zeroValue75
 i0 := by kernel_rfl
 i2 := by kernel_rfl
 i3 := by kernel_rfl
 i4 := by kernel_rfl
 i5 := by kernel_rfl
 i9 := by kernel_rfl
 i20 := by kernel_rfl
 i21 := by kernel_rfl
 i37 := by kernel_rfl
 i46 := by kernel_rfl
 i51 := by kernel_rfl
 i53 := by kernel_rfl
 i75 := by kernel_rfl
 i80 := by kernel_rfl
 i85 := by kernel_rfl
 i127 := by kernel_rfl
 i143 := by kernel_rfl
 i145 := by kernel_rfl
 i167 := by kernel_rfl
 i168 := by kernel_rfl
 i171 := by kernel_rfl
 i173 := by kernel_rfl
 i175 := by kernel_rfl
 i210 := by kernel_rfl
 i212 := by kernel_rfl
 i232 := by kernel_rfl
 i233 := by kernel_rfl
 m15 := by kernel_rfl
 m16 := by kernel_rfl
 m17 := by kernel_rfl
 m18 := by kernel_rfl
 m19 := by kernel_rfl
 c0 := by kernel_rfl
 c2 := by kernel_rfl
 c3 := by kernel_rfl
 c4 := by kernel_rfl
 c5 := by kernel_rfl
 c9 := by kernel_rfl
 c20 := by kernel_rfl
 c21 := by kernel_rfl
 c37 := by kernel_rfl
 c46 := by kernel_rfl
 c51 := by kernel_rfl
 c53 := by kernel_rfl
 c75 := by kernel_rfl
 c80 := by kernel_rfl
 c85 := by kernel_rfl
 c127 := by kernel_rfl
 c143 := by kernel_rfl
 c145 := by kernel_rfl
 c167 := by kernel_rfl
 c168 := by kernel_rfl
 c171 := by kernel_rfl
 c173 := by kernel_rfl
 c175 := by kernel_rfl
 c210 := by kernel_rfl
 c212 := by kernel_rfl
 c213 := by kernel_rfl
 c232 := by kernel_rfl
 c233 := by kernel_rfl }
def zlayC_ren : Go.Shelf.Ren := ⟨fun | 151 => 173 | 152 => 217 | 137 => 244 | 119 => 245 | 224 => 246 | 225 => 247 | 217 => 259 | 266 => 270 | n => n, fun | 9 => 9 | 21 => 21 | 4 => 4 | 3 => 3 | 5 => 5 | 0 => 0 | 46 => 151 | n => n, fun | n => n⟩
theorem zlayC : Go.Proofs.Lays.n151 Tryz.prog zlayC_ren := {
 mixed := by kernel_rfl
 f119 := Tryz.func245.trans (congrArg some (by kernel_rfl))
 f137 := Tryz.func244.trans (congrArg some (by kernel_rfl))
 f151 := Tryz.func173.trans (congrArg some (by kernel_rfl))
 f152 := Tryz.func217.trans (congrArg some (by kernel_rfl))
 f217 := Tryz.func259.trans (congrArg some (by kernel_rfl))
 f224 := Tryz.func246.trans (congrArg some (by kernel_rfl))
 f225 := Tryz.func247.trans (congrArg some (by kernel_rfl))
 f266 := Tryz.func270.trans (congrArg some (by kernel_rfl))
 t0 := Tryz.underlying0
 a0 := Tryz.isAgg0
 z0 := Tryz.sizeOf0
 v0 := Tryz.zeroValue0
 t3 := Tryz.underlying3
 a3 := Tryz.isAgg3
 z3 := Tryz.sizeOf3
 v3 := Tryz.zeroValue3
 t4 := Tryz.underlying4
 a4 := Tryz.isAgg4
 z4 := Tryz.sizeOf4
 v4 := Tryz.zeroValue4
 t5 := Tryz.underlying5
 a5 := Tryz.isAgg5
 z5 := Tryz.sizeOf5
 v5 := Tryz.zeroValue5
 t9 := Tryz.underlying9
 a9 := Tryz.isAgg9
 z9 := Tryz.sizeOf9
 v9 := Tryz.zeroValue9
 t21 := Tryz.underlying21
 a21 := Tryz.isAgg21
 z21 := Tryz.sizeOf21
 v21 := Tryz.zeroValue21
 t46 := Tryz.underlying151
 a46 := Tryz.isAgg151
 z46 := Tryz.sizeOf151
 v46 := Tryz.zeroValue151 }
theorem ParseInt_ok (s : List UInt8) (n : Int) (hl : s.length ≤ 1000000000) (h : Lib.parseIntB 64 s = .ok n) (H : Heap) (K : AV → Heap → Prop) (hK : K (.tup [.int .i64 n, .nili]) H) : ACalls Tryz.prog n_zq170 [.str s, .int .i64 10, .int .i64 64] H K := by
 intro B w G ⟨vs⟩ hH hv
 match vs, hv with
 | [v0, v1, v2], ⟨e0, e1, e2, _⟩ =>
  have e0 : v0 = .string ⟨s.toArray⟩ := e0
  have e1 : v1 = .int .i64 10 := e1
  have e2 : v2 = .int .i64 64 := e2
  subst e0 e1 e2
  refine ((Any.strconv_ParseInt_10_at64_ok zlayB ⟨s.toArray⟩ (by simp [ByteArray.size]; omega) n h w : Calls Tryz.prog 172 _ _ _)).mono ?_
  rintro e w' ⟨rfl, rfl | ⟨t, rfl⟩⟩
  ·exact ⟨_, .tup [.int .i64 n, .nili], H, G, rfl, Ext.refl _ _ _, hH, ⟨_, rfl, rfl, rfl, trivial⟩, hK⟩
  ·show ∃ v r H' G', _
   have hbw : Lib.bytesWorld w (zlayB_ren.t 5) t = w.drew.alloc (.cells (Lib.bytesCells w (zlayB_ren.t 5) t) (zlayB_ren.t 5) ((Lib.bytesCells w (zlayB_ren.t 5) t).size, (Lib.bytesCells w (zlayB_ren.t 5) t).size + 1)) := bw_eq _ _ _
   rw [hbw]
   obtain ⟨h1, h2⟩ := (hH.drew (w.drawn + 1)).other (.cells (Lib.bytesCells w (zlayB_ren.t 5) t) (zlayB_ren.t 5) ((Lib.bytesCells w (zlayB_ren.t 5) t).size, (Lib.bytesCells w (zlayB_ren.t 5) t).size + 1))
   exact ⟨_, .tup [.int .i64 n, .nili], H, G, rfl, (Ext.drew B w G (w.drawn + 1)).trans h1, h2, ⟨_, rfl, rfl, rfl, trivial⟩, hK⟩
theorem ContainsRune_ok (s : List UInt8) (b : UInt8) (hb : b.toNat < 128) (H : Heap) (K : AV → Heap → Prop) (hK : K (.bool (decide (0 ≤ Lib.indexByte s b))) H) : ACalls Tryz.prog n_zq171 [.str s, .int .i32 b.toNat] H K := by
 intro B w G ⟨vs⟩ hH hv
 match vs, hv with
 | [v0, v1], ⟨e0, e1, _⟩ =>
  have e0 : v0 = .string ⟨s.toArray⟩ := e0
  have e1 : v1 = .int .i32 b.toNat := e1
  subst e0 e1
  refine ((Any.strings_ContainsRune_ascii zlayC ⟨s.toArray⟩ b.toNat w (by omega) (by omega) : Calls Tryz.prog 173 _ _ _)).mono ?_
  rintro e w' ⟨rfl, rfl⟩
  have hbb : ((b.toNat : Int).toNat.toUInt8) = b := by simp
  rw [hbb]
  exact ⟨_, .bool (decide (0 ≤ Lib.indexByte s b)), H, G, rfl, Ext.refl _ _ _, hH, rfl, hK⟩
theorem parse_snoc (c : UInt8) (hc : 48 ≤ c.toNat ∧ c.toNat ≤ 57) : ∀ (l : List UInt8) (acc u : Nat), Lib.parseUint10 acc l = .ok u → u < 1844674407370955161 → Lib.parseUint10 acc (l ++ [c]) = .ok (u * 10 + (c.toNat - 48))
 | [], acc, u, h, hu => by
  simp only [Lib.parseUint10] at h
  injection h with h
  subst h
  simp only [List.nil_append, Lib.parseUint10, hc.1, hc.2, and_self, if_true]
  rw [if_neg (by omega), if_neg (by omega)]
 | d :: l, acc, u, h, hu => by
  simp only [List.cons_append, Lib.parseUint10] at h ⊢
  split at h
  ·rename_i hd
   rw [if_pos hd]
   split at h
   ·cases h
   ·rename_i h1
    rw [if_neg h1]
    split at h
    ·cases h
    ·rename_i h2
     rw [if_neg h2]
     exact parse_snoc c hc l _ u h hu
  ·cases h
end Go.Proofs.YtfpmdpldabopjaaGreatDoor
namespace Go.Proofs.YtfpmdpldabopjaaGreatDoor
open Go Go.Shelf Go.Abs Go.RowKit
def EF (w : World) : Prop := ∃ e1 e2, (w.cell? ⟨1, 0, none⟩ = some e1 ∧ (e1 = .nilIface ∨ ∃ te pe, e1 = .iface te pe)) ∧ (w.cell? ⟨2, 0, none⟩ = some e2 ∧ (e2 = .nilIface ∨ ∃ te pe, e2 = .iface te pe))
theorem hrel_below {B : Nat} {w w' : World} {G : Gh} {H : Heap} (h : HRel B w G H) (hb : Below w.heap.size w w') : Ext B w G w' G ∧ HRel B w' G H := by
 have he : Ext B w G w' G := ⟨hb.mono h.base, fun _ => Nat.le_refl _, fun b off ho => hb.cell (p := ⟨b, off, none⟩) (L_lt h ho), fun _ gi hg => ⟨gi, hg, gi.le_refl⟩⟩
 exact ⟨he, h.keep he rfl (fun id gi b h1 h2 => ⟨hb.block b (h.lt id gi b h1 h2), rfl⟩) fun b hbb => h.fresh b (Nat.le_trans hb.size hbb)⟩
end Go.Proofs.YtfpmdpldabopjaaGreatDoor
namespace Go.Proofs.YtfpmdpldabopjaaGreatDoor
open Go Go.Abs
set_option maxRecDepth 100000
def zq46_M : Nat → List Bool
 | 5 => rl false [1,2,2,1,24]
 | _ => []
noncomputable def zq46_c : Code := Tryz.f48.body.getD .skip
noncomputable def zq46_r : List ResultVar := Tryz.f48.results.toList
def zq46_fr5 (t1 t2 t5 : AV) : List AV := ux 1 (t1 :: t2 :: ux 2 (t5 :: ux 24 []))
def zq46_m5 : List Bool := zq46_M 5
noncomputable def zq46_c5 : Code := codeAt [1, 1, 1, 0, 1, 0, 0] zq46_c
def zq46_Q5 (K : Kt) : AExit → List AV → Heap → Prop := contAt Tryz.prog zq46_M [1, 1, 1, 0, 1, 0] zq46_c (retQ Tryz.prog zq46_r K)
def zq46_l5 (t1 t2 t5 : AV) (H : Heap) (K : Kt) : Prop := ALoop Tryz.prog zq46_c5 (zq46_Q5 K) (zq46_fr5 t1 t2 t5) H
def zq46_b5 (t1 t2 t5 : AV) (H : Heap) (K : Kt) (Kb5 : Lt) : Prop :=
 aFld 2 t2 fun t16 =>
 aLoad false 1 t16 H fun t17 =>
 aLen 1 t17 fun t18 =>
 aBin .lss false t5 t18 fun t19 =>
 aTest t19
 (aFld 2 t2 fun t22 =>
 aLoad false 1 t22 H fun t23 =>
 aIdxA 3 t23 t5 fun t25 =>
 aLoad true 3 t25 H fun t26 =>
 ACalls Tryz.prog n_zq46 [t26, t1] H fun t28 H =>
 aUn .not t28 fun t29 =>
 aTest t29
 (K (.bool false) H)
 (aBin .add false t5 (.int .i64 1) fun t21 =>
 Kb5 (zq46_fr5 t1 t2 t21) H))
 (K (.bool true) H)
def zq46 (t0 t1 : AV) (H : Heap) (K : Kt) : Prop :=
 aBox t0 H fun t2 H =>
 aNil t1 fun t7 =>
 aLoad false 1 t7 H fun t8 =>
 aBin .sub false t8 (.int .i64 1) fun t9 =>
 aNil t1 fun t10 =>
 aStore 1 t10 t9 H fun H =>
 aNil t1 fun t12 =>
 aLoad false 1 t12 H fun t13 =>
 aBin .lss false t13 (.int .i64 0) fun t14 =>
 aTest t14
 (K (.bool false) H)
 (zq46_l5 t1 t2 (.int .i64 0) H K)
theorem zq46_b5_eq (t1 t2 t5 : AV) (H : Heap) (K : Kt) (Kb5 : Lt) : awp Tryz.prog zq46_M zq46_c5 (roundQ zq46_m5 Kb5 (zq46_Q5 K)) (zq46_fr5 t1 t2 t5) H = zq46_b5 t1 t2 t5 H K Kb5 := by kernel_rfl
theorem zq46_loop5 {t1 t2 t5 : AV} {H : Heap} {K : Kt} (Inv : Nat → AV → Heap → Prop) (n : Nat) (h0 : HSc H → Inv n t5 H)
  (round : ∀ n t5 H', Inv n t5 H' → HSc H' → H.length ≤ H'.length → (zq46_fr5 t1 t2 t5).all (AV.sc H'.length) = true → ∀ Kb5 : Lt, (∀ F'' H'', (∃ n', n' < n ∧ Back H.length (fun F2 H2 => ∃ t5, F2 = zq46_fr5 t1 t2 t5 ∧ Inv n' t5 H2) F'' H'') → Kb5 F'' H'') → zq46_b5 t1 t2 t5 H' K Kb5) : zq46_l5 t1 t2 t5 H K :=
 aloop (M := zq46_M) zq46_m5 (fun n F H => ∃ t5, F = zq46_fr5 t1 t2 t5 ∧ Inv n t5 H) n (fun hs _ => ⟨t5, rfl, h0 hs⟩) (fun n F H' ⟨t5, hF, hI⟩ h1 h2 h3 => by subst hF; rw [zq46_b5_eq]; exact round n t5 H' hI h1 h2 h3 _ (fun _ _ h => h))
theorem zq46_eq (t0 t1 : AV) (H : Heap) (K : Kt) : awp Tryz.prog zq46_M zq46_c (retQ Tryz.prog zq46_r K) (t0 :: t1 :: List.replicate 28 .unk) H = zq46 t0 t1 H K := by kernel_rfl
theorem zq46_ok {t0 t1 : AV} {H : Heap} {K : Kt} (h : HSc H → zq46 t0 t1 H K) : ACalls Tryz.prog n_zq46 [t0, t1] H K :=
 acalls_body (M := zq46_M) Tryz.func48 (c := zq46_c) (by kernel_rfl) (fun hs => (zq46_eq t0 t1 H K).mpr (h hs))
def zq15_M (_ : Nat) : List Bool := []
noncomputable def zq15_c : Code := Tryz.f17.body.getD .skip
noncomputable def zq15_r : List ResultVar := Tryz.f17.results.toList
def zq15 (t0 : AV) (H : Heap) (K : Kt) : Prop :=
 aBox t0 H fun t1 H =>
 aNew [(.int .i64 0)] H fun t3 H =>
 aStore 1 t3 (.int .i64 250) H fun H =>
 aLoad true 3 t1 H fun t4 =>
 ACalls Tryz.prog n_zq46 [t4, t3] H fun t5 H =>
 K t5 H
theorem zq15_eq (t0 : AV) (H : Heap) (K : Kt) : awp Tryz.prog zq15_M zq15_c (retQ Tryz.prog zq15_r K) (t0 :: List.replicate 5 .unk) H = zq15 t0 H K := by kernel_rfl
theorem zq15_ok {t0 : AV} {H : Heap} {K : Kt} (h : HSc H → zq15 t0 H K) : ACalls Tryz.prog n_zq15 [t0] H K :=
 acalls_body (M := zq15_M) Tryz.func17 (c := zq15_c) (by kernel_rfl) (fun hs => (zq15_eq t0 H K).mpr (h hs))
def zq13_M : Nat → List Bool
 | 4 => rl false [13,3,43]
 | 9 => rl false [13,3,14,3,26]
 | 15 => rl false [7,1,5,3,14,3,14,3,9]
 | _ => []
noncomputable def zq13_c : Code := Tryz.f15.body.getD .skip
noncomputable def zq13_r : List ResultVar := Tryz.f15.results.toList
def zq13_fr4 (t13 t14 t15 : AV) : List AV := ux 13 (t13 :: t14 :: t15 :: ux 43 [])
def zq13_m4 : List Bool := zq13_M 4
noncomputable def zq13_c4 : Code := codeAt [1, 1, 0, 1, 0, 0] zq13_c
def zq13_Q4 (K : Kt) : AExit → List AV → Heap → Prop := contAt Tryz.prog zq13_M [1, 1, 0, 1, 0] zq13_c (retQ Tryz.prog zq13_r K)
def zq13_l4 (t13 t14 t15 : AV) (H : Heap) (K : Kt) : Prop := ALoop Tryz.prog zq13_c4 (zq13_Q4 K) (zq13_fr4 t13 t14 t15) H
def zq13_fr9 (t13 t14 t15 t30 t31 t32 : AV) : List AV := ux 13 (t13 :: t14 :: t15 :: ux 14 (t30 :: t31 :: t32 :: ux 26 []))
def zq13_m9 : List Bool := zq13_M 9
noncomputable def zq13_c9 : Code := codeAt [1, 1, 0, 0, 1, 1, 1, 0, 0] zq13_c4
def zq13_Q9 (K : Kt) (Kb4 : Lt) : AExit → List AV → Heap → Prop := contAt Tryz.prog zq13_M [1, 1, 0, 0, 1, 1, 1, 0] zq13_c4 (roundQ zq13_m4 Kb4 (zq13_Q4 K))
def zq13_l9 (t13 t14 t15 t30 t31 t32 : AV) (H : Heap) (K : Kt) (Kb4 : Lt) : Prop := ALoop Tryz.prog zq13_c9 (zq13_Q9 K Kb4) (zq13_fr9 t13 t14 t15 t30 t31 t32) H
def zq13_fr15 (t7 t13 t14 t15 t30 t31 t32 t47 t48 t49 : AV) : List AV := ux 7 (t7 :: ux 5 (t13 :: t14 :: t15 :: ux 14 (t30 :: t31 :: t32 :: ux 14 (t47 :: t48 :: t49 :: ux 9 []))))
def zq13_m15 : List Bool := zq13_M 15
noncomputable def zq13_c15 : Code := codeAt [1, 1, 0, 0, 1, 1, 1, 1, 0, 0] zq13_c9
def zq13_Q15 (K : Kt) (Kb4 : Lt) (Kb9 : Lt) : AExit → List AV → Heap → Prop := contAt Tryz.prog zq13_M [1, 1, 0, 0, 1, 1, 1, 1, 0] zq13_c9 (roundQ zq13_m9 Kb9 (zq13_Q9 K Kb4))
def zq13_l15 (t7 t13 t14 t15 t30 t31 t32 t47 t48 t49 : AV) (H : Heap) (K : Kt) (Kb4 : Lt) (Kb9 : Lt) : Prop := ALoop Tryz.prog zq13_c15 (zq13_Q15 K Kb4 Kb9) (zq13_fr15 t7 t13 t14 t15 t30 t31 t32 t47 t48 t49) H
def zq13_b15 (t7 t13 t14 t15 t30 t31 t32 t47 t48 t49 : AV) (H : Heap) (K : Kt) (Kb4 : Lt) (Kb9 : Lt) (Kb15 : Lt) : Prop :=
 aBin .lss false t49 t48 fun t50 =>
 aTest t50
 (aIdxA 3 t47 t49 fun t51 =>
 aLoad true 3 t51 H fun t52 =>
 aNew [(.int .i64 0), (.int .i64 0), .snil] H fun t9 H =>
 aStore 3 t9 t52 H fun H =>
 aLoad true 3 t9 H fun t53 =>
 ACalls Tryz.prog n_zq46 [t53, t7] H fun t54 H =>
 aUn .not t54 fun t55 =>
 aTest t55
 (K (.bool false) H)
 (aBin .add false t49 (.int .i64 1) fun t56 =>
 Kb15 (zq13_fr15 t7 t13 t14 t15 t30 t31 t32 t47 t48 t56) H))
 (aBin .add false t32 (.int .i64 1) fun t57 =>
 Kb9 (zq13_fr9 t13 t14 t15 t30 t31 t57) H)
def zq13_b9 (t13 t14 t15 t30 t31 t32 : AV) (H : Heap) (K : Kt) (Kb4 : Lt) (Kb9 : Lt) : Prop :=
 aBin .lss false t32 t31 fun t33 =>
 aTest t33
 (aIdxA 2 t30 t32 fun t34 =>
 aLoad true 2 t34 H fun t35 =>
 aNew [(.str []), .snil] H fun t6 H =>
 aStore 2 t6 t35 H fun H =>
 aFld 0 t6 fun t36 =>
 aLoad false 1 t36 H fun t37 =>
 aLen 0 t37 fun t38 =>
 aBin .gtr false t38 (.int .i64 40) fun t39 =>
 aGuardJ t39 false H (fun K' => aFld 1 t6 (K' · H)) fun t41 H =>
 aGuardJ t39 false H (fun K' => aLoad false 1 t41 H (K' · H)) fun t42 H =>
 aGuardJ t39 false H (fun K' => aLen 1 t42 (K' · H)) fun t43 H =>
 aGuardJ t39 false H (fun K' => aBin .gtr false t43 (.int .i64 8) (K' · H)) fun t44 H =>
 aPick t39 (.bool true) t44 fun t45 =>
 aTest t45
 (K (.bool false) H)
 (aNew [(.int .i64 0)] H fun t7 H =>
 aStore 1 t7 (.int .i64 20) H fun H =>
 aFld 1 t6 fun t46 =>
 aLoad false 1 t46 H fun t47 =>
 aLen 1 t47 fun t48 =>
 zq13_l15 t7 t13 t14 t15 t30 t31 t32 t47 t48 (.int .i64 0) H K Kb4 Kb9))
 (aBin .add false t15 (.int .i64 1) fun t58 =>
 Kb4 (zq13_fr4 t13 t14 t58) H)
def zq13_b4 (t13 t14 t15 : AV) (H : Heap) (K : Kt) (Kb4 : Lt) : Prop :=
 aBin .lss false t15 t14 fun t16 =>
 aTest t16
 (aIdxA 3 t13 t15 fun t17 =>
 aLoad true 3 t17 H fun t18 =>
 aNew [(.str []), (.int .i64 0), .snil] H fun t4 H =>
 aStore 3 t4 t18 H fun H =>
 aFld 0 t4 fun t19 =>
 aLoad false 1 t19 H fun t20 =>
 aLen 0 t20 fun t21 =>
 aBin .gtr false t21 (.int .i64 40) fun t22 =>
 aGuardJ t22 false H (fun K' => aFld 2 t4 (K' · H)) fun t24 H =>
 aGuardJ t22 false H (fun K' => aLoad false 1 t24 H (K' · H)) fun t25 H =>
 aGuardJ t22 false H (fun K' => aLen 1 t25 (K' · H)) fun t26 H =>
 aGuardJ t22 false H (fun K' => aBin .gtr false t26 (.int .i64 10) (K' · H)) fun t27 H =>
 aPick t22 (.bool true) t27 fun t28 =>
 aTest t28
 (K (.bool false) H)
 (aFld 2 t4 fun t29 =>
 aLoad false 1 t29 H fun t30 =>
 aLen 1 t30 fun t31 =>
 zq13_l9 t13 t14 t15 t30 t31 (.int .i64 0) H K Kb4))
 (K (.bool true) H)
def zq13 (t0 : AV) (H : Heap) (K : Kt) : Prop :=
 aLen 1 t0 fun t11 =>
 aBin .gtr false t11 (.int .i64 14) fun t12 =>
 aTest t12
 (K (.bool false) H)
 (aLen 1 t0 fun t14 =>
 zq13_l4 t0 t14 (.int .i64 0) H K)
theorem zq13_b15_eq (t7 t13 t14 t15 t30 t31 t32 t47 t48 t49 : AV) (H : Heap) (K : Kt) (Kb4 : Lt) (Kb9 : Lt) (Kb15 : Lt) : awp Tryz.prog zq13_M zq13_c15 (roundQ zq13_m15 Kb15 (zq13_Q15 K Kb4 Kb9)) (zq13_fr15 t7 t13 t14 t15 t30 t31 t32 t47 t48 t49) H = zq13_b15 t7 t13 t14 t15 t30 t31 t32 t47 t48 t49 H K Kb4 Kb9 Kb15 := by kernel_rfl
theorem zq13_loop15 {t7 t13 t14 t15 t30 t31 t32 t47 t48 t49 : AV} {H : Heap} {K : Kt} {Kb4 : Lt} {Kb9 : Lt} (Inv : Nat → AV → Heap → Prop) (n : Nat) (h0 : HSc H → Inv n t49 H)
  (round : ∀ n t49 H', Inv n t49 H' → HSc H' → H.length ≤ H'.length → (zq13_fr15 t7 t13 t14 t15 t30 t31 t32 t47 t48 t49).all (AV.sc H'.length) = true → ∀ Kb15 : Lt, (∀ F'' H'', (∃ n', n' < n ∧ Back H.length (fun F2 H2 => ∃ t49, F2 = zq13_fr15 t7 t13 t14 t15 t30 t31 t32 t47 t48 t49 ∧ Inv n' t49 H2) F'' H'') → Kb15 F'' H'') → zq13_b15 t7 t13 t14 t15 t30 t31 t32 t47 t48 t49 H' K Kb4 Kb9 Kb15) : zq13_l15 t7 t13 t14 t15 t30 t31 t32 t47 t48 t49 H K Kb4 Kb9 :=
 aloop (M := zq13_M) zq13_m15 (fun n F H => ∃ t49, F = zq13_fr15 t7 t13 t14 t15 t30 t31 t32 t47 t48 t49 ∧ Inv n t49 H) n (fun hs _ => ⟨t49, rfl, h0 hs⟩) (fun n F H' ⟨t49, hF, hI⟩ h1 h2 h3 => by subst hF; rw [zq13_b15_eq]; exact round n t49 H' hI h1 h2 h3 _ (fun _ _ h => h))
theorem zq13_b9_eq (t13 t14 t15 t30 t31 t32 : AV) (H : Heap) (K : Kt) (Kb4 : Lt) (Kb9 : Lt) : awp Tryz.prog zq13_M zq13_c9 (roundQ zq13_m9 Kb9 (zq13_Q9 K Kb4)) (zq13_fr9 t13 t14 t15 t30 t31 t32) H = zq13_b9 t13 t14 t15 t30 t31 t32 H K Kb4 Kb9 := by kernel_rfl
theorem zq13_loop9 {t13 t14 t15 t30 t31 t32 : AV} {H : Heap} {K : Kt} {Kb4 : Lt} (Inv : Nat → AV → Heap → Prop) (n : Nat) (h0 : HSc H → Inv n t32 H)
  (round : ∀ n t32 H', Inv n t32 H' → HSc H' → H.length ≤ H'.length → (zq13_fr9 t13 t14 t15 t30 t31 t32).all (AV.sc H'.length) = true → ∀ Kb9 : Lt, (∀ F'' H'', (∃ n', n' < n ∧ Back H.length (fun F2 H2 => ∃ t32, F2 = zq13_fr9 t13 t14 t15 t30 t31 t32 ∧ Inv n' t32 H2) F'' H'') → Kb9 F'' H'') → zq13_b9 t13 t14 t15 t30 t31 t32 H' K Kb4 Kb9) : zq13_l9 t13 t14 t15 t30 t31 t32 H K Kb4 :=
 aloop (M := zq13_M) zq13_m9 (fun n F H => ∃ t32, F = zq13_fr9 t13 t14 t15 t30 t31 t32 ∧ Inv n t32 H) n (fun hs _ => ⟨t32, rfl, h0 hs⟩) (fun n F H' ⟨t32, hF, hI⟩ h1 h2 h3 => by subst hF; rw [zq13_b9_eq]; exact round n t32 H' hI h1 h2 h3 _ (fun _ _ h => h))
theorem zq13_b4_eq (t13 t14 t15 : AV) (H : Heap) (K : Kt) (Kb4 : Lt) : awp Tryz.prog zq13_M zq13_c4 (roundQ zq13_m4 Kb4 (zq13_Q4 K)) (zq13_fr4 t13 t14 t15) H = zq13_b4 t13 t14 t15 H K Kb4 := by kernel_rfl
theorem zq13_loop4 {t13 t14 t15 : AV} {H : Heap} {K : Kt} (Inv : Nat → AV → Heap → Prop) (n : Nat) (h0 : HSc H → Inv n t15 H)
  (round : ∀ n t15 H', Inv n t15 H' → HSc H' → H.length ≤ H'.length → (zq13_fr4 t13 t14 t15).all (AV.sc H'.length) = true → ∀ Kb4 : Lt, (∀ F'' H'', (∃ n', n' < n ∧ Back H.length (fun F2 H2 => ∃ t15, F2 = zq13_fr4 t13 t14 t15 ∧ Inv n' t15 H2) F'' H'') → Kb4 F'' H'') → zq13_b4 t13 t14 t15 H' K Kb4) : zq13_l4 t13 t14 t15 H K :=
 aloop (M := zq13_M) zq13_m4 (fun n F H => ∃ t15, F = zq13_fr4 t13 t14 t15 ∧ Inv n t15 H) n (fun hs _ => ⟨t15, rfl, h0 hs⟩) (fun n F H' ⟨t15, hF, hI⟩ h1 h2 h3 => by subst hF; rw [zq13_b4_eq]; exact round n t15 H' hI h1 h2 h3 _ (fun _ _ h => h))
theorem zq13_eq (t0 : AV) (H : Heap) (K : Kt) : awp Tryz.prog zq13_M zq13_c (retQ Tryz.prog zq13_r K) (t0 :: List.replicate 58 .unk) H = zq13 t0 H K := by kernel_rfl
theorem zq13_ok {t0 : AV} {H : Heap} {K : Kt} (h : HSc H → zq13 t0 H K) : ACalls Tryz.prog n_zq13 [t0] H K :=
 acalls_body (M := zq13_M) Tryz.func15 (c := zq13_c) (by kernel_rfl) (fun hs => (zq13_eq t0 H K).mpr (h hs))
def zq85_M (_ : Nat) : List Bool := []
noncomputable def zq85_c : Code := Tryz.f87.body.getD .skip
noncomputable def zq85_r : List ResultVar := Tryz.f87.results.toList
def zq85 (t0 t1 t2 : AV) (H : Heap) (K : Kt) : Prop :=
 aBox t1 H fun t4 H =>
 aBuild [.snil, (.int .i64 0), (.int .i64 0)] [(0, 1), (1, 1), (2, 1)] [(0, t0), (1, t2), (2, (.int .i64 200))] fun t10 =>
 aBox t10 H fun t11 H =>
 aLoad true 3 t4 H fun t13 =>
 ACalls Tryz.prog n_zq153 [t11, t13] H fun t14 H =>
 K t14 H
theorem zq85_eq (t0 t1 t2 : AV) (H : Heap) (K : Kt) : awp Tryz.prog zq85_M zq85_c (retQ Tryz.prog zq85_r K) (t0 :: t1 :: t2 :: List.replicate 12 .unk) H = zq85 t0 t1 t2 H K := by kernel_rfl
theorem zq85_ok {t0 t1 t2 : AV} {H : Heap} {K : Kt} (h : HSc H → zq85 t0 t1 t2 H K) : ACalls Tryz.prog n_zq85 [t0, t1, t2] H K :=
 acalls_body (M := zq85_M) Tryz.func87 (c := zq85_c) (by kernel_rfl) (fun hs => (zq85_eq t0 t1 t2 H K).mpr (h hs))
def zq153_M : Nat → List Bool
 | 171022 => rl false [2,2,16,1,53,1,34]
 | 150010 => rl false [2,2,1,2,13,2,87]
 | 100007 => rl false [2,2,1,2,13,1,88]
 | 100002 => rl false [2,2,105]
 | _ => []
noncomputable def zq153_c : Code := Tryz.f155.body.getD .skip
noncomputable def zq153_r : List ResultVar := Tryz.f155.results.toList
def zq153_j5 (t2 t3 t5 t6 : AV) (H : Heap) (K : Kt) : Prop :=
 aFld 0 t3 fun t79 =>
 aLoad false 1 t79 H fun t80 =>
 aBin .neq false t80 (.int .i64 4) fun t81 =>
 aGuardJ t81 true H (fun K' => aFld 0 t3 (K' · H)) fun t83 H =>
 aGuardJ t81 true H (fun K' => aLoad false 1 t83 H (K' · H)) fun t84 H =>
 aGuardJ t81 true H (fun K' => aBin .neq false t84 (.int .i64 5) (K' · H)) fun t85 H =>
 aPick t81 t85 (.bool false) fun t86 =>
 aGuardJ t86 true H (fun K' => aFld 1 t3 (K' · H)) fun t88 H =>
 aGuardJ t86 true H (fun K' => aLoad false 1 t88 H (K' · H)) fun t89 H =>
 aGuardJ t86 true H (fun K' => aBin .neq false t89 (.int .i64 0) (K' · H)) fun t90 H =>
 aPick t86 t90 (.bool false) fun t91 =>
 aTest t91
 (K (.bool false) H)
 (aFld 2 t3 fun t92 =>
 aLoad false 1 t92 H fun t93 =>
 aLen 1 t93 fun t94 =>
 aBin .lss false t94 t5 fun t96 =>
 aGuardJ t96 false H (fun K' => aFld 2 t3 (K' · H)) fun t98 H =>
 aGuardJ t96 false H (fun K' => aLoad false 1 t98 H (K' · H)) fun t99 H =>
 aGuardJ t96 false H (fun K' => aLen 1 t99 (K' · H)) fun t100 H =>
 aGuardJ t96 false H (fun K' => K' t6 H) fun t101 H =>
 aGuardJ t96 false H (fun K' => aBin .gtr false t100 t101 (K' · H)) fun t102 H =>
 aPick t96 (.bool true) t102 fun t103 =>
 aTest t103
 (K (.bool false) H)
 (aFld 2 t3 fun t104 =>
 aLoad false 1 t104 H fun t105 =>
 aClos n_zq196 [t2] fun t106 =>
 ACalls Tryz.prog n_zq144 [t105, t106] H fun t107 H =>
 aUn .not t107 fun t108 =>
 K t108 H))
def zq153_j4 (t2 t3 t5 t6 : AV) (H : Heap) (K : Kt) : Prop :=
 zq153_j5 t2 t3 t5 t6 H K
noncomputable def zq153_j6_c : Code := codeAt [1, 1, 1, 1, 0, 1, 0, 1, 1, 1, 1, 1, 1, 1, 1, 1] zq153_c
def zq153_j6_Q (K : Kt) : AExit → List AV → Heap → Prop := contAt Tryz.prog zq153_M [1, 1, 1, 1, 0, 1, 0, 1, 1, 1, 1, 1, 1, 1, 1, 1] zq153_c (retQ Tryz.prog zq153_r K)
def zq153_j6 (t2 t3 t20 t74 : AV) (H : Heap) (K : Kt) : Prop := AWp Tryz.prog zq153_j6_c (zq153_j6_Q K) (ux 2 (t2 :: t3 :: ux 16 (t20 :: ux 53 (t74 :: ux 34 [])))) H
def zq153_j6b (t2 t3 t20 t74 : AV) (H : Heap) (K : Kt) : Prop :=
 aTest t74
 (zq153_j4 t2 t3 (.int .i64 1) (.int .i64 1) H K)
 (aBin .eql false t20 (.int .i64 9) fun t78 =>
 aTest t78
 (zq153_j4 t2 t3 (.int .i64 1) (.int .i64 7) H K)
 (K (.bool false) H))
noncomputable def zq153_j3_c : Code := codeAt [1, 1, 1, 1, 0, 1, 0, 1] zq153_c
def zq153_j3_Q (K : Kt) : AExit → List AV → Heap → Prop := contAt Tryz.prog zq153_M [1, 1, 1, 1, 0, 1, 0, 1] zq153_c (retQ Tryz.prog zq153_r K)
def zq153_j3 (t2 t3 t5 t6 t20 t21 : AV) (H : Heap) (K : Kt) : Prop := AWp Tryz.prog zq153_j3_c (zq153_j3_Q K) (ux 2 (t2 :: t3 :: ux 1 (t5 :: t6 :: ux 13 (t20 :: t21 :: ux 87 [])))) H
def zq153_j3b (t2 t3 t5 t6 t20 t21 : AV) (H : Heap) (K : Kt) : Prop :=
 aTest t21
 (zq153_j4 t2 t3 t5 t6 H K)
 (aBin .eql false t20 (.int .i64 4) fun t26 =>
 aTest t26
 (aPure H (fun K' => aFld 1 t3 (K' · H)) fun t27 =>
 aPure H (fun K' => aLoadC false 1 t27 H (K' · H)) fun t28 =>
 aPure H (fun K' => aBin .lss false t28 (.int .i64 0) (K' · H)) fun t29 =>
 aPure H (fun K' => K' t29 H) fun t30 =>
 aGuardJ t30 false H (fun K' => aPure H (fun K'' => aFld 1 t3 (K'' · H)) (K' · H)) fun t31 H =>
 aGuardJ t30 false H (fun K' => aPure H (fun K'' => aLoadC false 1 t31 H (K'' · H)) (K' · H)) fun t32 H =>
 aGuardJ t30 false H (fun K' => aPure H (fun K'' => aLoadC false 1 t2 H (K'' · H)) (K' · H)) fun t33 H =>
 aGuardJ t30 false H (fun K' => aPure H (fun K'' => aNil t33 (K'' · H)) (K' · H)) fun t34 H =>
 aGuardJ t30 false H (fun K' => aPure H (fun K'' => aFld 1 t34 (K'' · H)) (K' · H)) fun t35 H =>
 aGuardJ t30 false H (fun K' => aPure H (fun K'' => aLoadC false 1 t35 H (K'' · H)) (K' · H)) fun t36 H =>
 aGuardJ t30 false H (fun K' => aPure H (fun K'' => aBin .geq false t32 t36 (K'' · H)) (K' · H)) fun t37 H =>
 aPure H (fun K' => aPick t30 (.bool true) t37 (K' · H)) fun t38 =>
 aTest t38
 (K (.bool false) H)
 (zq153_j4 t2 t3 t5 t6 H K))
 (aBin .eql false t20 (.int .i64 5) fun t40 =>
 aTest t40
 (aPure H (fun K' => aFld 1 t3 (K' · H)) fun t41 =>
 aPure H (fun K' => aLoadC false 1 t41 H (K' · H)) fun t42 =>
 aPure H (fun K' => aBin .lss false t42 (.int .i64 0) (K' · H)) fun t43 =>
 aPure H (fun K' => K' t43 H) fun t44 =>
 aGuardJ t44 false H (fun K' => aPure H (fun K'' => aFld 1 t3 (K'' · H)) (K' · H)) fun t45 H =>
 aGuardJ t44 false H (fun K' => aPure H (fun K'' => aLoadC false 1 t45 H (K'' · H)) (K' · H)) fun t46 H =>
 aGuardJ t44 false H (fun K' => aPure H (fun K'' => aLoadC false 1 t2 H (K'' · H)) (K' · H)) fun t47 H =>
 aGuardJ t44 false H (fun K' => aPure H (fun K'' => aNil t47 (K'' · H)) (K' · H)) fun t48 H =>
 aGuardJ t44 false H (fun K' => aPure H (fun K'' => aFld 0 t48 (K'' · H)) (K' · H)) fun t49 H =>
 aGuardJ t44 false H (fun K' => aPure H (fun K'' => aLoadC false 1 t49 H (K'' · H)) (K' · H)) fun t50 H =>
 aGuardJ t44 false H (fun K' => aPure H (fun K'' => aLen 1 t50 (K'' · H)) (K' · H)) fun t51 H =>
 aGuardJ t44 false H (fun K' => aPure H (fun K'' => aBin .geq false t46 t51 (K'' · H)) (K' · H)) fun t52 H =>
 aPure H (fun K' => aPick t44 (.bool true) t52 (K' · H)) fun t53 =>
 aTest t53
 (K (.bool false) H)
 (aPure H (fun K' => aLoadC false 1 t2 H (K' · H)) fun t54 =>
 aPure H (fun K' => aNil t54 (K' · H)) fun t55 =>
 aPure H (fun K' => aFld 0 t55 (K' · H)) fun t56 =>
 aPure H (fun K' => aLoadC false 1 t56 H (K' · H)) fun t57 =>
 aPure H (fun K' => aFld 1 t3 (K' · H)) fun t58 =>
 aPure H (fun K' => aLoadC false 1 t58 H (K' · H)) fun t59 =>
 aPure H (fun K' => aIdxA 3 t57 t59 (K' · H)) fun t60 =>
 aPure H (fun K' => aFld 1 t60 (K' · H)) fun t61 =>
 aPure H (fun K' => aLoadC false 1 t61 H (K' · H)) fun t62 =>
 aPure H (fun K' => aLoadC false 1 t2 H (K' · H)) fun t63 =>
 aPure H (fun K' => aNil t63 (K' · H)) fun t64 =>
 aPure H (fun K' => aFld 0 t64 (K' · H)) fun t65 =>
 aPure H (fun K' => aLoadC false 1 t65 H (K' · H)) fun t66 =>
 aPure H (fun K' => aFld 1 t3 (K' · H)) fun t67 =>
 aPure H (fun K' => aLoadC false 1 t67 H (K' · H)) fun t68 =>
 aPure H (fun K' => aIdxA 3 t66 t68 (K' · H)) fun t69 =>
 aPure H (fun K' => aFld 1 t69 (K' · H)) fun t70 =>
 aPure H (fun K' => aLoadC false 1 t70 H (K' · H)) fun t71 =>
 aPure H (fun K' => K' t62 H) fun t5 =>
 aPure H (fun K' => K' t71 H) fun t6 =>
 zq153_j4 t2 t3 t5 t6 H K))
 (aBin .eql false t20 (.int .i64 6) fun t73 =>
 aTest t73
 (zq153_j4 t2 t3 (.int .i64 2) (.int .i64 6) H K)
 (aBin .eql false t20 (.int .i64 7) fun t75 =>
 aTest t75
 (zq153_j6 t2 t3 t20 t75 H K)
 (aBin .eql false t20 (.int .i64 8) fun t76 =>
 zq153_j6 t2 t3 t20 t76 H K)))))
noncomputable def zq153_j2_c : Code := codeAt [1, 1, 1, 1, 0, 1] zq153_c
def zq153_j2_Q (K : Kt) : AExit → List AV → Heap → Prop := contAt Tryz.prog zq153_M [1, 1, 1, 1, 0, 1] zq153_c (retQ Tryz.prog zq153_r K)
def zq153_j2 (t2 t3 t5 t6 t20 : AV) (H : Heap) (K : Kt) : Prop := AWp Tryz.prog zq153_j2_c (zq153_j2_Q K) (ux 2 (t2 :: t3 :: ux 1 (t5 :: t6 :: ux 13 (t20 :: ux 88 [])))) H
def zq153_j2b (t2 t3 t5 t6 t20 : AV) (H : Heap) (K : Kt) : Prop :=
 aBin .eql false t20 (.int .i64 1) fun t22 =>
 aTest t22
 (zq153_j3 t2 t3 t5 t6 t20 t22 H K)
 (aBin .eql false t20 (.int .i64 2) fun t23 =>
 aTest t23
 (zq153_j3 t2 t3 t5 t6 t20 t23 H K)
 (aBin .eql false t20 (.int .i64 3) fun t24 =>
 zq153_j3 t2 t3 t5 t6 t20 t24 H K))
noncomputable def zq153_j1_c : Code := codeAt [1, 1] zq153_c
def zq153_j1_Q (K : Kt) : AExit → List AV → Heap → Prop := contAt Tryz.prog zq153_M [1, 1] zq153_c (retQ Tryz.prog zq153_r K)
def zq153_j1 (t2 t3 : AV) (H : Heap) (K : Kt) : Prop := AWp Tryz.prog zq153_j1_c (zq153_j1_Q K) (ux 2 (t2 :: t3 :: ux 105 [])) H
def zq153_j1b (t2 t3 : AV) (H : Heap) (K : Kt) : Prop :=
 aLoad false 1 t2 H fun t14 =>
 aNil t14 fun t15 =>
 aFld 2 t15 fun t16 =>
 aLoad false 1 t16 H fun t17 =>
 aBin .lss false t17 (.int .i64 0) fun t18 =>
 aTest t18
 (K (.bool false) H)
 (aFld 0 t3 fun t19 =>
 aLoad false 1 t19 H fun t20 =>
 zq153_j2 t2 t3 (.int .i64 0) (.int .i64 0) t20 H K)
def zq153 (t0 t1 : AV) (H : Heap) (K : Kt) : Prop :=
 aBox t0 H fun t2 H =>
 aBox t1 H fun t3 H =>
 aLoad false 1 t2 H fun t7 =>
 aNil t7 fun t8 =>
 aFld 2 t8 fun t9 =>
 aLoad false 1 t9 H fun t10 =>
 aBin .sub false t10 (.int .i64 1) fun t11 =>
 aNil t7 fun t12 =>
 aFld 2 t12 fun t13 =>
 aStore 1 t13 t11 H fun H =>
 zq153_j1 t2 t3 H K
theorem zq153_j6_eq (t2 t3 t20 t74 : AV) (H : Heap) (K : Kt) : awp Tryz.prog zq153_M zq153_j6_c (zq153_j6_Q K) (ux 2 (t2 :: t3 :: ux 16 (t20 :: ux 53 (t74 :: ux 34 [])))) H = zq153_j6b t2 t3 t20 t74 H K := by kernel_rfl
theorem zq153_j6_ok {t2 t3 t20 t74 : AV} {H : Heap} {K : Kt} (h : HSc H → zq153_j6b t2 t3 t20 t74 H K) : zq153_j6 t2 t3 t20 t74 H K :=
 fun B w G a hH hF hd => awp_sound (M := zq153_M) _ _ _ _ ((zq153_j6_eq t2 t3 t20 t74 H K).mpr (h hH.sc)) B w G a hH hF hd
theorem zq153_j3_eq (t2 t3 t5 t6 t20 t21 : AV) (H : Heap) (K : Kt) : awp Tryz.prog zq153_M zq153_j3_c (zq153_j3_Q K) (ux 2 (t2 :: t3 :: ux 1 (t5 :: t6 :: ux 13 (t20 :: t21 :: ux 87 [])))) H = zq153_j3b t2 t3 t5 t6 t20 t21 H K := by kernel_rfl
theorem zq153_j3_ok {t2 t3 t5 t6 t20 t21 : AV} {H : Heap} {K : Kt} (h : HSc H → zq153_j3b t2 t3 t5 t6 t20 t21 H K) : zq153_j3 t2 t3 t5 t6 t20 t21 H K :=
 fun B w G a hH hF hd => awp_sound (M := zq153_M) _ _ _ _ ((zq153_j3_eq t2 t3 t5 t6 t20 t21 H K).mpr (h hH.sc)) B w G a hH hF hd
theorem zq153_j2_eq (t2 t3 t5 t6 t20 : AV) (H : Heap) (K : Kt) : awp Tryz.prog zq153_M zq153_j2_c (zq153_j2_Q K) (ux 2 (t2 :: t3 :: ux 1 (t5 :: t6 :: ux 13 (t20 :: ux 88 [])))) H = zq153_j2b t2 t3 t5 t6 t20 H K := by kernel_rfl
theorem zq153_j2_ok {t2 t3 t5 t6 t20 : AV} {H : Heap} {K : Kt} (h : HSc H → zq153_j2b t2 t3 t5 t6 t20 H K) : zq153_j2 t2 t3 t5 t6 t20 H K :=
 fun B w G a hH hF hd => awp_sound (M := zq153_M) _ _ _ _ ((zq153_j2_eq t2 t3 t5 t6 t20 H K).mpr (h hH.sc)) B w G a hH hF hd
theorem zq153_j1_eq (t2 t3 : AV) (H : Heap) (K : Kt) : awp Tryz.prog zq153_M zq153_j1_c (zq153_j1_Q K) (ux 2 (t2 :: t3 :: ux 105 [])) H = zq153_j1b t2 t3 H K := by kernel_rfl
theorem zq153_j1_ok {t2 t3 : AV} {H : Heap} {K : Kt} (h : HSc H → zq153_j1b t2 t3 H K) : zq153_j1 t2 t3 H K :=
 fun B w G a hH hF hd => awp_sound (M := zq153_M) _ _ _ _ ((zq153_j1_eq t2 t3 H K).mpr (h hH.sc)) B w G a hH hF hd
theorem zq153_eq (t0 t1 : AV) (H : Heap) (K : Kt) : awp Tryz.prog zq153_M zq153_c (retQ Tryz.prog zq153_r K) (t0 :: t1 :: List.replicate 107 .unk) H = zq153 t0 t1 H K := by kernel_rfl
theorem zq153_ok {t0 t1 : AV} {H : Heap} {K : Kt} (h : HSc H → zq153 t0 t1 H K) : ACalls Tryz.prog n_zq153 [t0, t1] H K :=
 acalls_body (M := zq153_M) Tryz.func155 (c := zq153_c) (by kernel_rfl) (fun hs => (zq153_eq t0 t1 H K).mpr (h hs))
def zq196_M (_ : Nat) : List Bool := []
noncomputable def zq196_c : Code := Tryz.f198.body.getD .skip
noncomputable def zq196_r : List ResultVar := Tryz.f198.results.toList
def zq196 (t0 t1 : AV) (H : Heap) (K : Kt) : Prop :=
 aBox t0 H fun t2 H =>
 aLoad false 1 t1 H fun t4 =>
 aLoad true 3 t2 H fun t5 =>
 ACalls Tryz.prog n_zq153 [t4, t5] H fun t6 H =>
 aUn .not t6 fun t7 =>
 K t7 H
theorem zq196_eq (t0 t1 : AV) (H : Heap) (K : Kt) : awp Tryz.prog zq196_M zq196_c (retQ Tryz.prog zq196_r K) (t0 :: t1 :: List.replicate 6 .unk) H = zq196 t0 t1 H K := by kernel_rfl
theorem zq196_ok {t0 t1 : AV} {H : Heap} {K : Kt} (h : HSc H → zq196 t0 t1 H K) : ACalls Tryz.prog n_zq196 [t0, t1] H K :=
 acalls_body (M := zq196_M) Tryz.func198 (c := zq196_c) (by kernel_rfl) (fun hs => (zq196_eq t0 t1 H K).mpr (h hs))
def zq144_M (_ : Nat) : List Bool := []
noncomputable def zq144_c : Code := Tryz.f146.body.getD .skip
noncomputable def zq144_r : List ResultVar := Tryz.f146.results.toList
def zq144 (t0 t1 : AV) (H : Heap) (K : Kt) : Prop :=
 ACalls Tryz.prog n_zq186 [t0, t1] H fun t7 H =>
 aBin .geq false t7 (.int .i64 0) fun t8 =>
 K t8 H
theorem zq144_eq (t0 t1 : AV) (H : Heap) (K : Kt) : awp Tryz.prog zq144_M zq144_c (retQ Tryz.prog zq144_r K) (t0 :: t1 :: List.replicate 7 .unk) H = zq144 t0 t1 H K := by kernel_rfl
theorem zq144_ok {t0 t1 : AV} {H : Heap} {K : Kt} (h : HSc H → zq144 t0 t1 H K) : ACalls Tryz.prog n_zq144 [t0, t1] H K :=
 acalls_body (M := zq144_M) Tryz.func146 (c := zq144_c) (by kernel_rfl) (fun hs => (zq144_eq t0 t1 H K).mpr (h hs))
def zq186_M : Nat → List Bool
 | 2 => rl false [0,2,5,2,10]
 | _ => []
noncomputable def zq186_c : Code := Tryz.f188.body.getD .skip
noncomputable def zq186_r : List ResultVar := Tryz.f188.results.toList
def zq186_fr2 (t0 t1 t7 t8 : AV) : List AV := t0 :: t1 :: ux 5 (t7 :: t8 :: ux 10 [])
def zq186_m2 : List Bool := zq186_M 2
noncomputable def zq186_c2 : Code := codeAt [1, 0, 1, 0, 0] zq186_c
def zq186_Q2 (K : Kt) : AExit → List AV → Heap → Prop := contAt Tryz.prog zq186_M [1, 0, 1, 0] zq186_c (retQ Tryz.prog zq186_r K)
def zq186_l2 (t0 t1 t7 t8 : AV) (H : Heap) (K : Kt) : Prop := ALoop Tryz.prog zq186_c2 (zq186_Q2 K) (zq186_fr2 t0 t1 t7 t8) H
def zq186_b2 (t0 t1 t7 t8 : AV) (H : Heap) (K : Kt) (Kb2 : Lt) : Prop :=
 aBin .lss false t8 t7 fun t9 =>
 aTest t9
 (aIdxA 3 t0 t8 fun t14 =>
 aLoad true 3 t14 H fun t15 =>
 aCallV Tryz.prog t1 [t15] H fun t16 H =>
 aTest t16
 (K t8 H)
 (aBin .add false t8 (.int .i64 1) fun t18 =>
 Kb2 (zq186_fr2 t0 t1 t7 t18) H))
 (K (.int .i64 (-1)) H)
def zq186 (t0 t1 : AV) (H : Heap) (K : Kt) : Prop :=
 aLen 1 t0 fun t7 =>
 zq186_l2 t0 t1 t7 (.int .i64 0) H K
theorem zq186_b2_eq (t0 t1 t7 t8 : AV) (H : Heap) (K : Kt) (Kb2 : Lt) : awp Tryz.prog zq186_M zq186_c2 (roundQ zq186_m2 Kb2 (zq186_Q2 K)) (zq186_fr2 t0 t1 t7 t8) H = zq186_b2 t0 t1 t7 t8 H K Kb2 := by kernel_rfl
theorem zq186_loop2 {t0 t1 t7 t8 : AV} {H : Heap} {K : Kt} (Inv : Nat → AV → Heap → Prop) (n : Nat) (h0 : HSc H → Inv n t8 H)
  (round : ∀ n t8 H', Inv n t8 H' → HSc H' → H.length ≤ H'.length → (zq186_fr2 t0 t1 t7 t8).all (AV.sc H'.length) = true → ∀ Kb2 : Lt, (∀ F'' H'', (∃ n', n' < n ∧ Back H.length (fun F2 H2 => ∃ t8, F2 = zq186_fr2 t0 t1 t7 t8 ∧ Inv n' t8 H2) F'' H'') → Kb2 F'' H'') → zq186_b2 t0 t1 t7 t8 H' K Kb2) : zq186_l2 t0 t1 t7 t8 H K :=
 aloop (M := zq186_M) zq186_m2 (fun n F H => ∃ t8, F = zq186_fr2 t0 t1 t7 t8 ∧ Inv n t8 H) n (fun hs _ => ⟨t8, rfl, h0 hs⟩) (fun n F H' ⟨t8, hF, hI⟩ h1 h2 h3 => by subst hF; rw [zq186_b2_eq]; exact round n t8 H' hI h1 h2 h3 _ (fun _ _ h => h))
theorem zq186_eq (t0 t1 : AV) (H : Heap) (K : Kt) : awp Tryz.prog zq186_M zq186_c (retQ Tryz.prog zq186_r K) (t0 :: t1 :: List.replicate 17 .unk) H = zq186 t0 t1 H K := by kernel_rfl
theorem zq186_ok {t0 t1 : AV} {H : Heap} {K : Kt} (h : HSc H → zq186 t0 t1 H K) : ACalls Tryz.prog n_zq186 [t0, t1] H K :=
 acalls_body (M := zq186_M) Tryz.func188 (c := zq186_c) (by kernel_rfl) (fun hs => (zq186_eq t0 t1 H K).mpr (h hs))
def zq89_M : Nat → List Bool
 | 8 => rl false [2,1,1,1,3,2,49,3,46]
 | 13 => rl false [2,1,1,1,3,2,67,3,28]
 | 20 => rl false [4,1,9,1,78,3,12]
 | _ => []
noncomputable def zq89_c : Code := Tryz.f91.body.getD .skip
noncomputable def zq89_r : List ResultVar := Tryz.f91.results.toList
def zq89_fr8 (t2 t4 t8 t9 t59 t60 t61 : AV) : List AV := ux 2 (t2 :: ux 1 (t4 :: ux 3 (t8 :: t9 :: ux 49 (t59 :: t60 :: t61 :: ux 46 []))))
def zq89_m8 : List Bool := zq89_M 8
noncomputable def zq89_c8 : Code := codeAt [1, 1, 1, 1, 1, 0, 1, 0, 0] zq89_c
def zq89_Q8 (K : Kt) : AExit → List AV → Heap → Prop := contAt Tryz.prog zq89_M [1, 1, 1, 1, 1, 0, 1, 0] zq89_c (retQ Tryz.prog zq89_r K)
def zq89_l8 (t2 t4 t8 t9 t59 t60 t61 : AV) (H : Heap) (K : Kt) : Prop := ALoop Tryz.prog zq89_c8 (zq89_Q8 K) (zq89_fr8 t2 t4 t8 t9 t59 t60 t61) H
def zq89_fr13 (t2 t4 t8 t9 t77 t78 t79 : AV) : List AV := ux 2 (t2 :: ux 1 (t4 :: ux 3 (t8 :: t9 :: ux 67 (t77 :: t78 :: t79 :: ux 28 []))))
def zq89_m13 : List Bool := zq89_M 13
noncomputable def zq89_c13 : Code := codeAt [1, 1, 1, 1, 1, 1, 0, 1, 0, 0] zq89_c
def zq89_Q13 (K : Kt) : AExit → List AV → Heap → Prop := contAt Tryz.prog zq89_M [1, 1, 1, 1, 1, 1, 0, 1, 0] zq89_c (retQ Tryz.prog zq89_r K)
def zq89_l13 (t2 t4 t8 t9 t77 t78 t79 : AV) (H : Heap) (K : Kt) : Prop := ALoop Tryz.prog zq89_c13 (zq89_Q13 K) (zq89_fr13 t2 t4 t8 t9 t77 t78 t79) H
def zq89_fr20 (t4 t14 t93 t94 t95 : AV) : List AV := ux 4 (t4 :: ux 9 (t14 :: ux 78 (t93 :: t94 :: t95 :: ux 12 [])))
def zq89_m20 : List Bool := zq89_M 20
noncomputable def zq89_c20 : Code := codeAt [1, 1, 1, 1, 1, 1, 1, 1, 0, 1, 0, 0] zq89_c
def zq89_Q20 (K : Kt) : AExit → List AV → Heap → Prop := contAt Tryz.prog zq89_M [1, 1, 1, 1, 1, 1, 1, 1, 0, 1, 0] zq89_c (retQ Tryz.prog zq89_r K)
def zq89_l20 (t4 t14 t93 t94 t95 : AV) (H : Heap) (K : Kt) : Prop := ALoop Tryz.prog zq89_c20 (zq89_Q20 K) (zq89_fr20 t4 t14 t93 t94 t95) H
def zq89_b20 (t4 t14 t93 t94 t95 : AV) (H : Heap) (K : Kt) (Kb20 : Lt) : Prop :=
 aBin .lss false t95 t94 fun t96 =>
 aTest t96
 (aIdxA 3 t93 t95 fun t97 =>
 aLoad true 3 t97 H fun t98 =>
 aNew [(.int .i64 0), (.int .i64 0), .snil] H fun t16 H =>
 aStore 3 t16 t98 H fun H =>
 aLoad true 3 t16 H fun t100 =>
 aFld 2 t4 fun t101 =>
 aLoad false 1 t101 H fun t102 =>
 ACalls Tryz.prog n_zq159 [t100, t102] H fun t103 H =>
 aBuildS 3 [(.int .i64 0), (.int .i64 0), .snil] 1 [(0, t103)] fun t104 =>
 aAppend e_api_Type 3 40 t14 t104 H fun t105 H =>
 aBin .add false t95 (.int .i64 1) fun t106 =>
 Kb20 (zq89_fr20 t4 t105 t93 t94 t106) H)
 (aRet [t14, (.bool true)] (K · H))
def zq89_b13 (t2 t4 t8 t9 t77 t78 t79 : AV) (H : Heap) (K : Kt) (Kb13 : Lt) : Prop :=
 aBin .lss false t79 t78 fun t80 =>
 aTest t80
 (aIdxA 3 t77 t79 fun t81 =>
 aLoad true 3 t81 H fun t82 =>
 aNew [(.int .i64 0), (.int .i64 0), .snil] H fun t13 H =>
 aStore 3 t13 t82 H fun H =>
 aLoad true 3 t13 H fun t83 =>
 ACalls Tryz.prog n_zq158 [t83, t9] H fun t85 H =>
 aBin .gtr false t85 (.int .i64 200) fun t86 =>
 aTest t86
 (aRet [.snil, (.bool false)] (K · H))
 (aBin .add false t79 (.int .i64 1) fun t87 =>
 Kb13 (zq89_fr13 t2 t4 t8 t9 t77 t78 t87) H))
 (aFld 2 t8 fun t88 =>
 aLoad false 1 t88 H fun t89 =>
 aIdxA 2 t89 t2 fun t91 =>
 aFld 1 t91 fun t92 =>
 aLoad false 1 t92 H fun t93 =>
 aLen 1 t93 fun t94 =>
 zq89_l20 t4 .snil t93 t94 (.int .i64 0) H K)
def zq89_b8 (t2 t4 t8 t9 t59 t60 t61 : AV) (H : Heap) (K : Kt) (Kb8 : Lt) : Prop :=
 aBin .lss false t61 t60 fun t62 =>
 aTest t62
 (aIdxA 3 t59 t61 fun t64 =>
 aLoad true 3 t64 H fun t65 =>
 aNew [(.int .i64 0), (.int .i64 0), .snil] H fun t11 H =>
 aStore 3 t11 t65 H fun H =>
 aLoad true 3 t11 H fun t68 =>
 ACalls Tryz.prog n_zq157 [t68] H fun t69 H =>
 aIdxA 1 t9 t61 fun t70 =>
 aStore 1 t70 t69 H fun H =>
 aBin .add false t61 (.int .i64 1) fun t71 =>
 Kb8 (zq89_fr8 t2 t4 t8 t9 t59 t60 t71) H)
 (aFld 2 t8 fun t72 =>
 aLoad false 1 t72 H fun t73 =>
 aIdxA 2 t73 t2 fun t75 =>
 aFld 1 t75 fun t76 =>
 aLoad false 1 t76 H fun t77 =>
 aLen 1 t77 fun t78 =>
 zq89_l13 t2 t4 t8 t9 t77 t78 (.int .i64 0) H K)
def zq89 (t0 t1 t2 : AV) (H : Heap) (K : Kt) : Prop :=
 aBox t1 H fun t4 H =>
 aFld 0 t4 fun t17 =>
 aLoad false 1 t17 H fun t18 =>
 aBin .neq false t18 (.int .i64 5) fun t19 =>
 aGuardJ t19 false H (fun K' => aFld 1 t4 (K' · H)) fun t21 H =>
 aGuardJ t19 false H (fun K' => aLoad false 1 t21 H (K' · H)) fun t22 H =>
 aGuardJ t19 false H (fun K' => aBin .lss false t22 (.int .i64 0) (K' · H)) fun t23 H =>
 aPick t19 (.bool true) t23 fun t24 =>
 aGuardJ t24 false H (fun K' => aFld 1 t4 (K' · H)) fun t26 H =>
 aGuardJ t24 false H (fun K' => aLoad false 1 t26 H (K' · H)) fun t27 H =>
 aGuardJ t24 false H (fun K' => K' t0 H) fun t28 H =>
 aGuardJ t24 false H (fun K' => aLen 1 t28 (K' · H)) fun t29 H =>
 aGuardJ t24 false H (fun K' => aBin .geq false t27 t29 (K' · H)) fun t30 H =>
 aPick t24 (.bool true) t30 fun t31 =>
 aTest t31
 (aRet [.snil, (.bool false)] (K · H))
 (aFld 1 t4 fun t33 =>
 aLoad false 1 t33 H fun t34 =>
 aIdxA 3 t0 t34 fun t35 =>
 aLoad true 3 t35 H fun t36 =>
 aNew [(.str []), (.int .i64 0), .snil] H fun t8 H =>
 aStore 3 t8 t36 H fun H =>
 aFld 2 t4 fun t37 =>
 aLoad false 1 t37 H fun t38 =>
 aLen 1 t38 fun t39 =>
 aFld 1 t8 fun t40 =>
 aLoad false 1 t40 H fun t41 =>
 aBin .neq false t39 t41 fun t42 =>
 aGuardJ t42 false H (fun K' => K' t2 H) fun t44 H =>
 aGuardJ t42 false H (fun K' => aBin .lss false t44 (.int .i64 0) (K' · H)) fun t45 H =>
 aPick t42 (.bool true) t45 fun t46 =>
 aGuardJ t46 false H (fun K' => K' t2 H) fun t48 H =>
 aGuardJ t46 false H (fun K' => aFld 2 t8 (K' · H)) fun t49 H =>
 aGuardJ t46 false H (fun K' => aLoad false 1 t49 H (K' · H)) fun t50 H =>
 aGuardJ t46 false H (fun K' => aLen 1 t50 (K' · H)) fun t51 H =>
 aGuardJ t46 false H (fun K' => aBin .geq false t48 t51 (K' · H)) fun t52 H =>
 aPick t46 (.bool true) t52 fun t53 =>
 aTest t53
 (aRet [.snil, (.bool false)] (K · H))
 (aFld 2 t4 fun t54 =>
 aLoad false 1 t54 H fun t55 =>
 aLen 1 t55 fun t56 =>
 aMake 8 [(.int .i64 0)] t56 t56 H fun t57 H =>
 aFld 2 t4 fun t58 =>
 aLoad false 1 t58 H fun t59 =>
 aLen 1 t59 fun t60 =>
 zq89_l8 t2 t4 t8 t57 t59 t60 (.int .i64 0) H K))
theorem zq89_b20_eq (t4 t14 t93 t94 t95 : AV) (H : Heap) (K : Kt) (Kb20 : Lt) : awp Tryz.prog zq89_M zq89_c20 (roundQ zq89_m20 Kb20 (zq89_Q20 K)) (zq89_fr20 t4 t14 t93 t94 t95) H = zq89_b20 t4 t14 t93 t94 t95 H K Kb20 := by kernel_rfl
theorem zq89_loop20 {t4 t14 t93 t94 t95 : AV} {H : Heap} {K : Kt} (Inv : Nat → AV → AV → Heap → Prop) (n : Nat) (h0 : HSc H → Inv n t14 t95 H)
  (round : ∀ n t14 t95 H', Inv n t14 t95 H' → HSc H' → H.length ≤ H'.length → (zq89_fr20 t4 t14 t93 t94 t95).all (AV.sc H'.length) = true → ∀ Kb20 : Lt, (∀ F'' H'', (∃ n', n' < n ∧ Back H.length (fun F2 H2 => ∃ t14 t95, F2 = zq89_fr20 t4 t14 t93 t94 t95 ∧ Inv n' t14 t95 H2) F'' H'') → Kb20 F'' H'') → zq89_b20 t4 t14 t93 t94 t95 H' K Kb20) : zq89_l20 t4 t14 t93 t94 t95 H K :=
 aloop (M := zq89_M) zq89_m20 (fun n F H => ∃ t14 t95, F = zq89_fr20 t4 t14 t93 t94 t95 ∧ Inv n t14 t95 H) n (fun hs _ => ⟨t14, t95, rfl, h0 hs⟩) (fun n F H' ⟨t14, t95, hF, hI⟩ h1 h2 h3 => by subst hF; rw [zq89_b20_eq]; exact round n t14 t95 H' hI h1 h2 h3 _ (fun _ _ h => h))
theorem zq89_b13_eq (t2 t4 t8 t9 t77 t78 t79 : AV) (H : Heap) (K : Kt) (Kb13 : Lt) : awp Tryz.prog zq89_M zq89_c13 (roundQ zq89_m13 Kb13 (zq89_Q13 K)) (zq89_fr13 t2 t4 t8 t9 t77 t78 t79) H = zq89_b13 t2 t4 t8 t9 t77 t78 t79 H K Kb13 := by kernel_rfl
theorem zq89_loop13 {t2 t4 t8 t9 t77 t78 t79 : AV} {H : Heap} {K : Kt} (Inv : Nat → AV → Heap → Prop) (n : Nat) (h0 : HSc H → Inv n t79 H)
  (round : ∀ n t79 H', Inv n t79 H' → HSc H' → H.length ≤ H'.length → (zq89_fr13 t2 t4 t8 t9 t77 t78 t79).all (AV.sc H'.length) = true → ∀ Kb13 : Lt, (∀ F'' H'', (∃ n', n' < n ∧ Back H.length (fun F2 H2 => ∃ t79, F2 = zq89_fr13 t2 t4 t8 t9 t77 t78 t79 ∧ Inv n' t79 H2) F'' H'') → Kb13 F'' H'') → zq89_b13 t2 t4 t8 t9 t77 t78 t79 H' K Kb13) : zq89_l13 t2 t4 t8 t9 t77 t78 t79 H K :=
 aloop (M := zq89_M) zq89_m13 (fun n F H => ∃ t79, F = zq89_fr13 t2 t4 t8 t9 t77 t78 t79 ∧ Inv n t79 H) n (fun hs _ => ⟨t79, rfl, h0 hs⟩) (fun n F H' ⟨t79, hF, hI⟩ h1 h2 h3 => by subst hF; rw [zq89_b13_eq]; exact round n t79 H' hI h1 h2 h3 _ (fun _ _ h => h))
theorem zq89_b8_eq (t2 t4 t8 t9 t59 t60 t61 : AV) (H : Heap) (K : Kt) (Kb8 : Lt) : awp Tryz.prog zq89_M zq89_c8 (roundQ zq89_m8 Kb8 (zq89_Q8 K)) (zq89_fr8 t2 t4 t8 t9 t59 t60 t61) H = zq89_b8 t2 t4 t8 t9 t59 t60 t61 H K Kb8 := by kernel_rfl
theorem zq89_loop8 {t2 t4 t8 t9 t59 t60 t61 : AV} {H : Heap} {K : Kt} (Inv : Nat → AV → Heap → Prop) (n : Nat) (h0 : HSc H → Inv n t61 H)
  (round : ∀ n t61 H', Inv n t61 H' → HSc H' → H.length ≤ H'.length → (zq89_fr8 t2 t4 t8 t9 t59 t60 t61).all (AV.sc H'.length) = true → ∀ Kb8 : Lt, (∀ F'' H'', (∃ n', n' < n ∧ Back H.length (fun F2 H2 => ∃ t61, F2 = zq89_fr8 t2 t4 t8 t9 t59 t60 t61 ∧ Inv n' t61 H2) F'' H'') → Kb8 F'' H'') → zq89_b8 t2 t4 t8 t9 t59 t60 t61 H' K Kb8) : zq89_l8 t2 t4 t8 t9 t59 t60 t61 H K :=
 aloop (M := zq89_M) zq89_m8 (fun n F H => ∃ t61, F = zq89_fr8 t2 t4 t8 t9 t59 t60 t61 ∧ Inv n t61 H) n (fun hs _ => ⟨t61, rfl, h0 hs⟩) (fun n F H' ⟨t61, hF, hI⟩ h1 h2 h3 => by subst hF; rw [zq89_b8_eq]; exact round n t61 H' hI h1 h2 h3 _ (fun _ _ h => h))
theorem zq89_eq (t0 t1 t2 : AV) (H : Heap) (K : Kt) : awp Tryz.prog zq89_M zq89_c (retQ Tryz.prog zq89_r K) (t0 :: t1 :: t2 :: List.replicate 105 .unk) H = zq89 t0 t1 t2 H K := by kernel_rfl
theorem zq89_ok {t0 t1 t2 : AV} {H : Heap} {K : Kt} (h : HSc H → zq89 t0 t1 t2 H K) : ACalls Tryz.prog n_zq89 [t0, t1, t2] H K :=
 acalls_body (M := zq89_M) Tryz.func91 (c := zq89_c) (by kernel_rfl) (fun hs => (zq89_eq t0 t1 t2 H K).mpr (h hs))
def zq157_M : Nat → List Bool
 | 3 => rl false [3,1,3,3,9]
 | _ => []
noncomputable def zq157_c : Code := Tryz.f159.body.getD .skip
noncomputable def zq157_r : List ResultVar := Tryz.f159.results.toList
def zq157_fr3 (t3 t7 t8 t9 : AV) : List AV := ux 3 (t3 :: ux 3 (t7 :: t8 :: t9 :: ux 9 []))
def zq157_m3 : List Bool := zq157_M 3
noncomputable def zq157_c3 : Code := codeAt [1, 1, 0, 1, 0, 0] zq157_c
def zq157_Q3 (K : Kt) : AExit → List AV → Heap → Prop := contAt Tryz.prog zq157_M [1, 1, 0, 1, 0] zq157_c (retQ Tryz.prog zq157_r K)
def zq157_l3 (t3 t7 t8 t9 : AV) (H : Heap) (K : Kt) : Prop := ALoop Tryz.prog zq157_c3 (zq157_Q3 K) (zq157_fr3 t3 t7 t8 t9) H
def zq157_b3 (t3 t7 t8 t9 : AV) (H : Heap) (K : Kt) (Kb3 : Lt) : Prop :=
 aBin .lss false t9 t8 fun t10 =>
 aTest t10
 (aIdxA 3 t7 t9 fun t11 =>
 aLoad true 3 t11 H fun t12 =>
 aNew [(.int .i64 0), (.int .i64 0), .snil] H fun t5 H =>
 aStore 3 t5 t12 H fun H =>
 aLoad true 3 t5 H fun t14 =>
 ACalls Tryz.prog n_zq157 [t14] H fun t15 H =>
 aBin .add false t3 t15 fun t16 =>
 aBin .add false t9 (.int .i64 1) fun t17 =>
 Kb3 (zq157_fr3 t16 t7 t8 t17) H)
 (K t3 H)
def zq157 (t0 : AV) (H : Heap) (K : Kt) : Prop :=
 aBox t0 H fun t1 H =>
 aFld 2 t1 fun t6 =>
 aLoad false 1 t6 H fun t7 =>
 aLen 1 t7 fun t8 =>
 zq157_l3 (.int .i64 1) t7 t8 (.int .i64 0) H K
theorem zq157_b3_eq (t3 t7 t8 t9 : AV) (H : Heap) (K : Kt) (Kb3 : Lt) : awp Tryz.prog zq157_M zq157_c3 (roundQ zq157_m3 Kb3 (zq157_Q3 K)) (zq157_fr3 t3 t7 t8 t9) H = zq157_b3 t3 t7 t8 t9 H K Kb3 := by kernel_rfl
theorem zq157_loop3 {t3 t7 t8 t9 : AV} {H : Heap} {K : Kt} (Inv : Nat → AV → AV → Heap → Prop) (n : Nat) (h0 : HSc H → Inv n t3 t9 H)
  (round : ∀ n t3 t9 H', Inv n t3 t9 H' → HSc H' → H.length ≤ H'.length → (zq157_fr3 t3 t7 t8 t9).all (AV.sc H'.length) = true → ∀ Kb3 : Lt, (∀ F'' H'', (∃ n', n' < n ∧ Back H.length (fun F2 H2 => ∃ t3 t9, F2 = zq157_fr3 t3 t7 t8 t9 ∧ Inv n' t3 t9 H2) F'' H'') → Kb3 F'' H'') → zq157_b3 t3 t7 t8 t9 H' K Kb3) : zq157_l3 t3 t7 t8 t9 H K :=
 aloop (M := zq157_M) zq157_m3 (fun n F H => ∃ t3 t9, F = zq157_fr3 t3 t7 t8 t9 ∧ Inv n t3 t9 H) n (fun hs _ => ⟨t3, t9, rfl, h0 hs⟩) (fun n F H' ⟨t3, t9, hF, hI⟩ h1 h2 h3 => by subst hF; rw [zq157_b3_eq]; exact round n t3 t9 H' hI h1 h2 h3 _ (fun _ _ h => h))
theorem zq157_eq (t0 : AV) (H : Heap) (K : Kt) : awp Tryz.prog zq157_M zq157_c (retQ Tryz.prog zq157_r K) (t0 :: List.replicate 18 .unk) H = zq157 t0 H K := by kernel_rfl
theorem zq157_ok {t0 : AV} {H : Heap} {K : Kt} (h : HSc H → zq157 t0 H K) : ACalls Tryz.prog n_zq157 [t0] H K :=
 acalls_body (M := zq157_M) Tryz.func159 (c := zq157_c) (by kernel_rfl) (fun hs => (zq157_eq t0 H K).mpr (h hs))
def zq158_M : Nat → List Bool
 | 5 => rl false [1,1,3,1,23,3,12]
 | _ => []
noncomputable def zq158_c : Code := Tryz.f160.body.getD .skip
noncomputable def zq158_r : List ResultVar := Tryz.f160.results.toList
def zq158_fr5 (t1 t5 t29 t30 t31 : AV) : List AV := ux 1 (t1 :: ux 3 (t5 :: ux 23 (t29 :: t30 :: t31 :: ux 12 [])))
def zq158_m5 : List Bool := zq158_M 5
noncomputable def zq158_c5 : Code := codeAt [1, 1, 1, 0, 1, 0, 0] zq158_c
def zq158_Q5 (K : Kt) : AExit → List AV → Heap → Prop := contAt Tryz.prog zq158_M [1, 1, 1, 0, 1, 0] zq158_c (retQ Tryz.prog zq158_r K)
def zq158_l5 (t1 t5 t29 t30 t31 : AV) (H : Heap) (K : Kt) : Prop := ALoop Tryz.prog zq158_c5 (zq158_Q5 K) (zq158_fr5 t1 t5 t29 t30 t31) H
def zq158_j2 (t5 : AV) (H : Heap) (K : Kt) : Prop :=
 K t5 H
def zq158_j1 (t5 : AV) (H : Heap) (K : Kt) : Prop :=
 zq158_j2 t5 H K
def zq158_b5 (t1 t5 t29 t30 t31 : AV) (H : Heap) (K : Kt) (Kb5 : Lt) : Prop :=
 aBin .lss false t31 t30 fun t32 =>
 aTest t32
 (aIdxA 3 t29 t31 fun t33 =>
 aLoad true 3 t33 H fun t34 =>
 aNew [(.int .i64 0), (.int .i64 0), .snil] H fun t7 H =>
 aStore 3 t7 t34 H fun H =>
 aLoad true 3 t7 H fun t36 =>
 ACalls Tryz.prog n_zq158 [t36, t1] H fun t38 H =>
 aBin .add false t5 t38 fun t39 =>
 aBin .gtr false t39 (.int .i64 200) fun t41 =>
 aTest t41
 (zq158_j1 t39 H K)
 (aBin .add false t31 (.int .i64 1) fun t42 =>
 Kb5 (zq158_fr5 t1 t39 t29 t30 t42) H))
 (zq158_j1 t5 H K)
def zq158 (t0 t1 : AV) (H : Heap) (K : Kt) : Prop :=
 aBox t0 H fun t2 H =>
 aFld 0 t2 fun t8 =>
 aLoad false 1 t8 H fun t9 =>
 aBin .eql false t9 (.int .i64 4) fun t10 =>
 aGuardJ t10 true H (fun K' => aFld 1 t2 (K' · H)) fun t12 H =>
 aGuardJ t10 true H (fun K' => aLoad false 1 t12 H (K' · H)) fun t13 H =>
 aGuardJ t10 true H (fun K' => aBin .geq false t13 (.int .i64 0) (K' · H)) fun t14 H =>
 aPick t10 t14 (.bool false) fun t15 =>
 aGuardJ t15 true H (fun K' => aFld 1 t2 (K' · H)) fun t17 H =>
 aGuardJ t15 true H (fun K' => aLoad false 1 t17 H (K' · H)) fun t18 H =>
 aGuardJ t15 true H (fun K' => K' t1 H) fun t19 H =>
 aGuardJ t15 true H (fun K' => aLen 1 t19 (K' · H)) fun t20 H =>
 aGuardJ t15 true H (fun K' => aBin .lss false t18 t20 (K' · H)) fun t21 H =>
 aPick t15 t21 (.bool false) fun t22 =>
 aTest t22
 (aFld 1 t2 fun t24 =>
 aLoad false 1 t24 H fun t25 =>
 aIdxA 1 t1 t25 fun t26 =>
 aLoad false 1 t26 H fun t27 =>
 K t27 H)
 (aFld 2 t2 fun t28 =>
 aLoad false 1 t28 H fun t29 =>
 aLen 1 t29 fun t30 =>
 zq158_l5 t1 (.int .i64 1) t29 t30 (.int .i64 0) H K)
theorem zq158_b5_eq (t1 t5 t29 t30 t31 : AV) (H : Heap) (K : Kt) (Kb5 : Lt) : awp Tryz.prog zq158_M zq158_c5 (roundQ zq158_m5 Kb5 (zq158_Q5 K)) (zq158_fr5 t1 t5 t29 t30 t31) H = zq158_b5 t1 t5 t29 t30 t31 H K Kb5 := by kernel_rfl
theorem zq158_loop5 {t1 t5 t29 t30 t31 : AV} {H : Heap} {K : Kt} (Inv : Nat → AV → AV → Heap → Prop) (n : Nat) (h0 : HSc H → Inv n t5 t31 H)
  (round : ∀ n t5 t31 H', Inv n t5 t31 H' → HSc H' → H.length ≤ H'.length → (zq158_fr5 t1 t5 t29 t30 t31).all (AV.sc H'.length) = true → ∀ Kb5 : Lt, (∀ F'' H'', (∃ n', n' < n ∧ Back H.length (fun F2 H2 => ∃ t5 t31, F2 = zq158_fr5 t1 t5 t29 t30 t31 ∧ Inv n' t5 t31 H2) F'' H'') → Kb5 F'' H'') → zq158_b5 t1 t5 t29 t30 t31 H' K Kb5) : zq158_l5 t1 t5 t29 t30 t31 H K :=
 aloop (M := zq158_M) zq158_m5 (fun n F H => ∃ t5 t31, F = zq158_fr5 t1 t5 t29 t30 t31 ∧ Inv n t5 t31 H) n (fun hs _ => ⟨t5, t31, rfl, h0 hs⟩) (fun n F H' ⟨t5, t31, hF, hI⟩ h1 h2 h3 => by subst hF; rw [zq158_b5_eq]; exact round n t5 t31 H' hI h1 h2 h3 _ (fun _ _ h => h))
theorem zq158_eq (t0 t1 : AV) (H : Heap) (K : Kt) : awp Tryz.prog zq158_M zq158_c (retQ Tryz.prog zq158_r K) (t0 :: t1 :: List.replicate 42 .unk) H = zq158 t0 t1 H K := by kernel_rfl
theorem zq158_ok {t0 t1 : AV} {H : Heap} {K : Kt} (h : HSc H → zq158 t0 t1 H K) : ACalls Tryz.prog n_zq158 [t0, t1] H K :=
 acalls_body (M := zq158_M) Tryz.func160 (c := zq158_c) (by kernel_rfl) (fun hs => (zq158_eq t0 t1 H K).mpr (h hs))
def zq159_M : Nat → List Bool
 | 5 => rl false [1,1,2,2,29,3,13]
 | _ => []
noncomputable def zq159_c : Code := Tryz.f161.body.getD .skip
noncomputable def zq159_r : List ResultVar := Tryz.f161.results.toList
def zq159_fr5 (t1 t4 t5 t35 t36 t37 : AV) : List AV := ux 1 (t1 :: ux 2 (t4 :: t5 :: ux 29 (t35 :: t36 :: t37 :: ux 13 [])))
def zq159_m5 : List Bool := zq159_M 5
noncomputable def zq159_c5 : Code := codeAt [1, 1, 1, 0, 1, 0, 0] zq159_c
def zq159_Q5 (K : Kt) : AExit → List AV → Heap → Prop := contAt Tryz.prog zq159_M [1, 1, 1, 0, 1, 0] zq159_c (retQ Tryz.prog zq159_r K)
def zq159_l5 (t1 t4 t5 t35 t36 t37 : AV) (H : Heap) (K : Kt) : Prop := ALoop Tryz.prog zq159_c5 (zq159_Q5 K) (zq159_fr5 t1 t4 t5 t35 t36 t37) H
def zq159_b5 (t1 t4 t5 t35 t36 t37 : AV) (H : Heap) (K : Kt) (Kb5 : Lt) : Prop :=
 aBin .lss false t37 t36 fun t38 =>
 aTest t38
 (aIdxA 3 t35 t37 fun t39 =>
 aLoad true 3 t39 H fun t40 =>
 aNew [(.int .i64 0), (.int .i64 0), .snil] H fun t7 H =>
 aStore 3 t7 t40 H fun H =>
 aPure H (fun K' => aFld 2 t5 (K' · H)) fun t41 =>
 aPure H (fun K' => aLoadC false 1 t41 H (K' · H)) fun t42 =>
 aPure H (fun K' => aLoadC true 3 t7 H (K' · H)) fun t43 =>
 aPure H (fun K' => K' t1 H) fun t44 =>
 aPureX H (fun H K' => ACalls Tryz.prog n_zq159 [t43, t44] H K') fun t45 =>
 aPure H (fun K' => aBuildS 3 [(.int .i64 0), (.int .i64 0), .snil] 1 [(0, t45)] (K' · H)) fun t46 =>
 aAppend e_api_Type 3 40 t42 t46 H fun t47 H =>
 aPure H (fun K' => aFld 2 t5 (K' · H)) fun t48 =>
 aStore 1 t48 t47 H fun H =>
 aBin .add false t37 (.int .i64 1) fun t49 =>
 Kb5 (zq159_fr5 t1 t4 t5 t35 t36 t49) H)
 (aLoad true 3 t5 H fun t50 =>
 aStore 3 t4 t50 H fun H =>
 aLoad true 3 t4 H fun r0 =>
 K r0 H)
def zq159 (t0 t1 : AV) (H : Heap) (K : Kt) : Prop :=
 aBox t0 H fun t2 H =>
 aNew [(.int .i64 0), (.int .i64 0), .snil] H fun t4 H =>
 aFld 0 t2 fun t8 =>
 aLoad false 1 t8 H fun t9 =>
 aBin .eql false t9 (.int .i64 4) fun t10 =>
 aGuardJ t10 true H (fun K' => aFld 1 t2 (K' · H)) fun t12 H =>
 aGuardJ t10 true H (fun K' => aLoad false 1 t12 H (K' · H)) fun t13 H =>
 aGuardJ t10 true H (fun K' => aBin .geq false t13 (.int .i64 0) (K' · H)) fun t14 H =>
 aPick t10 t14 (.bool false) fun t15 =>
 aGuardJ t15 true H (fun K' => aFld 1 t2 (K' · H)) fun t17 H =>
 aGuardJ t15 true H (fun K' => aLoad false 1 t17 H (K' · H)) fun t18 H =>
 aGuardJ t15 true H (fun K' => K' t1 H) fun t19 H =>
 aGuardJ t15 true H (fun K' => aLen 1 t19 (K' · H)) fun t20 H =>
 aGuardJ t15 true H (fun K' => aBin .lss false t18 t20 (K' · H)) fun t21 H =>
 aPick t15 t21 (.bool false) fun t22 =>
 aTest t22
 (aFld 1 t2 fun t24 =>
 aLoad false 1 t24 H fun t25 =>
 aIdxA 3 t1 t25 fun t26 =>
 aLoad true 3 t26 H fun t27 =>
 ACalls Tryz.prog n_zq159 [t27, .snil] H fun t28 H =>
 aStore 3 t4 t28 H fun H =>
 aLoad true 3 t4 H fun r0 =>
 K r0 H)
 (aFld 0 t2 fun t29 =>
 aLoad false 1 t29 H fun t30 =>
 aFld 1 t2 fun t31 =>
 aLoad false 1 t31 H fun t32 =>
 aBuild [(.int .i64 0), (.int .i64 0), .snil] [(0, 1), (1, 1), (2, 1)] [(0, t30), (1, t32)] fun t33 =>
 aNew [(.int .i64 0), (.int .i64 0), .snil] H fun t5 H =>
 aStore 3 t5 t33 H fun H =>
 aFld 2 t2 fun t34 =>
 aLoad false 1 t34 H fun t35 =>
 aLen 1 t35 fun t36 =>
 zq159_l5 t1 t4 t5 t35 t36 (.int .i64 0) H K)
theorem zq159_b5_eq (t1 t4 t5 t35 t36 t37 : AV) (H : Heap) (K : Kt) (Kb5 : Lt) : awp Tryz.prog zq159_M zq159_c5 (roundQ zq159_m5 Kb5 (zq159_Q5 K)) (zq159_fr5 t1 t4 t5 t35 t36 t37) H = zq159_b5 t1 t4 t5 t35 t36 t37 H K Kb5 := by kernel_rfl
theorem zq159_loop5 {t1 t4 t5 t35 t36 t37 : AV} {H : Heap} {K : Kt} (Inv : Nat → AV → Heap → Prop) (n : Nat) (h0 : HSc H → Inv n t37 H)
  (round : ∀ n t37 H', Inv n t37 H' → HSc H' → H.length ≤ H'.length → (zq159_fr5 t1 t4 t5 t35 t36 t37).all (AV.sc H'.length) = true → ∀ Kb5 : Lt, (∀ F'' H'', (∃ n', n' < n ∧ Back H.length (fun F2 H2 => ∃ t37, F2 = zq159_fr5 t1 t4 t5 t35 t36 t37 ∧ Inv n' t37 H2) F'' H'') → Kb5 F'' H'') → zq159_b5 t1 t4 t5 t35 t36 t37 H' K Kb5) : zq159_l5 t1 t4 t5 t35 t36 t37 H K :=
 aloop (M := zq159_M) zq159_m5 (fun n F H => ∃ t37, F = zq159_fr5 t1 t4 t5 t35 t36 t37 ∧ Inv n t37 H) n (fun hs _ => ⟨t37, rfl, h0 hs⟩) (fun n F H' ⟨t37, hF, hI⟩ h1 h2 h3 => by subst hF; rw [zq159_b5_eq]; exact round n t37 H' hI h1 h2 h3 _ (fun _ _ h => h))
theorem zq159_eq (t0 t1 : AV) (H : Heap) (K : Kt) : awp Tryz.prog zq159_M zq159_c (retQ Tryz.prog zq159_r K) (t0 :: t1 :: List.replicate 49 .unk) H = zq159 t0 t1 H K := by kernel_rfl
theorem zq159_ok {t0 t1 : AV} {H : Heap} {K : Kt} (h : HSc H → zq159 t0 t1 H K) : ACalls Tryz.prog n_zq159 [t0, t1] H K :=
 acalls_body (M := zq159_M) Tryz.func161 (c := zq159_c) (by kernel_rfl) (fun hs => (zq159_eq t0 t1 H K).mpr (h hs))
def zq52_M (_ : Nat) : List Bool := []
noncomputable def zq52_c : Code := Tryz.f54.body.getD .skip
noncomputable def zq52_r : List ResultVar := Tryz.f54.results.toList
def zq52 (t0 t1 t2 : AV) (H : Heap) (K : Kt) : Prop :=
 aBox t1 H fun t4 H =>
 aLoad true 3 t4 H fun t7 =>
 ACalls Tryz.prog n_zq93 [t7] H fun t8 H =>
 aBin .leq false t8 (.int .i64 200) fun t9 =>
 aGuardJ t9 true H (fun K' => K' t0 H) fun t11 H =>
 aGuardJ t9 true H (fun K' => aLoad true 3 t4 H (K' · H)) fun t12 H =>
 aGuardJ t9 true H (fun K' => K' t2 H) fun t13 H =>
 aGuardJ t9 true H (fun K' => ACalls Tryz.prog n_zq94 [t11, t12, t13] H K') fun t14 H =>
 aPick t9 t14 (.bool false) fun t15 =>
 K t15 H
theorem zq52_eq (t0 t1 t2 : AV) (H : Heap) (K : Kt) : awp Tryz.prog zq52_M zq52_c (retQ Tryz.prog zq52_r K) (t0 :: t1 :: t2 :: List.replicate 13 .unk) H = zq52 t0 t1 t2 H K := by kernel_rfl
theorem zq52_ok {t0 t1 t2 : AV} {H : Heap} {K : Kt} (h : HSc H → zq52 t0 t1 t2 H K) : ACalls Tryz.prog n_zq52 [t0, t1, t2] H K :=
 acalls_body (M := zq52_M) Tryz.func54 (c := zq52_c) (by kernel_rfl) (fun hs => (zq52_eq t0 t1 t2 H K).mpr (h hs))
def zq93_M : Nat → List Bool
 | 3 => rl false [1,1,1,2,16]
 | _ => []
noncomputable def zq93_c : Code := Tryz.f95.body.getD .skip
noncomputable def zq93_r : List ResultVar := Tryz.f95.results.toList
def zq93_fr3 (t1 t3 t4 : AV) : List AV := ux 1 (t1 :: ux 1 (t3 :: t4 :: ux 16 []))
def zq93_m3 : List Bool := zq93_M 3
noncomputable def zq93_c3 : Code := codeAt [1, 1, 0, 1, 0, 0] zq93_c
def zq93_Q3 (K : Kt) : AExit → List AV → Heap → Prop := contAt Tryz.prog zq93_M [1, 1, 0, 1, 0] zq93_c (retQ Tryz.prog zq93_r K)
def zq93_l3 (t1 t3 t4 : AV) (H : Heap) (K : Kt) : Prop := ALoop Tryz.prog zq93_c3 (zq93_Q3 K) (zq93_fr3 t1 t3 t4) H
def zq93_b3 (t1 t3 t4 : AV) (H : Heap) (K : Kt) (Kb3 : Lt) : Prop :=
 aFld 2 t1 fun t6 =>
 aLoad false 1 t6 H fun t7 =>
 aLen 1 t7 fun t8 =>
 aBin .lss false t4 t8 fun t9 =>
 aTest t9
 (aFld 2 t1 fun t13 =>
 aLoad false 1 t13 H fun t14 =>
 aIdxA 3 t14 t4 fun t16 =>
 aLoad true 3 t16 H fun t17 =>
 ACalls Tryz.prog n_zq93 [t17] H fun t18 H =>
 aBin .add false t3 t18 fun t19 =>
 aBin .add false t4 (.int .i64 1) fun t11 =>
 Kb3 (zq93_fr3 t1 t19 t11) H)
 (K t3 H)
def zq93 (t0 : AV) (H : Heap) (K : Kt) : Prop :=
 aBox t0 H fun t1 H =>
 zq93_l3 t1 (.int .i64 1) (.int .i64 0) H K
theorem zq93_b3_eq (t1 t3 t4 : AV) (H : Heap) (K : Kt) (Kb3 : Lt) : awp Tryz.prog zq93_M zq93_c3 (roundQ zq93_m3 Kb3 (zq93_Q3 K)) (zq93_fr3 t1 t3 t4) H = zq93_b3 t1 t3 t4 H K Kb3 := by kernel_rfl
theorem zq93_loop3 {t1 t3 t4 : AV} {H : Heap} {K : Kt} (Inv : Nat → AV → AV → Heap → Prop) (n : Nat) (h0 : HSc H → Inv n t3 t4 H)
  (round : ∀ n t3 t4 H', Inv n t3 t4 H' → HSc H' → H.length ≤ H'.length → (zq93_fr3 t1 t3 t4).all (AV.sc H'.length) = true → ∀ Kb3 : Lt, (∀ F'' H'', (∃ n', n' < n ∧ Back H.length (fun F2 H2 => ∃ t3 t4, F2 = zq93_fr3 t1 t3 t4 ∧ Inv n' t3 t4 H2) F'' H'') → Kb3 F'' H'') → zq93_b3 t1 t3 t4 H' K Kb3) : zq93_l3 t1 t3 t4 H K :=
 aloop (M := zq93_M) zq93_m3 (fun n F H => ∃ t3 t4, F = zq93_fr3 t1 t3 t4 ∧ Inv n t3 t4 H) n (fun hs _ => ⟨t3, t4, rfl, h0 hs⟩) (fun n F H' ⟨t3, t4, hF, hI⟩ h1 h2 h3 => by subst hF; rw [zq93_b3_eq]; exact round n t3 t4 H' hI h1 h2 h3 _ (fun _ _ h => h))
theorem zq93_eq (t0 : AV) (H : Heap) (K : Kt) : awp Tryz.prog zq93_M zq93_c (retQ Tryz.prog zq93_r K) (t0 :: List.replicate 20 .unk) H = zq93 t0 H K := by kernel_rfl
theorem zq93_ok {t0 : AV} {H : Heap} {K : Kt} (h : HSc H → zq93 t0 H K) : ACalls Tryz.prog n_zq93 [t0] H K :=
 acalls_body (M := zq93_M) Tryz.func95 (c := zq93_c) (by kernel_rfl) (fun hs => (zq93_eq t0 H K).mpr (h hs))
def zq94_M : Nat → List Bool
 | 24 => rl false [0,1,1,1,1,1,2,2,103]
 | _ => []
noncomputable def zq94_c : Code := Tryz.f96.body.getD .skip
noncomputable def zq94_r : List ResultVar := Tryz.f96.results.toList
def zq94_fr24 (t0 t2 t4 t7 t8 : AV) : List AV := t0 :: ux 1 (t2 :: ux 1 (t4 :: ux 2 (t7 :: t8 :: ux 103 [])))
def zq94_m24 : List Bool := zq94_M 24
noncomputable def zq94_c24 : Code := codeAt [1, 1, 1, 0, 1, 0, 0] zq94_c
def zq94_Q24 (K : Kt) : AExit → List AV → Heap → Prop := contAt Tryz.prog zq94_M [1, 1, 1, 0, 1, 0] zq94_c (retQ Tryz.prog zq94_r K)
def zq94_l24 (t0 t2 t4 t7 t8 : AV) (H : Heap) (K : Kt) : Prop := ALoop Tryz.prog zq94_c24 (zq94_Q24 K) (zq94_fr24 t0 t2 t4 t7 t8) H
def zq94_b24 (t0 t2 t4 t7 t8 : AV) (H : Heap) (K : Kt) (Kb24 : Lt) : Prop :=
 aBin .lss false t8 t7 fun t100 =>
 aTest t100
 (aFld 2 t4 fun t104 =>
 aLoad false 1 t104 H fun t105 =>
 aIdxA 3 t105 t8 fun t107 =>
 aLoad true 3 t107 H fun t108 =>
 ACalls Tryz.prog n_zq94 [t0, t108, t2] H fun t110 H =>
 aUn .not t110 fun t111 =>
 aTest t111
 (K (.bool false) H)
 (aBin .add false t8 (.int .i64 1) fun t102 =>
 Kb24 (zq94_fr24 t0 t2 t4 t7 t102) H))
 (K (.bool true) H)
def zq94_j3 (t0 t2 t4 t7 : AV) (H : Heap) (K : Kt) : Prop :=
 zq94_l24 t0 t2 t4 t7 (.int .i64 0) H K
def zq94_j2 (t0 t2 t4 t7 : AV) (H : Heap) (K : Kt) : Prop :=
 zq94_j3 t0 t2 t4 t7 H K
def zq94_j4 (t0 t2 t4 t7 t13 t75 : AV) (H : Heap) (K : Kt) : Prop :=
 aTest t75
 (aFld 1 t4 fun t78 =>
 aLoad false 1 t78 H fun t79 =>
 aBin .neq false t79 (.int .i64 0) fun t80 =>
 aGuardJ t80 false H (fun K' => K' t7 H) fun t82 H =>
 aGuardJ t80 false H (fun K' => aBin .neq false t82 (.int .i64 1) (K' · H)) fun t83 H =>
 aPick t80 (.bool true) t83 fun t84 =>
 aTest t84
 (K (.bool false) H)
 (zq94_j2 t0 t2 t4 t7 H K))
 (aBin .eql false t13 (.int .i64 9) fun t86 =>
 aTest t86
 (aFld 1 t4 fun t87 =>
 aLoad false 1 t87 H fun t88 =>
 aBin .neq false t88 (.int .i64 0) fun t89 =>
 aGuardJ t89 false H (fun K' => K' t7 H) fun t91 H =>
 aGuardJ t89 false H (fun K' => aBin .lss false t91 (.int .i64 1) (K' · H)) fun t92 H =>
 aPick t89 (.bool true) t92 fun t93 =>
 aGuardJ t93 false H (fun K' => K' t7 H) fun t95 H =>
 aGuardJ t93 false H (fun K' => aBin .gtr false t95 (.int .i64 7) (K' · H)) fun t96 H =>
 aPick t93 (.bool true) t96 fun t97 =>
 aTest t97
 (K (.bool false) H)
 (zq94_j2 t0 t2 t4 t7 H K))
 (K (.bool false) H))
def zq94_j1 (t0 t2 t4 t7 t13 t14 : AV) (H : Heap) (K : Kt) : Prop :=
 aTest t14
 (aFld 1 t4 fun t18 =>
 aLoad false 1 t18 H fun t19 =>
 aBin .eql false t19 (.int .i64 0) fun t20 =>
 aGuardJ t20 true H (fun K' => K' t7 H) fun t22 H =>
 aGuardJ t20 true H (fun K' => aBin .eql false t22 (.int .i64 0) (K' · H)) fun t23 H =>
 aPick t20 t23 (.bool false) fun t24 =>
 K t24 H)
 (aBin .eql false t13 (.int .i64 4) fun t26 =>
 aTest t26
 (aFld 1 t4 fun t27 =>
 aLoad false 1 t27 H fun t28 =>
 aBin .geq false t28 (.int .i64 0) fun t29 =>
 aGuardJ t29 true H (fun K' => aFld 1 t4 (K' · H)) fun t31 H =>
 aGuardJ t29 true H (fun K' => aLoad false 1 t31 H (K' · H)) fun t32 H =>
 aGuardJ t29 true H (fun K' => K' t2 H) fun t33 H =>
 aGuardJ t29 true H (fun K' => aBin .lss false t32 t33 (K' · H)) fun t34 H =>
 aPick t29 t34 (.bool false) fun t35 =>
 aGuardJ t35 true H (fun K' => K' t7 H) fun t37 H =>
 aGuardJ t35 true H (fun K' => aBin .eql false t37 (.int .i64 0) (K' · H)) fun t38 H =>
 aPick t35 t38 (.bool false) fun t39 =>
 K t39 H)
 (aBin .eql false t13 (.int .i64 5) fun t41 =>
 aTest t41
 (aFld 1 t4 fun t42 =>
 aLoad false 1 t42 H fun t43 =>
 aBin .lss false t43 (.int .i64 0) fun t44 =>
 aGuardJ t44 false H (fun K' => aFld 1 t4 (K' · H)) fun t46 H =>
 aGuardJ t44 false H (fun K' => aLoad false 1 t46 H (K' · H)) fun t47 H =>
 aGuardJ t44 false H (fun K' => K' t0 H) fun t48 H =>
 aGuardJ t44 false H (fun K' => aLen 1 t48 (K' · H)) fun t49 H =>
 aGuardJ t44 false H (fun K' => aBin .geq false t47 t49 (K' · H)) fun t50 H =>
 aPick t44 (.bool true) t50 fun t51 =>
 aGuardJ t51 false H (fun K' => K' t7 H) fun t53 H =>
 aGuardJ t51 false H (fun K' => K' t0 H) fun t54 H =>
 aGuardJ t51 false H (fun K' => aFld 1 t4 (K' · H)) fun t55 H =>
 aGuardJ t51 false H (fun K' => aLoad false 1 t55 H (K' · H)) fun t56 H =>
 aGuardJ t51 false H (fun K' => aIdxA 3 t54 t56 (K' · H)) fun t57 H =>
 aGuardJ t51 false H (fun K' => aFld 1 t57 (K' · H)) fun t58 H =>
 aGuardJ t51 false H (fun K' => aLoad false 1 t58 H (K' · H)) fun t59 H =>
 aGuardJ t51 false H (fun K' => aBin .neq false t53 t59 (K' · H)) fun t60 H =>
 aPick t51 (.bool true) t60 fun t61 =>
 aTest t61
 (K (.bool false) H)
 (zq94_j2 t0 t2 t4 t7 H K))
 (aBin .eql false t13 (.int .i64 6) fun t63 =>
 aTest t63
 (aFld 1 t4 fun t64 =>
 aLoad false 1 t64 H fun t65 =>
 aBin .neq false t65 (.int .i64 0) fun t66 =>
 aGuardJ t66 false H (fun K' => K' t7 H) fun t68 H =>
 aGuardJ t66 false H (fun K' => aBin .lss false t68 (.int .i64 2) (K' · H)) fun t69 H =>
 aPick t66 (.bool true) t69 fun t70 =>
 aGuardJ t70 false H (fun K' => K' t7 H) fun t72 H =>
 aGuardJ t70 false H (fun K' => aBin .gtr false t72 (.int .i64 6) (K' · H)) fun t73 H =>
 aPick t70 (.bool true) t73 fun t74 =>
 aTest t74
 (K (.bool false) H)
 (zq94_j2 t0 t2 t4 t7 H K))
 (aBin .eql false t13 (.int .i64 7) fun t76 =>
 aTest t76
 (zq94_j4 t0 t2 t4 t7 t13 t76 H K)
 (aBin .eql false t13 (.int .i64 8) fun t77 =>
 zq94_j4 t0 t2 t4 t7 t13 t77 H K)))))
def zq94 (t0 t1 t2 : AV) (H : Heap) (K : Kt) : Prop :=
 aBox t1 H fun t4 H =>
 aFld 2 t4 fun t9 =>
 aLoad false 1 t9 H fun t10 =>
 aLen 1 t10 fun t11 =>
 aFld 0 t4 fun t12 =>
 aLoad false 1 t12 H fun t13 =>
 aBin .eql false t13 (.int .i64 1) fun t15 =>
 aTest t15
 (zq94_j1 t0 t2 t4 t11 t13 t15 H K)
 (aBin .eql false t13 (.int .i64 2) fun t16 =>
 aTest t16
 (zq94_j1 t0 t2 t4 t11 t13 t16 H K)
 (aBin .eql false t13 (.int .i64 3) fun t17 =>
 zq94_j1 t0 t2 t4 t11 t13 t17 H K))
theorem zq94_b24_eq (t0 t2 t4 t7 t8 : AV) (H : Heap) (K : Kt) (Kb24 : Lt) : awp Tryz.prog zq94_M zq94_c24 (roundQ zq94_m24 Kb24 (zq94_Q24 K)) (zq94_fr24 t0 t2 t4 t7 t8) H = zq94_b24 t0 t2 t4 t7 t8 H K Kb24 := by kernel_rfl
theorem zq94_loop24 {t0 t2 t4 t7 t8 : AV} {H : Heap} {K : Kt} (Inv : Nat → AV → Heap → Prop) (n : Nat) (h0 : HSc H → Inv n t8 H)
  (round : ∀ n t8 H', Inv n t8 H' → HSc H' → H.length ≤ H'.length → (zq94_fr24 t0 t2 t4 t7 t8).all (AV.sc H'.length) = true → ∀ Kb24 : Lt, (∀ F'' H'', (∃ n', n' < n ∧ Back H.length (fun F2 H2 => ∃ t8, F2 = zq94_fr24 t0 t2 t4 t7 t8 ∧ Inv n' t8 H2) F'' H'') → Kb24 F'' H'') → zq94_b24 t0 t2 t4 t7 t8 H' K Kb24) : zq94_l24 t0 t2 t4 t7 t8 H K :=
 aloop (M := zq94_M) zq94_m24 (fun n F H => ∃ t8, F = zq94_fr24 t0 t2 t4 t7 t8 ∧ Inv n t8 H) n (fun hs _ => ⟨t8, rfl, h0 hs⟩) (fun n F H' ⟨t8, hF, hI⟩ h1 h2 h3 => by subst hF; rw [zq94_b24_eq]; exact round n t8 H' hI h1 h2 h3 _ (fun _ _ h => h))
theorem zq94_eq (t0 t1 t2 : AV) (H : Heap) (K : Kt) : awp Tryz.prog zq94_M zq94_c (retQ Tryz.prog zq94_r K) (t0 :: t1 :: t2 :: List.replicate 109 .unk) H = zq94 t0 t1 t2 H K := by kernel_rfl
theorem zq94_ok {t0 t1 t2 : AV} {H : Heap} {K : Kt} (h : HSc H → zq94 t0 t1 t2 H K) : ACalls Tryz.prog n_zq94 [t0, t1, t2] H K :=
 acalls_body (M := zq94_M) Tryz.func96 (c := zq94_c) (by kernel_rfl) (fun hs => (zq94_eq t0 t1 t2 H K).mpr (h hs))
def zq96_M : Nat → List Bool
 | 5 => rl false [4,1,3,1,54,3,16]
 | _ => []
noncomputable def zq96_c : Code := Tryz.f98.body.getD .skip
noncomputable def zq96_r : List ResultVar := Tryz.f98.results.toList
def zq96_fr5 (t4 t8 t63 t64 t65 : AV) : List AV := ux 4 (t4 :: ux 3 (t8 :: ux 54 (t63 :: t64 :: t65 :: ux 16 [])))
def zq96_m5 : List Bool := zq96_M 5
noncomputable def zq96_c5 : Code := codeAt [1, 1, 1, 0, 1, 0, 0] zq96_c
def zq96_Q5 (K : Kt) : AExit → List AV → Heap → Prop := contAt Tryz.prog zq96_M [1, 1, 1, 0, 1, 0] zq96_c (retQ Tryz.prog zq96_r K)
def zq96_l5 (t4 t8 t63 t64 t65 : AV) (H : Heap) (K : Kt) : Prop := ALoop Tryz.prog zq96_c5 (zq96_Q5 K) (zq96_fr5 t4 t8 t63 t64 t65) H
def zq96_b5 (t4 t8 t63 t64 t65 : AV) (H : Heap) (K : Kt) (Kb5 : Lt) : Prop :=
 aBin .lss false t65 t64 fun t66 =>
 aTest t66
 (aIdxA 3 t63 t65 fun t67 =>
 aLoad true 3 t67 H fun t68 =>
 aNew [(.int .i64 0), (.int .i64 0), .snil] H fun t10 H =>
 aStore 3 t10 t68 H fun H =>
 aLoad true 3 t10 H fun t69 =>
 aFld 2 t4 fun t70 =>
 aLoad false 1 t70 H fun t71 =>
 ACalls Tryz.prog n_zq161 [t69, t71] H fun t72 H =>
 aNew [(.int .i64 0), (.int .i64 0), .snil] H fun t11 H =>
 aStore 3 t11 t72 H fun H =>
 aLoad true 3 t11 H fun t73 =>
 ACalls Tryz.prog n_zq93 [t73] H fun t74 H =>
 aBin .gtr false t74 (.int .i64 200) fun t75 =>
 aTest t75
 (aRet [.snil, (.bool false)] (K · H))
 (aLoad true 3 t11 H fun t77 =>
 aBuildS 3 [(.int .i64 0), (.int .i64 0), .snil] 1 [(0, t77)] fun t78 =>
 aAppend e_api_Type 3 40 t8 t78 H fun t79 H =>
 aBin .add false t65 (.int .i64 1) fun t80 =>
 Kb5 (zq96_fr5 t4 t79 t63 t64 t80) H))
 (aRet [t8, (.bool true)] (K · H))
def zq96 (t0 t1 t2 : AV) (H : Heap) (K : Kt) : Prop :=
 aBox t1 H fun t4 H =>
 aPure H (fun K' => aFld 0 t4 (K' · H)) fun t12 =>
 aPure H (fun K' => aLoadC false 1 t12 H (K' · H)) fun t13 =>
 aPure H (fun K' => aBin .neq false t13 (.int .i64 5) (K' · H)) fun t14 =>
 aPure H (fun K' => K' t14 H) fun t15 =>
 aGuardJ t15 false H (fun K' => aPure H (fun K'' => aFld 1 t4 (K'' · H)) (K' · H)) fun t16 H =>
 aGuardJ t15 false H (fun K' => aPure H (fun K'' => aLoadC false 1 t16 H (K'' · H)) (K' · H)) fun t17 H =>
 aGuardJ t15 false H (fun K' => aPure H (fun K'' => aBin .lss false t17 (.int .i64 0) (K'' · H)) (K' · H)) fun t18 H =>
 aPure H (fun K' => aPick t15 (.bool true) t18 (K' · H)) fun t19 =>
 aPure H (fun K' => K' t19 H) fun t20 =>
 aGuardJ t20 false H (fun K' => aPure H (fun K'' => aFld 1 t4 (K'' · H)) (K' · H)) fun t21 H =>
 aGuardJ t20 false H (fun K' => aPure H (fun K'' => aLoadC false 1 t21 H (K'' · H)) (K' · H)) fun t22 H =>
 aGuardJ t20 false H (fun K' => aPure H (fun K'' => K'' t0 H) (K' · H)) fun t23 H =>
 aGuardJ t20 false H (fun K' => aPure H (fun K'' => aLen 1 t23 (K'' · H)) (K' · H)) fun t24 H =>
 aGuardJ t20 false H (fun K' => aPure H (fun K'' => aBin .geq false t22 t24 (K'' · H)) (K' · H)) fun t25 H =>
 aPure H (fun K' => aPick t20 (.bool true) t25 (K' · H)) fun t26 =>
 aPure H (fun K' => K' t26 H) fun t27 =>
 aGuardJ t27 false H (fun K' => aPure H (fun K'' => aFld 2 t4 (K'' · H)) (K' · H)) fun t28 H =>
 aGuardJ t27 false H (fun K' => aPure H (fun K'' => aLoadC false 1 t28 H (K'' · H)) (K' · H)) fun t29 H =>
 aGuardJ t27 false H (fun K' => aPure H (fun K'' => aLen 1 t29 (K'' · H)) (K' · H)) fun t30 H =>
 aGuardJ t27 false H (fun K' => aPure H (fun K'' => K'' t0 H) (K' · H)) fun t31 H =>
 aGuardJ t27 false H (fun K' => aPure H (fun K'' => aFld 1 t4 (K'' · H)) (K' · H)) fun t32 H =>
 aGuardJ t27 false H (fun K' => aPure H (fun K'' => aLoadC false 1 t32 H (K'' · H)) (K' · H)) fun t33 H =>
 aGuardJ t27 false H (fun K' => aPure H (fun K'' => aIdxA 3 t31 t33 (K'' · H)) (K' · H)) fun t34 H =>
 aGuardJ t27 false H (fun K' => aPure H (fun K'' => aFld 1 t34 (K'' · H)) (K' · H)) fun t35 H =>
 aGuardJ t27 false H (fun K' => aPure H (fun K'' => aLoadC false 1 t35 H (K'' · H)) (K' · H)) fun t36 H =>
 aGuardJ t27 false H (fun K' => aPure H (fun K'' => aBin .neq false t30 t36 (K'' · H)) (K' · H)) fun t37 H =>
 aPure H (fun K' => aPick t27 (.bool true) t37 (K' · H)) fun t38 =>
 aPure H (fun K' => K' t38 H) fun t39 =>
 aGuardJ t39 false H (fun K' => aPure H (fun K'' => K'' t2 H) (K' · H)) fun t40 H =>
 aGuardJ t39 false H (fun K' => aPure H (fun K'' => aBin .lss false t40 (.int .i64 0) (K'' · H)) (K' · H)) fun t41 H =>
 aPure H (fun K' => aPick t39 (.bool true) t41 (K' · H)) fun t42 =>
 aPure H (fun K' => K' t42 H) fun t43 =>
 aGuardJ t43 false H (fun K' => aPure H (fun K'' => K'' t2 H) (K' · H)) fun t44 H =>
 aGuardJ t43 false H (fun K' => aPure H (fun K'' => K'' t0 H) (K' · H)) fun t45 H =>
 aGuardJ t43 false H (fun K' => aPure H (fun K'' => aFld 1 t4 (K'' · H)) (K' · H)) fun t46 H =>
 aGuardJ t43 false H (fun K' => aPure H (fun K'' => aLoadC false 1 t46 H (K'' · H)) (K' · H)) fun t47 H =>
 aGuardJ t43 false H (fun K' => aPure H (fun K'' => aIdxA 3 t45 t47 (K'' · H)) (K' · H)) fun t48 H =>
 aGuardJ t43 false H (fun K' => aPure H (fun K'' => aFld 2 t48 (K'' · H)) (K' · H)) fun t49 H =>
 aGuardJ t43 false H (fun K' => aPure H (fun K'' => aLoadC false 1 t49 H (K'' · H)) (K' · H)) fun t50 H =>
 aGuardJ t43 false H (fun K' => aPure H (fun K'' => aLen 1 t50 (K'' · H)) (K' · H)) fun t51 H =>
 aGuardJ t43 false H (fun K' => aPure H (fun K'' => aBin .geq false t44 t51 (K'' · H)) (K' · H)) fun t52 H =>
 aPure H (fun K' => aPick t43 (.bool true) t52 (K' · H)) fun t53 =>
 aTest t53
 (aRet [.snil, (.bool false)] (K · H))
 (aFld 1 t4 fun t55 =>
 aLoad false 1 t55 H fun t56 =>
 aIdxA 3 t0 t56 fun t57 =>
 aFld 2 t57 fun t58 =>
 aLoad false 1 t58 H fun t59 =>
 aIdxA 2 t59 t2 fun t61 =>
 aFld 1 t61 fun t62 =>
 aLoad false 1 t62 H fun t63 =>
 aLen 1 t63 fun t64 =>
 zq96_l5 t4 .snil t63 t64 (.int .i64 0) H K)
theorem zq96_b5_eq (t4 t8 t63 t64 t65 : AV) (H : Heap) (K : Kt) (Kb5 : Lt) : awp Tryz.prog zq96_M zq96_c5 (roundQ zq96_m5 Kb5 (zq96_Q5 K)) (zq96_fr5 t4 t8 t63 t64 t65) H = zq96_b5 t4 t8 t63 t64 t65 H K Kb5 := by kernel_rfl
theorem zq96_loop5 {t4 t8 t63 t64 t65 : AV} {H : Heap} {K : Kt} (Inv : Nat → AV → AV → Heap → Prop) (n : Nat) (h0 : HSc H → Inv n t8 t65 H)
  (round : ∀ n t8 t65 H', Inv n t8 t65 H' → HSc H' → H.length ≤ H'.length → (zq96_fr5 t4 t8 t63 t64 t65).all (AV.sc H'.length) = true → ∀ Kb5 : Lt, (∀ F'' H'', (∃ n', n' < n ∧ Back H.length (fun F2 H2 => ∃ t8 t65, F2 = zq96_fr5 t4 t8 t63 t64 t65 ∧ Inv n' t8 t65 H2) F'' H'') → Kb5 F'' H'') → zq96_b5 t4 t8 t63 t64 t65 H' K Kb5) : zq96_l5 t4 t8 t63 t64 t65 H K :=
 aloop (M := zq96_M) zq96_m5 (fun n F H => ∃ t8 t65, F = zq96_fr5 t4 t8 t63 t64 t65 ∧ Inv n t8 t65 H) n (fun hs _ => ⟨t8, t65, rfl, h0 hs⟩) (fun n F H' ⟨t8, t65, hF, hI⟩ h1 h2 h3 => by subst hF; rw [zq96_b5_eq]; exact round n t8 t65 H' hI h1 h2 h3 _ (fun _ _ h => h))
theorem zq96_eq (t0 t1 t2 : AV) (H : Heap) (K : Kt) : awp Tryz.prog zq96_M zq96_c (retQ Tryz.prog zq96_r K) (t0 :: t1 :: t2 :: List.replicate 79 .unk) H = zq96 t0 t1 t2 H K := by kernel_rfl
theorem zq96_ok {t0 t1 t2 : AV} {H : Heap} {K : Kt} (h : HSc H → zq96 t0 t1 t2 H K) : ACalls Tryz.prog n_zq96 [t0, t1, t2] H K :=
 acalls_body (M := zq96_M) Tryz.func98 (c := zq96_c) (by kernel_rfl) (fun hs => (zq96_eq t0 t1 t2 H K).mpr (h hs))
def zq161_M : Nat → List Bool
 | 5 => rl false [1,2,1,3,46]
 | _ => []
noncomputable def zq161_c : Code := Tryz.f163.body.getD .skip
noncomputable def zq161_r : List ResultVar := Tryz.f163.results.toList
def zq161_fr5 (t1 t2 t4 t5 t6 : AV) : List AV := ux 1 (t1 :: t2 :: ux 1 (t4 :: t5 :: t6 :: ux 46 []))
def zq161_m5 : List Bool := zq161_M 5
noncomputable def zq161_c5 : Code := codeAt [1, 1, 1, 0, 1, 0, 0] zq161_c
def zq161_Q5 (K : Kt) : AExit → List AV → Heap → Prop := contAt Tryz.prog zq161_M [1, 1, 1, 0, 1, 0] zq161_c (retQ Tryz.prog zq161_r K)
def zq161_l5 (t1 t2 t4 t5 t6 : AV) (H : Heap) (K : Kt) : Prop := ALoop Tryz.prog zq161_c5 (zq161_Q5 K) (zq161_fr5 t1 t2 t4 t5 t6) H
def zq161_b5 (t1 t2 t4 t5 t6 : AV) (H : Heap) (K : Kt) (Kb5 : Lt) : Prop :=
 aFld 2 t2 fun t34 =>
 aLoad false 1 t34 H fun t35 =>
 aLen 1 t35 fun t36 =>
 aBin .lss false t6 t36 fun t37 =>
 aTest t37
 (aPure H (fun K' => aFld 2 t5 (K' · H)) fun t40 =>
 aPure H (fun K' => aLoadC false 1 t40 H (K' · H)) fun t41 =>
 aPure H (fun K' => aFld 2 t2 (K' · H)) fun t42 =>
 aPure H (fun K' => aLoadC false 1 t42 H (K' · H)) fun t43 =>
 aPure H (fun K' => K' t6 H) fun t44 =>
 aPure H (fun K' => aIdxA 3 t43 t44 (K' · H)) fun t45 =>
 aPure H (fun K' => aLoadC true 3 t45 H (K' · H)) fun t46 =>
 aPure H (fun K' => K' t1 H) fun t47 =>
 aPureX H (fun H K' => ACalls Tryz.prog n_zq161 [t46, t47] H K') fun t48 =>
 aPure H (fun K' => aBuildS 3 [(.int .i64 0), (.int .i64 0), .snil] 1 [(0, t48)] (K' · H)) fun t49 =>
 aAppend e_api_Type 3 40 t41 t49 H fun t50 H =>
 aPure H (fun K' => aFld 2 t5 (K' · H)) fun t51 =>
 aStore 1 t51 t50 H fun H =>
 aBin .add false t6 (.int .i64 1) fun t39 =>
 Kb5 (zq161_fr5 t1 t2 t4 t5 t39) H)
 (aLoad true 3 t5 H fun t52 =>
 aStore 3 t4 t52 H fun H =>
 aLoad true 3 t4 H fun r0 =>
 K r0 H)
def zq161 (t0 t1 : AV) (H : Heap) (K : Kt) : Prop :=
 aBox t0 H fun t2 H =>
 aNew [(.int .i64 0), (.int .i64 0), .snil] H fun t4 H =>
 aFld 0 t2 fun t7 =>
 aLoad false 1 t7 H fun t8 =>
 aBin .eql false t8 (.int .i64 4) fun t9 =>
 aGuardJ t9 true H (fun K' => aFld 1 t2 (K' · H)) fun t11 H =>
 aGuardJ t9 true H (fun K' => aLoad false 1 t11 H (K' · H)) fun t12 H =>
 aGuardJ t9 true H (fun K' => aBin .geq false t12 (.int .i64 0) (K' · H)) fun t13 H =>
 aPick t9 t13 (.bool false) fun t14 =>
 aGuardJ t14 true H (fun K' => aFld 1 t2 (K' · H)) fun t16 H =>
 aGuardJ t14 true H (fun K' => aLoad false 1 t16 H (K' · H)) fun t17 H =>
 aGuardJ t14 true H (fun K' => K' t1 H) fun t18 H =>
 aGuardJ t14 true H (fun K' => aLen 1 t18 (K' · H)) fun t19 H =>
 aGuardJ t14 true H (fun K' => aBin .lss false t17 t19 (K' · H)) fun t20 H =>
 aPick t14 t20 (.bool false) fun t21 =>
 aTest t21
 (aFld 1 t2 fun t23 =>
 aLoad false 1 t23 H fun t24 =>
 aIdxA 3 t1 t24 fun t25 =>
 aLoad true 3 t25 H fun t26 =>
 ACalls Tryz.prog n_zq203 [t26] H fun t27 H =>
 aStore 3 t4 t27 H fun H =>
 aLoad true 3 t4 H fun r0 =>
 K r0 H)
 (aFld 0 t2 fun t28 =>
 aLoad false 1 t28 H fun t29 =>
 aFld 1 t2 fun t30 =>
 aLoad false 1 t30 H fun t31 =>
 aBuild [(.int .i64 0), (.int .i64 0), .snil] [(0, 1), (1, 1), (2, 1)] [(0, t29), (1, t31)] fun t32 =>
 aNew [(.int .i64 0), (.int .i64 0), .snil] H fun t5 H =>
 aStore 3 t5 t32 H fun H =>
 zq161_l5 t1 t2 t4 t5 (.int .i64 0) H K)
theorem zq161_b5_eq (t1 t2 t4 t5 t6 : AV) (H : Heap) (K : Kt) (Kb5 : Lt) : awp Tryz.prog zq161_M zq161_c5 (roundQ zq161_m5 Kb5 (zq161_Q5 K)) (zq161_fr5 t1 t2 t4 t5 t6) H = zq161_b5 t1 t2 t4 t5 t6 H K Kb5 := by kernel_rfl
theorem zq161_loop5 {t1 t2 t4 t5 t6 : AV} {H : Heap} {K : Kt} (Inv : Nat → AV → Heap → Prop) (n : Nat) (h0 : HSc H → Inv n t6 H)
  (round : ∀ n t6 H', Inv n t6 H' → HSc H' → H.length ≤ H'.length → (zq161_fr5 t1 t2 t4 t5 t6).all (AV.sc H'.length) = true → ∀ Kb5 : Lt, (∀ F'' H'', (∃ n', n' < n ∧ Back H.length (fun F2 H2 => ∃ t6, F2 = zq161_fr5 t1 t2 t4 t5 t6 ∧ Inv n' t6 H2) F'' H'') → Kb5 F'' H'') → zq161_b5 t1 t2 t4 t5 t6 H' K Kb5) : zq161_l5 t1 t2 t4 t5 t6 H K :=
 aloop (M := zq161_M) zq161_m5 (fun n F H => ∃ t6, F = zq161_fr5 t1 t2 t4 t5 t6 ∧ Inv n t6 H) n (fun hs _ => ⟨t6, rfl, h0 hs⟩) (fun n F H' ⟨t6, hF, hI⟩ h1 h2 h3 => by subst hF; rw [zq161_b5_eq]; exact round n t6 H' hI h1 h2 h3 _ (fun _ _ h => h))
theorem zq161_eq (t0 t1 : AV) (H : Heap) (K : Kt) : awp Tryz.prog zq161_M zq161_c (retQ Tryz.prog zq161_r K) (t0 :: t1 :: List.replicate 51 .unk) H = zq161 t0 t1 H K := by kernel_rfl
theorem zq161_ok {t0 t1 : AV} {H : Heap} {K : Kt} (h : HSc H → zq161 t0 t1 H K) : ACalls Tryz.prog n_zq161 [t0, t1] H K :=
 acalls_body (M := zq161_M) Tryz.func163 (c := zq161_c) (by kernel_rfl) (fun hs => (zq161_eq t0 t1 H K).mpr (h hs))
def zq203_M : Nat → List Bool
 | 3 => rl false [1,4,24]
 | _ => []
noncomputable def zq203_c : Code := Tryz.f205.body.getD .skip
noncomputable def zq203_r : List ResultVar := Tryz.f205.results.toList
def zq203_fr3 (t1 t2 t3 t4 : AV) : List AV := ux 1 (t1 :: t2 :: t3 :: t4 :: ux 24 [])
def zq203_m3 : List Bool := zq203_M 3
noncomputable def zq203_c3 : Code := codeAt [1, 1, 0, 1, 0, 0] zq203_c
def zq203_Q3 (K : Kt) : AExit → List AV → Heap → Prop := contAt Tryz.prog zq203_M [1, 1, 0, 1, 0] zq203_c (retQ Tryz.prog zq203_r K)
def zq203_l3 (t1 t2 t3 t4 : AV) (H : Heap) (K : Kt) : Prop := ALoop Tryz.prog zq203_c3 (zq203_Q3 K) (zq203_fr3 t1 t2 t3 t4) H
def zq203_b3 (t1 t2 t3 t4 : AV) (H : Heap) (K : Kt) (Kb3 : Lt) : Prop :=
 aFld 2 t1 fun t11 =>
 aLoad false 1 t11 H fun t12 =>
 aLen 1 t12 fun t13 =>
 aBin .lss false t4 t13 fun t14 =>
 aTest t14
 (aPure H (fun K' => aFld 2 t3 (K' · H)) fun t17 =>
 aPure H (fun K' => aLoadC false 1 t17 H (K' · H)) fun t18 =>
 aPure H (fun K' => aFld 2 t1 (K' · H)) fun t19 =>
 aPure H (fun K' => aLoadC false 1 t19 H (K' · H)) fun t20 =>
 aPure H (fun K' => K' t4 H) fun t21 =>
 aPure H (fun K' => aIdxA 3 t20 t21 (K' · H)) fun t22 =>
 aPure H (fun K' => aLoadC true 3 t22 H (K' · H)) fun t23 =>
 aPureX H (fun H K' => ACalls Tryz.prog n_zq203 [t23] H K') fun t24 =>
 aPure H (fun K' => aBuildS 3 [(.int .i64 0), (.int .i64 0), .snil] 1 [(0, t24)] (K' · H)) fun t25 =>
 aAppend e_api_Type 3 40 t18 t25 H fun t26 H =>
 aPure H (fun K' => aFld 2 t3 (K' · H)) fun t27 =>
 aStore 1 t27 t26 H fun H =>
 aBin .add false t4 (.int .i64 1) fun t16 =>
 Kb3 (zq203_fr3 t1 t2 t3 t16) H)
 (aLoad true 3 t3 H fun t28 =>
 aStore 3 t2 t28 H fun H =>
 aLoad true 3 t2 H fun r0 =>
 K r0 H)
def zq203 (t0 : AV) (H : Heap) (K : Kt) : Prop :=
 aBox t0 H fun t1 H =>
 aNew [(.int .i64 0), (.int .i64 0), .snil] H fun t2 H =>
 aFld 0 t1 fun t5 =>
 aLoad false 1 t5 H fun t6 =>
 aFld 1 t1 fun t7 =>
 aLoad false 1 t7 H fun t8 =>
 aBuild [(.int .i64 0), (.int .i64 0), .snil] [(0, 1), (1, 1), (2, 1)] [(0, t6), (1, t8)] fun t9 =>
 aNew [(.int .i64 0), (.int .i64 0), .snil] H fun t3 H =>
 aStore 3 t3 t9 H fun H =>
 zq203_l3 t1 t2 t3 (.int .i64 0) H K
theorem zq203_b3_eq (t1 t2 t3 t4 : AV) (H : Heap) (K : Kt) (Kb3 : Lt) : awp Tryz.prog zq203_M zq203_c3 (roundQ zq203_m3 Kb3 (zq203_Q3 K)) (zq203_fr3 t1 t2 t3 t4) H = zq203_b3 t1 t2 t3 t4 H K Kb3 := by kernel_rfl
theorem zq203_loop3 {t1 t2 t3 t4 : AV} {H : Heap} {K : Kt} (Inv : Nat → AV → Heap → Prop) (n : Nat) (h0 : HSc H → Inv n t4 H)
  (round : ∀ n t4 H', Inv n t4 H' → HSc H' → H.length ≤ H'.length → (zq203_fr3 t1 t2 t3 t4).all (AV.sc H'.length) = true → ∀ Kb3 : Lt, (∀ F'' H'', (∃ n', n' < n ∧ Back H.length (fun F2 H2 => ∃ t4, F2 = zq203_fr3 t1 t2 t3 t4 ∧ Inv n' t4 H2) F'' H'') → Kb3 F'' H'') → zq203_b3 t1 t2 t3 t4 H' K Kb3) : zq203_l3 t1 t2 t3 t4 H K :=
 aloop (M := zq203_M) zq203_m3 (fun n F H => ∃ t4, F = zq203_fr3 t1 t2 t3 t4 ∧ Inv n t4 H) n (fun hs _ => ⟨t4, rfl, h0 hs⟩) (fun n F H' ⟨t4, hF, hI⟩ h1 h2 h3 => by subst hF; rw [zq203_b3_eq]; exact round n t4 H' hI h1 h2 h3 _ (fun _ _ h => h))
theorem zq203_eq (t0 : AV) (H : Heap) (K : Kt) : awp Tryz.prog zq203_M zq203_c (retQ Tryz.prog zq203_r K) (t0 :: List.replicate 28 .unk) H = zq203 t0 H K := by kernel_rfl
theorem zq203_ok {t0 : AV} {H : Heap} {K : Kt} (h : HSc H → zq203 t0 H K) : ACalls Tryz.prog n_zq203 [t0] H K :=
 acalls_body (M := zq203_M) Tryz.func205 (c := zq203_c) (by kernel_rfl) (fun hs => (zq203_eq t0 H K).mpr (h hs))
def zq65_M : Nat → List Bool
 | 6 => rl false [0,2,6,1,38,3,56]
 | 10 => rl false [0,2,6,2,37,3,28,3,25]
 | _ => []
noncomputable def zq65_c : Code := Tryz.f67.body.getD .skip
noncomputable def zq65_r : List ResultVar := Tryz.f67.results.toList
def zq65_fr6 (t0 t1 t8 t47 t48 t49 : AV) : List AV := t0 :: t1 :: ux 6 (t8 :: ux 38 (t47 :: t48 :: t49 :: ux 56 []))
def zq65_m6 : List Bool := zq65_M 6
noncomputable def zq65_c6 : Code := codeAt [1, 1, 1, 1, 0, 1, 0, 0] zq65_c
def zq65_Q6 (K : Kt) : AExit → List AV → Heap → Prop := contAt Tryz.prog zq65_M [1, 1, 1, 1, 0, 1, 0] zq65_c (retQ Tryz.prog zq65_r K)
def zq65_l6 (t0 t1 t8 t47 t48 t49 : AV) (H : Heap) (K : Kt) : Prop := ALoop Tryz.prog zq65_c6 (zq65_Q6 K) (zq65_fr6 t0 t1 t8 t47 t48 t49) H
def zq65_fr10 (t0 t1 t8 t9 t47 t48 t49 t78 t79 t80 : AV) : List AV := t0 :: t1 :: ux 6 (t8 :: t9 :: ux 37 (t47 :: t48 :: t49 :: ux 28 (t78 :: t79 :: t80 :: ux 25 [])))
def zq65_m10 : List Bool := zq65_M 10
noncomputable def zq65_c10 : Code := codeAt [1, 1, 0, 0, 1, 1, 1, 0, 0] zq65_c6
def zq65_Q10 (K : Kt) (Kb6 : Lt) : AExit → List AV → Heap → Prop := contAt Tryz.prog zq65_M [1, 1, 0, 0, 1, 1, 1, 0] zq65_c6 (roundQ zq65_m6 Kb6 (zq65_Q6 K))
def zq65_l10 (t0 t1 t8 t9 t47 t48 t49 t78 t79 t80 : AV) (H : Heap) (K : Kt) (Kb6 : Lt) : Prop := ALoop Tryz.prog zq65_c10 (zq65_Q10 K Kb6) (zq65_fr10 t0 t1 t8 t9 t47 t48 t49 t78 t79 t80) H
def zq65_j2 (t0 t1 t8 t9 t47 t48 t49 t78 t79 t80 : AV) (H : Heap) (K : Kt) (Kb6 : Lt) (Kb10 : Lt) : Prop :=
 aBin .add false t80 (.int .i64 1) fun t103 =>
 Kb10 (zq65_fr10 t0 t1 t8 t9 t47 t48 t49 t78 t79 t103) H
def zq65_j1 (t0 t1 t8 t9 t47 t48 t49 t78 t79 t80 : AV) (H : Heap) (K : Kt) (Kb6 : Lt) (Kb10 : Lt) : Prop :=
 zq65_j2 t0 t1 t8 t9 t47 t48 t49 t78 t79 t80 H K Kb6 Kb10
def zq65_b10 (t0 t1 t8 t9 t47 t48 t49 t78 t79 t80 : AV) (H : Heap) (K : Kt) (Kb6 : Lt) (Kb10 : Lt) : Prop :=
 aBin .lss false t80 t79 fun t81 =>
 aTest t81
 (aIdxA 3 t78 t80 fun t83 =>
 aLoad true 3 t83 H fun t84 =>
 aNew [(.int .i64 0), (.int .i64 0), .snil] H fun t12 H =>
 aStore 3 t12 t84 H fun H =>
 aFld 0 t12 fun t85 =>
 aLoad false 1 t85 H fun t86 =>
 aBin .neq false t86 (.int .i64 4) fun t87 =>
 aGuardJ t87 false H (fun K' => aFld 1 t12 (K' · H)) fun t89 H =>
 aGuardJ t87 false H (fun K' => aLoad false 1 t89 H (K' · H)) fun t90 H =>
 aGuardJ t87 false H (fun K' => K' t80 H) fun t91 H =>
 aGuardJ t87 false H (fun K' => aBin .neq false t90 t91 (K' · H)) fun t92 H =>
 aPick t87 (.bool true) t92 fun t93 =>
 aGuardJ t93 false H (fun K' => aFld 2 t12 (K' · H)) fun t95 H =>
 aGuardJ t93 false H (fun K' => aLoad false 1 t95 H (K' · H)) fun t96 H =>
 aGuardJ t93 false H (fun K' => aLen 1 t96 (K' · H)) fun t97 H =>
 aGuardJ t93 false H (fun K' => aBin .gtr false t97 (.int .i64 0) (K' · H)) fun t98 H =>
 aPick t93 (.bool true) t98 fun t99 =>
 aTest t99
 (aIdxA 1 t8 t9 fun t102 =>
 aStore 1 t102 (.bool false) H fun H =>
 zq65_j1 t0 t1 t8 t9 t47 t48 t49 t78 t79 t80 H K Kb6 Kb10)
 (zq65_j1 t0 t1 t8 t9 t47 t48 t49 t78 t79 t80 H K Kb6 Kb10))
 (aBin .add false t49 (.int .i64 1) fun t104 =>
 Kb6 (zq65_fr6 t0 t1 t8 t47 t48 t104) H)
def zq65_b6 (t0 t1 t8 t47 t48 t49 : AV) (H : Heap) (K : Kt) (Kb6 : Lt) : Prop :=
 aBin .lss false t49 t48 fun t50 =>
 aTest t50
 (aIdxA 3 t47 t49 fun t52 =>
 aLoad true 3 t52 H fun t53 =>
 aNew [(.int .i64 0), (.int .i64 0), .snil] H fun t10 H =>
 aStore 3 t10 t53 H fun H =>
 aPure H (fun K' => K' t8 H) fun t54 =>
 aPure H (fun K' => K' t49 H) fun t55 =>
 aPure H (fun K' => aFld 0 t10 (K' · H)) fun t56 =>
 aPure H (fun K' => aLoadC false 1 t56 H (K' · H)) fun t57 =>
 aPure H (fun K' => aBin .eql false t57 (.int .i64 5) (K' · H)) fun t58 =>
 aPure H (fun K' => K' t58 H) fun t59 =>
 aGuardJ t59 true H (fun K' => aPure H (fun K'' => aFld 1 t10 (K'' · H)) (K' · H)) fun t60 H =>
 aGuardJ t59 true H (fun K' => aPure H (fun K'' => aLoadC false 1 t60 H (K'' · H)) (K' · H)) fun t61 H =>
 aGuardJ t59 true H (fun K' => aPure H (fun K'' => K'' t1 H) (K' · H)) fun t62 H =>
 aGuardJ t59 true H (fun K' => aPure H (fun K'' => aBin .eql false t61 t62 (K'' · H)) (K' · H)) fun t63 H =>
 aPure H (fun K' => aPick t59 t63 (.bool false) (K' · H)) fun t64 =>
 aPure H (fun K' => K' t64 H) fun t65 =>
 aGuardJ t65 true H (fun K' => aPure H (fun K'' => aFld 2 t10 (K'' · H)) (K' · H)) fun t66 H =>
 aGuardJ t65 true H (fun K' => aPure H (fun K'' => aLoadC false 1 t66 H (K'' · H)) (K' · H)) fun t67 H =>
 aGuardJ t65 true H (fun K' => aPure H (fun K'' => aLen 1 t67 (K'' · H)) (K' · H)) fun t68 H =>
 aGuardJ t65 true H (fun K' => aPure H (fun K'' => K'' t0 H) (K' · H)) fun t69 H =>
 aGuardJ t65 true H (fun K' => aPure H (fun K'' => K'' t1 H) (K' · H)) fun t70 H =>
 aGuardJ t65 true H (fun K' => aPure H (fun K'' => aIdxA 3 t69 t70 (K'' · H)) (K' · H)) fun t71 H =>
 aGuardJ t65 true H (fun K' => aPure H (fun K'' => aFld 1 t71 (K'' · H)) (K' · H)) fun t72 H =>
 aGuardJ t65 true H (fun K' => aPure H (fun K'' => aLoadC false 1 t72 H (K'' · H)) (K' · H)) fun t73 H =>
 aGuardJ t65 true H (fun K' => aPure H (fun K'' => aBin .eql false t68 t73 (K'' · H)) (K' · H)) fun t74 H =>
 aPure H (fun K' => aPick t65 t74 (.bool false) (K' · H)) fun t75 =>
 aPure H (fun K' => aIdxA 1 t54 t55 (K' · H)) fun t76 =>
 aStore 1 t76 t75 H fun H =>
 aFld 2 t10 fun t77 =>
 aLoad false 1 t77 H fun t78 =>
 aLen 1 t78 fun t79 =>
 zq65_l10 t0 t1 t8 t49 t47 t48 t49 t78 t79 (.int .i64 0) H K Kb6)
 (K t8 H)
def zq65 (t0 t1 t2 : AV) (H : Heap) (K : Kt) : Prop :=
 aBin .lss false t1 (.int .i64 0) fun t14 =>
 aGuardJ t14 false H (fun K' => K' t1 H) fun t16 H =>
 aGuardJ t14 false H (fun K' => K' t0 H) fun t17 H =>
 aGuardJ t14 false H (fun K' => aLen 1 t17 (K' · H)) fun t18 H =>
 aGuardJ t14 false H (fun K' => aBin .geq false t16 t18 (K' · H)) fun t19 H =>
 aPick t14 (.bool true) t19 fun t20 =>
 aGuardJ t20 false H (fun K' => K' t2 H) fun t22 H =>
 aGuardJ t20 false H (fun K' => aBin .lss false t22 (.int .i64 0) (K' · H)) fun t23 H =>
 aPick t20 (.bool true) t23 fun t24 =>
 aGuardJ t24 false H (fun K' => K' t2 H) fun t26 H =>
 aGuardJ t24 false H (fun K' => K' t0 H) fun t27 H =>
 aGuardJ t24 false H (fun K' => K' t1 H) fun t28 H =>
 aGuardJ t24 false H (fun K' => aIdxA 3 t27 t28 (K' · H)) fun t29 H =>
 aGuardJ t24 false H (fun K' => aFld 2 t29 (K' · H)) fun t30 H =>
 aGuardJ t24 false H (fun K' => aLoad false 1 t30 H (K' · H)) fun t31 H =>
 aGuardJ t24 false H (fun K' => aLen 1 t31 (K' · H)) fun t32 H =>
 aGuardJ t24 false H (fun K' => aBin .geq false t26 t32 (K' · H)) fun t33 H =>
 aPick t24 (.bool true) t33 fun t34 =>
 aTest t34
 (K .snil H)
 (aIdxA 3 t0 t1 fun t37 =>
 aFld 2 t37 fun t38 =>
 aLoad false 1 t38 H fun t39 =>
 aIdxA 2 t39 t2 fun t41 =>
 aFld 1 t41 fun t42 =>
 aLoad false 1 t42 H fun t43 =>
 aLen 1 t43 fun t45 =>
 aMake 1 [(.bool false)] t45 t45 H fun t46 H =>
 aLen 1 t43 fun t48 =>
 zq65_l6 t0 t1 t46 t43 t48 (.int .i64 0) H K)
theorem zq65_b10_eq (t0 t1 t8 t9 t47 t48 t49 t78 t79 t80 : AV) (H : Heap) (K : Kt) (Kb6 : Lt) (Kb10 : Lt) : awp Tryz.prog zq65_M zq65_c10 (roundQ zq65_m10 Kb10 (zq65_Q10 K Kb6)) (zq65_fr10 t0 t1 t8 t9 t47 t48 t49 t78 t79 t80) H = zq65_b10 t0 t1 t8 t9 t47 t48 t49 t78 t79 t80 H K Kb6 Kb10 := by kernel_rfl
theorem zq65_loop10 {t0 t1 t8 t9 t47 t48 t49 t78 t79 t80 : AV} {H : Heap} {K : Kt} {Kb6 : Lt} (Inv : Nat → AV → Heap → Prop) (n : Nat) (h0 : HSc H → Inv n t80 H)
  (round : ∀ n t80 H', Inv n t80 H' → HSc H' → H.length ≤ H'.length → (zq65_fr10 t0 t1 t8 t9 t47 t48 t49 t78 t79 t80).all (AV.sc H'.length) = true → ∀ Kb10 : Lt, (∀ F'' H'', (∃ n', n' < n ∧ Back H.length (fun F2 H2 => ∃ t80, F2 = zq65_fr10 t0 t1 t8 t9 t47 t48 t49 t78 t79 t80 ∧ Inv n' t80 H2) F'' H'') → Kb10 F'' H'') → zq65_b10 t0 t1 t8 t9 t47 t48 t49 t78 t79 t80 H' K Kb6 Kb10) : zq65_l10 t0 t1 t8 t9 t47 t48 t49 t78 t79 t80 H K Kb6 :=
 aloop (M := zq65_M) zq65_m10 (fun n F H => ∃ t80, F = zq65_fr10 t0 t1 t8 t9 t47 t48 t49 t78 t79 t80 ∧ Inv n t80 H) n (fun hs _ => ⟨t80, rfl, h0 hs⟩) (fun n F H' ⟨t80, hF, hI⟩ h1 h2 h3 => by subst hF; rw [zq65_b10_eq]; exact round n t80 H' hI h1 h2 h3 _ (fun _ _ h => h))
theorem zq65_b6_eq (t0 t1 t8 t47 t48 t49 : AV) (H : Heap) (K : Kt) (Kb6 : Lt) : awp Tryz.prog zq65_M zq65_c6 (roundQ zq65_m6 Kb6 (zq65_Q6 K)) (zq65_fr6 t0 t1 t8 t47 t48 t49) H = zq65_b6 t0 t1 t8 t47 t48 t49 H K Kb6 := by kernel_rfl
theorem zq65_loop6 {t0 t1 t8 t47 t48 t49 : AV} {H : Heap} {K : Kt} (Inv : Nat → AV → Heap → Prop) (n : Nat) (h0 : HSc H → Inv n t49 H)
  (round : ∀ n t49 H', Inv n t49 H' → HSc H' → H.length ≤ H'.length → (zq65_fr6 t0 t1 t8 t47 t48 t49).all (AV.sc H'.length) = true → ∀ Kb6 : Lt, (∀ F'' H'', (∃ n', n' < n ∧ Back H.length (fun F2 H2 => ∃ t49, F2 = zq65_fr6 t0 t1 t8 t47 t48 t49 ∧ Inv n' t49 H2) F'' H'') → Kb6 F'' H'') → zq65_b6 t0 t1 t8 t47 t48 t49 H' K Kb6) : zq65_l6 t0 t1 t8 t47 t48 t49 H K :=
 aloop (M := zq65_M) zq65_m6 (fun n F H => ∃ t49, F = zq65_fr6 t0 t1 t8 t47 t48 t49 ∧ Inv n t49 H) n (fun hs _ => ⟨t49, rfl, h0 hs⟩) (fun n F H' ⟨t49, hF, hI⟩ h1 h2 h3 => by subst hF; rw [zq65_b6_eq]; exact round n t49 H' hI h1 h2 h3 _ (fun _ _ h => h))
theorem zq65_eq (t0 t1 t2 : AV) (H : Heap) (K : Kt) : awp Tryz.prog zq65_M zq65_c (retQ Tryz.prog zq65_r K) (t0 :: t1 :: t2 :: List.replicate 103 .unk) H = zq65 t0 t1 t2 H K := by kernel_rfl
theorem zq65_ok {t0 t1 t2 : AV} {H : Heap} {K : Kt} (h : HSc H → zq65 t0 t1 t2 H K) : ACalls Tryz.prog n_zq65 [t0, t1, t2] H K :=
 acalls_body (M := zq65_M) Tryz.func67 (c := zq65_c) (by kernel_rfl) (fun hs => (zq65_eq t0 t1 t2 H K).mpr (h hs))
def zq222_M (_ : Nat) : List Bool := []
noncomputable def zq222_c : Code := Tryz.f225.body.getD .skip
noncomputable def zq222_r : List ResultVar := Tryz.f225.results.toList
def zq222 (t0 t1 : AV) (H : Heap) (K : Kt) : Prop :=
 aBox t0 H fun t2 H =>
 aBox t1 H fun t3 H =>
 aFld 0 t2 fun t5 =>
 aLoad false 1 t5 H fun t6 =>
 aBin .eql false t6 (.int .i64 5) fun t7 =>
 aGuardJ t7 true H (fun K' => aFld 1 t2 (K' · H)) fun t9 H =>
 aGuardJ t7 true H (fun K' => aLoad false 1 t9 H (K' · H)) fun t10 H =>
 aGuardJ t7 true H (fun K' => aLoad false 1 t3 H (K' · H)) fun t11 H =>
 aGuardJ t7 true H (fun K' => aBin .eql false t10 t11 (K' · H)) fun t12 H =>
 aPick t7 t12 (.bool false) fun t13 =>
 aGuardJ t13 false H (fun K' => aFld 2 t2 (K' · H)) fun t15 H =>
 aGuardJ t13 false H (fun K' => aLoad false 1 t15 H (K' · H)) fun t16 H =>
 aGuardJ t13 false H (fun K' => aClos n_zq247 [t3] (K' · H)) fun t17 H =>
 aGuardJ t13 false H (fun K' => ACalls Tryz.prog n_zq144 [t16, t17] H K') fun t18 H =>
 aPick t13 (.bool true) t18 fun t19 =>
 K t19 H
theorem zq222_eq (t0 t1 : AV) (H : Heap) (K : Kt) : awp Tryz.prog zq222_M zq222_c (retQ Tryz.prog zq222_r K) (t0 :: t1 :: List.replicate 18 .unk) H = zq222 t0 t1 H K := by kernel_rfl
theorem zq222_ok {t0 t1 : AV} {H : Heap} {K : Kt} (h : HSc H → zq222 t0 t1 H K) : ACalls Tryz.prog n_zq222 [t0, t1] H K :=
 acalls_body (M := zq222_M) Tryz.func225 (c := zq222_c) (by kernel_rfl) (fun hs => (zq222_eq t0 t1 H K).mpr (h hs))
def zq247_M (_ : Nat) : List Bool := []
noncomputable def zq247_c : Code := Tryz.f251.body.getD .skip
noncomputable def zq247_r : List ResultVar := Tryz.f251.results.toList
def zq247 (t0 t1 : AV) (H : Heap) (K : Kt) : Prop :=
 aBox t0 H fun t2 H =>
 aLoad true 3 t2 H fun t4 =>
 aLoad false 1 t1 H fun t5 =>
 ACalls Tryz.prog n_zq222 [t4, t5] H fun t6 H =>
 K t6 H
theorem zq247_eq (t0 t1 : AV) (H : Heap) (K : Kt) : awp Tryz.prog zq247_M zq247_c (retQ Tryz.prog zq247_r K) (t0 :: t1 :: List.replicate 5 .unk) H = zq247 t0 t1 H K := by kernel_rfl
theorem zq247_ok {t0 t1 : AV} {H : Heap} {K : Kt} (h : HSc H → zq247 t0 t1 H K) : ACalls Tryz.prog n_zq247 [t0, t1] H K :=
 acalls_body (M := zq247_M) Tryz.func251 (c := zq247_c) (by kernel_rfl) (fun hs => (zq247_eq t0 t1 H K).mpr (h hs))
def zq68_M : Nat → List Bool
 | 4 => rl false [3,1,3,1,50]
 | _ => []
noncomputable def zq68_c : Code := Tryz.f70.body.getD .skip
noncomputable def zq68_r : List ResultVar := Tryz.f70.results.toList
def zq68_fr4 (t3 t7 : AV) : List AV := ux 3 (t3 :: ux 3 (t7 :: ux 50 []))
def zq68_m4 : List Bool := zq68_M 4
noncomputable def zq68_c4 : Code := codeAt [1, 1, 0, 1, 0, 0] zq68_c
def zq68_Q4 (K : Kt) : AExit → List AV → Heap → Prop := contAt Tryz.prog zq68_M [1, 1, 0, 1, 0] zq68_c (retQ Tryz.prog zq68_r K)
def zq68_l4 (t3 t7 : AV) (H : Heap) (K : Kt) : Prop := ALoop Tryz.prog zq68_c4 (zq68_Q4 K) (zq68_fr4 t3 t7) H
def zq68_b4 (t3 t7 : AV) (H : Heap) (K : Kt) (Kb4 : Lt) : Prop :=
 aFld 2 t3 fun t25 =>
 aLoad false 1 t25 H fun t26 =>
 aLen 1 t26 fun t27 =>
 aBin .lss false t7 t27 fun t28 =>
 aTest t28
 (aFld 2 t3 fun t31 =>
 aLoad false 1 t31 H fun t32 =>
 aIdxA 3 t32 t7 fun t34 =>
 aFld 0 t34 fun t35 =>
 aLoad false 1 t35 H fun t36 =>
 aBin .neq false t36 (.int .i64 4) fun t37 =>
 aGuardJ t37 false H (fun K' => aFld 2 t3 (K' · H)) fun t39 H =>
 aGuardJ t37 false H (fun K' => aLoad false 1 t39 H (K' · H)) fun t40 H =>
 aGuardJ t37 false H (fun K' => K' t7 H) fun t41 H =>
 aGuardJ t37 false H (fun K' => aIdxA 3 t40 t41 (K' · H)) fun t42 H =>
 aGuardJ t37 false H (fun K' => aFld 1 t42 (K' · H)) fun t43 H =>
 aGuardJ t37 false H (fun K' => aLoad false 1 t43 H (K' · H)) fun t44 H =>
 aGuardJ t37 false H (fun K' => K' t7 H) fun t45 H =>
 aGuardJ t37 false H (fun K' => aBin .neq false t44 t45 (K' · H)) fun t46 H =>
 aPick t37 (.bool true) t46 fun t47 =>
 aGuardJ t47 false H (fun K' => aFld 2 t3 (K' · H)) fun t49 H =>
 aGuardJ t47 false H (fun K' => aLoad false 1 t49 H (K' · H)) fun t50 H =>
 aGuardJ t47 false H (fun K' => K' t7 H) fun t51 H =>
 aGuardJ t47 false H (fun K' => aIdxA 3 t50 t51 (K' · H)) fun t52 H =>
 aGuardJ t47 false H (fun K' => aFld 2 t52 (K' · H)) fun t53 H =>
 aGuardJ t47 false H (fun K' => aLoad false 1 t53 H (K' · H)) fun t54 H =>
 aGuardJ t47 false H (fun K' => aLen 1 t54 (K' · H)) fun t55 H =>
 aGuardJ t47 false H (fun K' => aBin .gtr false t55 (.int .i64 0) (K' · H)) fun t56 H =>
 aPick t47 (.bool true) t56 fun t57 =>
 aTest t57
 (K (.bool false) H)
 (aBin .add false t7 (.int .i64 1) fun t30 =>
 Kb4 (zq68_fr4 t3 t30) H))
 (K (.bool true) H)
def zq68 (t0 t1 t2 : AV) (H : Heap) (K : Kt) : Prop :=
 aBox t0 H fun t3 H =>
 aFld 0 t3 fun t8 =>
 aLoad false 1 t8 H fun t9 =>
 aBin .neq false t9 (.int .i64 5) fun t10 =>
 aGuardJ t10 false H (fun K' => aFld 1 t3 (K' · H)) fun t12 H =>
 aGuardJ t10 false H (fun K' => aLoad false 1 t12 H (K' · H)) fun t13 H =>
 aGuardJ t10 false H (fun K' => K' t1 H) fun t14 H =>
 aGuardJ t10 false H (fun K' => aBin .neq false t13 t14 (K' · H)) fun t15 H =>
 aPick t10 (.bool true) t15 fun t16 =>
 aGuardJ t16 false H (fun K' => aFld 2 t3 (K' · H)) fun t18 H =>
 aGuardJ t16 false H (fun K' => aLoad false 1 t18 H (K' · H)) fun t19 H =>
 aGuardJ t16 false H (fun K' => aLen 1 t19 (K' · H)) fun t20 H =>
 aGuardJ t16 false H (fun K' => K' t2 H) fun t21 H =>
 aGuardJ t16 false H (fun K' => aBin .neq false t20 t21 (K' · H)) fun t22 H =>
 aPick t16 (.bool true) t22 fun t23 =>
 aTest t23
 (K (.bool false) H)
 (zq68_l4 t3 (.int .i64 0) H K)
theorem zq68_b4_eq (t3 t7 : AV) (H : Heap) (K : Kt) (Kb4 : Lt) : awp Tryz.prog zq68_M zq68_c4 (roundQ zq68_m4 Kb4 (zq68_Q4 K)) (zq68_fr4 t3 t7) H = zq68_b4 t3 t7 H K Kb4 := by kernel_rfl
theorem zq68_loop4 {t3 t7 : AV} {H : Heap} {K : Kt} (Inv : Nat → AV → Heap → Prop) (n : Nat) (h0 : HSc H → Inv n t7 H)
  (round : ∀ n t7 H', Inv n t7 H' → HSc H' → H.length ≤ H'.length → (zq68_fr4 t3 t7).all (AV.sc H'.length) = true → ∀ Kb4 : Lt, (∀ F'' H'', (∃ n', n' < n ∧ Back H.length (fun F2 H2 => ∃ t7, F2 = zq68_fr4 t3 t7 ∧ Inv n' t7 H2) F'' H'') → Kb4 F'' H'') → zq68_b4 t3 t7 H' K Kb4) : zq68_l4 t3 t7 H K :=
 aloop (M := zq68_M) zq68_m4 (fun n F H => ∃ t7, F = zq68_fr4 t3 t7 ∧ Inv n t7 H) n (fun hs _ => ⟨t7, rfl, h0 hs⟩) (fun n F H' ⟨t7, hF, hI⟩ h1 h2 h3 => by subst hF; rw [zq68_b4_eq]; exact round n t7 H' hI h1 h2 h3 _ (fun _ _ h => h))
theorem zq68_eq (t0 t1 t2 : AV) (H : Heap) (K : Kt) : awp Tryz.prog zq68_M zq68_c (retQ Tryz.prog zq68_r K) (t0 :: t1 :: t2 :: List.replicate 55 .unk) H = zq68 t0 t1 t2 H K := by kernel_rfl
theorem zq68_ok {t0 t1 t2 : AV} {H : Heap} {K : Kt} (h : HSc H → zq68 t0 t1 t2 H K) : ACalls Tryz.prog n_zq68 [t0, t1, t2] H K :=
 acalls_body (M := zq68_M) Tryz.func70 (c := zq68_c) (by kernel_rfl) (fun hs => (zq68_eq t0 t1 t2 H K).mpr (h hs))
end Go.Proofs.YtfpmdpldabopjaaGreatDoor
