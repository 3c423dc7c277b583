/- The contracts of strconv.ParseInt and strings.ContainsRune, laid over this program. -/
import Derived.Shelf.LaysC
import Derived.Shelf.Strconv.ParseIntPublic10
import Derived.Shelf.Strings.Runes
import Derived.Test.YtfpmdpldabopjaaGreatDoorProg
import Derived.Test.YtfpmdpldabopjaaGreatDoorA3
import Derived.Test.YtfpmdpldabopjaaGreatDoorKNum
import Derived.Test.YtfpmdpldabopjaaGreatDoorKSA
import Derived.Lib.ItoaNum
import Derived.Lib.ItoaMem
import Derived.KernelRfl
namespace Go.Proofs.YtfpmdpldabopjaaGreatDoor
open Go Go.Shelf Go.Abs
set_option linter.unusedSimpArgs false
set_option linter.unusedVariables false
def zlayB_ren : Go.Shelf.Ren := ⟨fun | 174 => 172 | 247 => 211 | 245 => 169 | 287 => 240 | 279 => 212 | 280 => 213 | 281 => 214 | 282 => 215 | 321 => 257 | 322 => 258 | 316 => 241 | 171 => 112 | 205 => 242 | 243 => 167 | 246 => 165 | 283 => 207 | 284 => 208 | 285 => 209 | 286 => 210 | 129 => 185 | 317 => 236 | 318 => 237 | 319 => 238 | 320 => 239 | 337 => 255 | 338 => 256 | n => n, fun | 9 => 9 | 3 => 3 | 2 => 2 | 75 => 123 | 85 => 174 | 4 => 4 | 167 => 217 | 5 => 5 | 53 => 189 | 175 => 242 | 46 => 151 | 168 => 218 | 37 => 71 | 0 => 0 | 210 => 246 | 21 => 21 | 127 => 130 | 145 => 263 | 143 => 261 | 171 => 213 | 173 => 215 | 212 => 240 | 51 => 187 | 20 => 20 | 213 => 241 | 232 => 267 | 233 => 268 | 80 => 75 | n => n, fun | 15 => 1 | 16 => 2 | 17 => 0 | 18 => 4 | 19 => 5 | n => n⟩
theorem zlayB : Go.Proofs.LaysC.n174 Tryz.prog zlayB_ren := {
  mixed := by kernel_rfl
  f129 := Tryz.func185.trans (congrArg some (by kernel_rfl))
  f171 := Tryz.func112.trans (congrArg some (by kernel_rfl))
  f174 := Tryz.func172.trans (congrArg some (by kernel_rfl))
  f205 := Tryz.func242.trans (congrArg some (by kernel_rfl))
  f243 := Tryz.func167.trans (congrArg some (by kernel_rfl))
  f245 := Tryz.func169.trans (congrArg some (by kernel_rfl))
  f246 := Tryz.func165.trans (congrArg some (by kernel_rfl))
  f247 := Tryz.func211.trans (congrArg some (by kernel_rfl))
  f279 := Tryz.func212.trans (congrArg some (by kernel_rfl))
  f280 := Tryz.func213.trans (congrArg some (by kernel_rfl))
  f281 := Tryz.func214.trans (congrArg some (by kernel_rfl))
  f282 := Tryz.func215.trans (congrArg some (by kernel_rfl))
  f283 := Tryz.func207.trans (congrArg some (by kernel_rfl))
  f284 := Tryz.func208.trans (congrArg some (by kernel_rfl))
  f285 := Tryz.func209.trans (congrArg some (by kernel_rfl))
  f286 := Tryz.func210.trans (congrArg some (by kernel_rfl))
  f287 := Tryz.func240.trans (congrArg some (by kernel_rfl))
  f316 := Tryz.func241.trans (congrArg some (by kernel_rfl))
  f317 := Tryz.func236.trans (congrArg some (by kernel_rfl))
  f318 := Tryz.func237.trans (congrArg some (by kernel_rfl))
  f319 := Tryz.func238.trans (congrArg some (by kernel_rfl))
  f320 := Tryz.func239.trans (congrArg some (by kernel_rfl))
  f321 := Tryz.func257.trans (congrArg some (by kernel_rfl))
  f322 := Tryz.func258.trans (congrArg some (by kernel_rfl))
  f337 := Tryz.func255.trans (congrArg some (by kernel_rfl))
  f338 := Tryz.func256.trans (congrArg some (by kernel_rfl))
  t0 := Tryz.underlying0
  a0 := Tryz.isAgg0
  z0 := Tryz.sizeOf0
  v0 := Tryz.zeroValue0
  t2 := Tryz.underlying2
  a2 := Tryz.isAgg2
  z2 := Tryz.sizeOf2
  v2 := Tryz.zeroValue2
  t3 := Tryz.underlying3
  a3 := Tryz.isAgg3
  z3 := Tryz.sizeOf3
  v3 := Tryz.zeroValue3
  t4 := Tryz.underlying4
  a4 := Tryz.isAgg4
  z4 := Tryz.sizeOf4
  v4 := Tryz.zeroValue4
  t5 := Tryz.underlying5
  a5 := Tryz.isAgg5
  z5 := Tryz.sizeOf5
  v5 := Tryz.zeroValue5
  t9 := Tryz.underlying9
  a9 := Tryz.isAgg9
  z9 := Tryz.sizeOf9
  v9 := Tryz.zeroValue9
  t20 := Tryz.underlying20
  a20 := Tryz.isAgg20
  z20 := Tryz.sizeOf20
  v20 := Tryz.zeroValue20
  t21 := Tryz.underlying21
  a21 := Tryz.isAgg21
  z21 := Tryz.sizeOf21
  v21 := Tryz.zeroValue21
  t37 := Tryz.underlying71
  a37 := Tryz.isAgg71
  z37 := Tryz.sizeOf71
  v37 := Tryz.zeroValue71
  t46 := Tryz.underlying151
  a46 := Tryz.isAgg151
  z46 := Tryz.sizeOf151
  v46 := Tryz.zeroValue151
  t51 := Tryz.underlying187
  a51 := Tryz.isAgg187
  z51 := Tryz.sizeOf187
  v51 := Tryz.zeroValue187
  t53 := Tryz.underlying189
  a53 := Tryz.isAgg189
  z53 := Tryz.sizeOf189
  v53 := Tryz.zeroValue189
  t75 := Tryz.underlying123
  a75 := Tryz.isAgg123
  z75 := Tryz.sizeOf123
  v75 := Tryz.zeroValue123
  t85 := Tryz.underlying174
  a85 := Tryz.isAgg174
  z85 := Tryz.sizeOf174
  v85 := Tryz.zeroValue174
  t127 := Tryz.underlying130
  a127 := Tryz.isAgg130
  z127 := Tryz.sizeOf130
  v127 := Tryz.zeroValue130
  t143 := Tryz.underlying261
  a143 := Tryz.isAgg261
  z143 := Tryz.sizeOf261
  v143 := Tryz.zeroValue261
  t145 := Tryz.underlying263
  a145 := Tryz.isAgg263
  z145 := Tryz.sizeOf263
  v145 := Tryz.zeroValue263
  t167 := Tryz.underlying217
  a167 := Tryz.isAgg217
  z167 := Tryz.sizeOf217
  v167 := Tryz.zeroValue217
  t168 := Tryz.underlying218
  a168 := Tryz.isAgg218
  z168 := Tryz.sizeOf218
  v168 := Tryz.zeroValue218
  t171 := Tryz.underlying213
  a171 := Tryz.isAgg213
  z171 := Tryz.sizeOf213
  v171 := Tryz.zeroValue213
  t173 := Tryz.underlying215
  a173 := Tryz.isAgg215
  z173 := Tryz.sizeOf215
  v173 := Tryz.zeroValue215
  t175 := Tryz.underlying242
  a175 := Tryz.isAgg242
  z175 := Tryz.sizeOf242
  v175 := Tryz.zeroValue242
  t210 := Tryz.underlying246
  a210 := Tryz.isAgg246
  z210 := Tryz.sizeOf246
  v210 := Tryz.zeroValue246
  t212 := Tryz.underlying240
  a212 := Tryz.isAgg240
  z212 := Tryz.sizeOf240
  v212 := Tryz.zeroValue240
  t213 := Tryz.underlying241
  a213 := Tryz.isAgg241
  z213 := Tryz.sizeOf241
  t232 := Tryz.underlying267
  a232 := Tryz.isAgg267
  z232 := Tryz.sizeOf267
  v232 := Tryz.zeroValue267
  t233 := Tryz.underlying268
  a233 := Tryz.isAgg268
  z233 := Tryz.sizeOf268
  v233 := Tryz.zeroValue268
  g15 := by kernel_rfl
  g16 := by kernel_rfl
  g17 := by kernel_rfl
  g18 := by kernel_rfl
  g19 := by kernel_rfl
  t80 := Tryz.underlying75
  a80 := Tryz.isAgg75
  z80 := Tryz.sizeOf75
  v80 := Tryz.zeroValue75
  i0 := by kernel_rfl
  i2 := by kernel_rfl
  i3 := by kernel_rfl
  i4 := by kernel_rfl
  i5 := by kernel_rfl
  i9 := by kernel_rfl
  i20 := by kernel_rfl
  i21 := by kernel_rfl
  i37 := by kernel_rfl
  i46 := by kernel_rfl
  i51 := by kernel_rfl
  i53 := by kernel_rfl
  i75 := by kernel_rfl
  i80 := by kernel_rfl
  i85 := by kernel_rfl
  i127 := by kernel_rfl
  i143 := by kernel_rfl
  i145 := by kernel_rfl
  i167 := by kernel_rfl
  i168 := by kernel_rfl
  i171 := by kernel_rfl
  i173 := by kernel_rfl
  i175 := by kernel_rfl
  i210 := by kernel_rfl
  i212 := by kernel_rfl
  i232 := by kernel_rfl
  i233 := by kernel_rfl
  m15 := by kernel_rfl
  m16 := by kernel_rfl
  m17 := by kernel_rfl
  m18 := by kernel_rfl
  m19 := by kernel_rfl
  c0 := by kernel_rfl
  c2 := by kernel_rfl
  c3 := by kernel_rfl
  c4 := by kernel_rfl
  c5 := by kernel_rfl
  c9 := by kernel_rfl
  c20 := by kernel_rfl
  c21 := by kernel_rfl
  c37 := by kernel_rfl
  c46 := by kernel_rfl
  c51 := by kernel_rfl
  c53 := by kernel_rfl
  c75 := by kernel_rfl
  c80 := by kernel_rfl
  c85 := by kernel_rfl
  c127 := by kernel_rfl
  c143 := by kernel_rfl
  c145 := by kernel_rfl
  c167 := by kernel_rfl
  c168 := by kernel_rfl
  c171 := by kernel_rfl
  c173 := by kernel_rfl
  c175 := by kernel_rfl
  c210 := by kernel_rfl
  c212 := by kernel_rfl
  c213 := by kernel_rfl
  c232 := by kernel_rfl
  c233 := by kernel_rfl }
def zlayC_ren : Go.Shelf.Ren := ⟨fun | 151 => 173 | 152 => 217 | 137 => 244 | 119 => 245 | 224 => 246 | 225 => 247 | 217 => 259 | 266 => 270 | n => n, fun | 9 => 9 | 21 => 21 | 4 => 4 | 3 => 3 | 5 => 5 | 0 => 0 | 46 => 151 | n => n, fun | n => n⟩
theorem zlayC : Go.Proofs.Lays.n151 Tryz.prog zlayC_ren := {
  mixed := by kernel_rfl
  f119 := Tryz.func245.trans (congrArg some (by kernel_rfl))
  f137 := Tryz.func244.trans (congrArg some (by kernel_rfl))
  f151 := Tryz.func173.trans (congrArg some (by kernel_rfl))
  f152 := Tryz.func217.trans (congrArg some (by kernel_rfl))
  f217 := Tryz.func259.trans (congrArg some (by kernel_rfl))
  f224 := Tryz.func246.trans (congrArg some (by kernel_rfl))
  f225 := Tryz.func247.trans (congrArg some (by kernel_rfl))
  f266 := Tryz.func270.trans (congrArg some (by kernel_rfl))
  t0 := Tryz.underlying0
  a0 := Tryz.isAgg0
  z0 := Tryz.sizeOf0
  v0 := Tryz.zeroValue0
  t3 := Tryz.underlying3
  a3 := Tryz.isAgg3
  z3 := Tryz.sizeOf3
  v3 := Tryz.zeroValue3
  t4 := Tryz.underlying4
  a4 := Tryz.isAgg4
  z4 := Tryz.sizeOf4
  v4 := Tryz.zeroValue4
  t5 := Tryz.underlying5
  a5 := Tryz.isAgg5
  z5 := Tryz.sizeOf5
  v5 := Tryz.zeroValue5
  t9 := Tryz.underlying9
  a9 := Tryz.isAgg9
  z9 := Tryz.sizeOf9
  v9 := Tryz.zeroValue9
  t21 := Tryz.underlying21
  a21 := Tryz.isAgg21
  z21 := Tryz.sizeOf21
  v21 := Tryz.zeroValue21
  t46 := Tryz.underlying151
  a46 := Tryz.isAgg151
  z46 := Tryz.sizeOf151
  v46 := Tryz.zeroValue151 }
theorem ParseInt_ok (s : List UInt8) (n : Int) (hl : s.length ≤ 1000000000) (h : Lib.parseIntB 64 s = .ok n) (H : Heap) (K : AV → Heap → Prop) (hK : K (.tup [.int .i64 n, .nili]) H) : ACalls Tryz.prog n_strconv_ParseInt [.str s, .int .i64 10, .int .i64 64] H K := by
  intro B w G ⟨vs⟩ hH hv
  match vs, hv with
  | [v0, v1, v2], ⟨e0, e1, e2, _⟩ =>
    have e0 : v0 = .string ⟨s.toArray⟩ := e0
    have e1 : v1 = .int .i64 10 := e1
    have e2 : v2 = .int .i64 64 := e2
    subst e0 e1 e2
    refine ((Any.strconv_ParseInt_10_at64_ok zlayB ⟨s.toArray⟩ (by simp [ByteArray.size]; omega) n h w : Calls Tryz.prog 172 _ _ _)).mono ?_
    rintro e w' ⟨rfl, rfl | ⟨t, rfl⟩⟩
    · exact ⟨_, .tup [.int .i64 n, .nili], H, G, rfl, Ext.refl _ _ _, hH, ⟨_, rfl, rfl, rfl, trivial⟩, hK⟩
    · show ∃ v r H' G', _
      have hbw : Lib.bytesWorld w (zlayB_ren.t 5) t = w.drew.alloc (.cells (Lib.bytesCells w (zlayB_ren.t 5) t) (zlayB_ren.t 5) ((Lib.bytesCells w (zlayB_ren.t 5) t).size, (Lib.bytesCells w (zlayB_ren.t 5) t).size + 1)) := bw_eq _ _ _
      rw [hbw]
      obtain ⟨h1, h2⟩ := (hH.drew (w.drawn + 1)).other (.cells (Lib.bytesCells w (zlayB_ren.t 5) t) (zlayB_ren.t 5) ((Lib.bytesCells w (zlayB_ren.t 5) t).size, (Lib.bytesCells w (zlayB_ren.t 5) t).size + 1))
      exact ⟨_, .tup [.int .i64 n, .nili], H, G, rfl, (Ext.drew B w G (w.drawn + 1)).trans h1, h2, ⟨_, rfl, rfl, rfl, trivial⟩, hK⟩
theorem ContainsRune_ok (s : List UInt8) (b : UInt8) (hb : b.toNat < 128) (H : Heap) (K : AV → Heap → Prop) (hK : K (.bool (decide (0 ≤ Lib.indexByte s b))) H) : ACalls Tryz.prog n_strings_ContainsRune [.str s, .int .i32 b.toNat] H K := by
  intro B w G ⟨vs⟩ hH hv
  match vs, hv with
  | [v0, v1], ⟨e0, e1, _⟩ =>
    have e0 : v0 = .string ⟨s.toArray⟩ := e0
    have e1 : v1 = .int .i32 b.toNat := e1
    subst e0 e1
    refine ((Any.strings_ContainsRune_ascii zlayC ⟨s.toArray⟩ b.toNat w (by omega) (by omega) : Calls Tryz.prog 173 _ _ _)).mono ?_
    rintro e w' ⟨rfl, rfl⟩
    have hbb : ((b.toNat : Int).toNat.toUInt8) = b := by simp
    rw [hbb]
    exact ⟨_, .bool (decide (0 ≤ Lib.indexByte s b)), H, G, rfl, Ext.refl _ _ _, hH, rfl, hK⟩
theorem parse_snoc (c : UInt8) (hc : 48 ≤ c.toNat ∧ c.toNat ≤ 57) : ∀ (l : List UInt8) (acc u : Nat), Lib.parseUint10 acc l = .ok u → u < 1844674407370955161 → Lib.parseUint10 acc (l ++ [c]) = .ok (u * 10 + (c.toNat - 48))
  | [], acc, u, h, hu => by
    simp only [Lib.parseUint10] at h
    injection h with h
    subst h
    simp only [List.nil_append, Lib.parseUint10, hc.1, hc.2, and_self, if_true]
    rw [if_neg (by omega), if_neg (by omega)]
  | d :: l, acc, u, h, hu => by
    simp only [List.cons_append, Lib.parseUint10] at h ⊢
    split at h
    · rename_i hd
      rw [if_pos hd]
      split at h
      · cases h
      · rename_i h1
        rw [if_neg h1]
        split at h
        · cases h
        · rename_i h2
          rw [if_neg h2]
          exact parse_snoc c hc l _ u h hu
    · cases h
end Go.Proofs.YtfpmdpldabopjaaGreatDoor
