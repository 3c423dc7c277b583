/- The contract of strconv.Atoi at a short numeral, laid over this program. -/
import Derived.Shelf.Strconv.Atoi
import Derived.Test.YtfpmdpldabopjaaGreatDoorProg
import Derived.Test.YtfpmdpldabopjaaGreatDoorA3
import Derived.Test.YtfpmdpldabopjaaGreatDoorKNum
import Derived.KernelRfl
namespace Go.Proofs.YtfpmdpldabopjaaGreatDoor
open Go Go.Shelf Go.Abs
def zlayA_ren : Go.Shelf.Ren := ⟨fun | 172 => 116 | 244 => 168 | 245 => 169 | 247 => 211 | 279 => 212 | 280 => 213 | 281 => 214 | 282 => 215 | 287 => 240 | 316 => 241 | 171 => 112 | 205 => 242 | 321 => 257 | 322 => 258 | 243 => 167 | 246 => 165 | 283 => 207 | 284 => 208 | 285 => 209 | 286 => 210 | 129 => 185 | 317 => 236 | 318 => 237 | 319 => 238 | 320 => 239 | 337 => 255 | 338 => 256 | n => n, fun | 9 => 9 | 3 => 3 | 75 => 123 | 76 => 124 | 4 => 4 | 5 => 5 | 167 => 217 | 37 => 71 | 0 => 0 | 85 => 174 | 2 => 2 | 168 => 218 | 53 => 189 | 175 => 242 | 46 => 151 | 210 => 246 | 127 => 130 | 145 => 263 | 143 => 261 | 21 => 21 | 171 => 213 | 173 => 215 | 212 => 240 | 51 => 187 | 20 => 20 | 213 => 241 | 232 => 267 | 233 => 268 | 80 => 75 | n => n, fun | 15 => 1 | 16 => 2 | 17 => 0 | 18 => 4 | 19 => 5 | n => n⟩
theorem zlayA : Go.Proofs.Lays.n172 Tryz.prog zlayA_ren := {
  mixed := by kernel_rfl
  f129 := Tryz.func185.trans (congrArg some (by kernel_rfl))
  f171 := Tryz.func112.trans (congrArg some (by kernel_rfl))
  f172 := Tryz.func116.trans (congrArg some (by kernel_rfl))
  f205 := Tryz.func242.trans (congrArg some (by kernel_rfl))
  f243 := Tryz.func167.trans (congrArg some (by kernel_rfl))
  f244 := Tryz.func168.trans (congrArg some (by kernel_rfl))
  f245 := Tryz.func169.trans (congrArg some (by kernel_rfl))
  f246 := Tryz.func165.trans (congrArg some (by kernel_rfl))
  f247 := Tryz.func211.trans (congrArg some (by kernel_rfl))
  f279 := Tryz.func212.trans (congrArg some (by kernel_rfl))
  f280 := Tryz.func213.trans (congrArg some (by kernel_rfl))
  f281 := Tryz.func214.trans (congrArg some (by kernel_rfl))
  f282 := Tryz.func215.trans (congrArg some (by kernel_rfl))
  f283 := Tryz.func207.trans (congrArg some (by kernel_rfl))
  f284 := Tryz.func208.trans (congrArg some (by kernel_rfl))
  f285 := Tryz.func209.trans (congrArg some (by kernel_rfl))
  f286 := Tryz.func210.trans (congrArg some (by kernel_rfl))
  f287 := Tryz.func240.trans (congrArg some (by kernel_rfl))
  f316 := Tryz.func241.trans (congrArg some (by kernel_rfl))
  f317 := Tryz.func236.trans (congrArg some (by kernel_rfl))
  f318 := Tryz.func237.trans (congrArg some (by kernel_rfl))
  f319 := Tryz.func238.trans (congrArg some (by kernel_rfl))
  f320 := Tryz.func239.trans (congrArg some (by kernel_rfl))
  f321 := Tryz.func257.trans (congrArg some (by kernel_rfl))
  f322 := Tryz.func258.trans (congrArg some (by kernel_rfl))
  f337 := Tryz.func255.trans (congrArg some (by kernel_rfl))
  f338 := Tryz.func256.trans (congrArg some (by kernel_rfl))
  t0 := Tryz.underlying0
  a0 := Tryz.isAgg0
  z0 := Tryz.sizeOf0
  v0 := Tryz.zeroValue0
  t2 := Tryz.underlying2
  a2 := Tryz.isAgg2
  z2 := Tryz.sizeOf2
  v2 := Tryz.zeroValue2
  t3 := Tryz.underlying3
  a3 := Tryz.isAgg3
  z3 := Tryz.sizeOf3
  v3 := Tryz.zeroValue3
  t4 := Tryz.underlying4
  a4 := Tryz.isAgg4
  z4 := Tryz.sizeOf4
  v4 := Tryz.zeroValue4
  t5 := Tryz.underlying5
  a5 := Tryz.isAgg5
  z5 := Tryz.sizeOf5
  v5 := Tryz.zeroValue5
  t9 := Tryz.underlying9
  a9 := Tryz.isAgg9
  z9 := Tryz.sizeOf9
  v9 := Tryz.zeroValue9
  t20 := Tryz.underlying20
  a20 := Tryz.isAgg20
  z20 := Tryz.sizeOf20
  v20 := Tryz.zeroValue20
  t21 := Tryz.underlying21
  a21 := Tryz.isAgg21
  z21 := Tryz.sizeOf21
  v21 := Tryz.zeroValue21
  t37 := Tryz.underlying71
  a37 := Tryz.isAgg71
  z37 := Tryz.sizeOf71
  v37 := Tryz.zeroValue71
  t46 := Tryz.underlying151
  a46 := Tryz.isAgg151
  z46 := Tryz.sizeOf151
  v46 := Tryz.zeroValue151
  t51 := Tryz.underlying187
  a51 := Tryz.isAgg187
  z51 := Tryz.sizeOf187
  v51 := Tryz.zeroValue187
  t53 := Tryz.underlying189
  a53 := Tryz.isAgg189
  z53 := Tryz.sizeOf189
  v53 := Tryz.zeroValue189
  t75 := Tryz.underlying123
  a75 := Tryz.isAgg123
  z75 := Tryz.sizeOf123
  v75 := Tryz.zeroValue123
  t76 := Tryz.underlying124
  a76 := Tryz.isAgg124
  z76 := Tryz.sizeOf124
  v76 := Tryz.zeroValue124
  t85 := Tryz.underlying174
  a85 := Tryz.isAgg174
  z85 := Tryz.sizeOf174
  v85 := Tryz.zeroValue174
  t127 := Tryz.underlying130
  a127 := Tryz.isAgg130
  z127 := Tryz.sizeOf130
  v127 := Tryz.zeroValue130
  t143 := Tryz.underlying261
  a143 := Tryz.isAgg261
  z143 := Tryz.sizeOf261
  v143 := Tryz.zeroValue261
  t145 := Tryz.underlying263
  a145 := Tryz.isAgg263
  z145 := Tryz.sizeOf263
  v145 := Tryz.zeroValue263
  t167 := Tryz.underlying217
  a167 := Tryz.isAgg217
  z167 := Tryz.sizeOf217
  v167 := Tryz.zeroValue217
  t168 := Tryz.underlying218
  a168 := Tryz.isAgg218
  z168 := Tryz.sizeOf218
  v168 := Tryz.zeroValue218
  t171 := Tryz.underlying213
  a171 := Tryz.isAgg213
  z171 := Tryz.sizeOf213
  v171 := Tryz.zeroValue213
  t173 := Tryz.underlying215
  a173 := Tryz.isAgg215
  z173 := Tryz.sizeOf215
  v173 := Tryz.zeroValue215
  t175 := Tryz.underlying242
  a175 := Tryz.isAgg242
  z175 := Tryz.sizeOf242
  v175 := Tryz.zeroValue242
  t210 := Tryz.underlying246
  a210 := Tryz.isAgg246
  z210 := Tryz.sizeOf246
  v210 := Tryz.zeroValue246
  t212 := Tryz.underlying240
  a212 := Tryz.isAgg240
  z212 := Tryz.sizeOf240
  v212 := Tryz.zeroValue240
  t213 := Tryz.underlying241
  a213 := Tryz.isAgg241
  z213 := Tryz.sizeOf241
  t232 := Tryz.underlying267
  a232 := Tryz.isAgg267
  z232 := Tryz.sizeOf267
  v232 := Tryz.zeroValue267
  t233 := Tryz.underlying268
  a233 := Tryz.isAgg268
  z233 := Tryz.sizeOf268
  v233 := Tryz.zeroValue268
  g15 := by kernel_rfl
  g16 := by kernel_rfl
  g17 := by kernel_rfl
  g18 := by kernel_rfl
  g19 := by kernel_rfl }
theorem bw_eq (w : World) (e : TypeId) (s : ByteArray) : Lib.bytesWorld w e s = w.drew.alloc (.cells (Lib.bytesCells w e s) e ((Lib.bytesCells w e s).size, (Lib.bytesCells w e s).size + 1)) := by
  have hh : (Lib.bytesWorld w e s).heap = (w.drew.alloc (.cells (Lib.bytesCells w e s) e ((Lib.bytesCells w e s).size, (Lib.bytesCells w e s).size + 1))).heap := by
    refine Array.ext_getElem? fun j => ?_
    rcases Nat.lt_trichotomy j w.heap.size with h | h | h
    · rw [Lib.bytesWorld_at_old w e s j h]
      exact (alloc_old (w := w.drew) h).symm
    · subst h
      rw [Lib.bytesWorld_at_new]
      exact (alloc_new (w := w.drew) _).symm
    · rw [Array.getElem?_eq_none (by rw [Lib.bytesWorld_size]; omega), Array.getElem?_eq_none]
      rw [alloc_size]
      show w.heap.size + 1 ≤ j
      omega
  have h1 : Lib.bytesWorld w e s = { w.drew.alloc (.cells (Lib.bytesCells w e s) e ((Lib.bytesCells w e s).size, (Lib.bytesCells w e s).size + 1)) with heap := (Lib.bytesWorld w e s).heap } := rfl
  rw [h1, hh]
theorem Atoi_short (s : List UInt8) (n : Int) (hl : s.length ≤ 18) (h : Lib.atoi s = some n) (H : Heap) (K : AV → Heap → Prop) (hK : K (.tup [.int .i64 n, .nili]) H) : ACalls Tryz.prog n_zq114 [.str s] H K := by
  intro B w G ⟨vs⟩ hH hv
  match vs, hv with
  | [v0], ⟨e0, _⟩ =>
    have e0 : v0 = .string ⟨s.toArray⟩ := e0
    subst e0
    refine ((Any.strconv_Atoi zlayA ⟨s.toArray⟩ n hl h w : Calls Tryz.prog 116 _ _ _)).mono ?_
    rintro e w' ⟨rfl, t, rfl⟩
    rw [bw_eq]
    obtain ⟨h1, h2⟩ := (hH.drew (w.drawn + 1)).other (.cells (Lib.bytesCells w 5 t) 5 ((Lib.bytesCells w 5 t).size, (Lib.bytesCells w 5 t).size + 1))
    exact ⟨_, .tup [.int .i64 n, .nili], H, G, rfl, (Ext.drew B w G (w.drawn + 1)).trans h1, h2, ⟨_, rfl, rfl, rfl, trivial⟩, hK⟩
end Go.Proofs.YtfpmdpldabopjaaGreatDoor
