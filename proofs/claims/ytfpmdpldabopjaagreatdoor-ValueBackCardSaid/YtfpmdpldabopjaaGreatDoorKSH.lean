/- The contract of strconv.FormatInt at the base ten, laid over this program. -/
import Derived.Shelf.LaysM
import Derived.Shelf.Strconv.Itoa4
import Derived.Test.YtfpmdpldabopjaaGreatDoorProg
import Derived.Test.YtfpmdpldabopjaaGreatDoorA3
import Derived.Test.YtfpmdpldabopjaaGreatDoorKNum
import Derived.KernelRfl
namespace Go.Proofs.YtfpmdpldabopjaaGreatDoor
open Go Go.Shelf Go.Abs
def zlayM_ren : Go.Shelf.Ren := ⟨fun | 173 => 100 | 246 => 165 | 283 => 207 | 284 => 208 | 285 => 209 | 286 => 210 | 129 => 185 | 317 => 236 | 318 => 237 | 319 => 238 | 320 => 239 | 337 => 255 | 338 => 256 | n => n, fun | 2 => 2 | 3 => 3 | 9 => 9 | 4 => 4 | 171 => 213 | 0 => 0 | 53 => 189 | 37 => 71 | 5 => 5 | 173 => 215 | 212 => 240 | 51 => 187 | 20 => 20 | 213 => 241 | 46 => 151 | 232 => 267 | 233 => 268 | n => n, fun | 17 => 0 | 18 => 4 | 19 => 5 | n => n⟩
theorem zlayM : Go.Proofs.LaysM.n173 Tryz.prog zlayM_ren := {
  mixed := by kernel_rfl
  f129 := Tryz.func185.trans (congrArg some (by kernel_rfl))
  f173 := Tryz.func100.trans (congrArg some (by kernel_rfl))
  f246 := Tryz.func165.trans (congrArg some (by kernel_rfl))
  f283 := Tryz.func207.trans (congrArg some (by kernel_rfl))
  f284 := Tryz.func208.trans (congrArg some (by kernel_rfl))
  f285 := Tryz.func209.trans (congrArg some (by kernel_rfl))
  f286 := Tryz.func210.trans (congrArg some (by kernel_rfl))
  f317 := Tryz.func236.trans (congrArg some (by kernel_rfl))
  f318 := Tryz.func237.trans (congrArg some (by kernel_rfl))
  f319 := Tryz.func238.trans (congrArg some (by kernel_rfl))
  f320 := Tryz.func239.trans (congrArg some (by kernel_rfl))
  f337 := Tryz.func255.trans (congrArg some (by kernel_rfl))
  f338 := Tryz.func256.trans (congrArg some (by kernel_rfl))
  t0 := Tryz.underlying0
  a0 := Tryz.isAgg0
  z0 := Tryz.sizeOf0
  v0 := Tryz.zeroValue0
  t2 := Tryz.underlying2
  a2 := Tryz.isAgg2
  z2 := Tryz.sizeOf2
  v2 := Tryz.zeroValue2
  t3 := Tryz.underlying3
  a3 := Tryz.isAgg3
  z3 := Tryz.sizeOf3
  v3 := Tryz.zeroValue3
  t4 := Tryz.underlying4
  a4 := Tryz.isAgg4
  z4 := Tryz.sizeOf4
  v4 := Tryz.zeroValue4
  t5 := Tryz.underlying5
  a5 := Tryz.isAgg5
  z5 := Tryz.sizeOf5
  v5 := Tryz.zeroValue5
  t9 := Tryz.underlying9
  a9 := Tryz.isAgg9
  z9 := Tryz.sizeOf9
  v9 := Tryz.zeroValue9
  t20 := Tryz.underlying20
  a20 := Tryz.isAgg20
  z20 := Tryz.sizeOf20
  v20 := Tryz.zeroValue20
  t37 := Tryz.underlying71
  a37 := Tryz.isAgg71
  z37 := Tryz.sizeOf71
  v37 := Tryz.zeroValue71
  t46 := Tryz.underlying151
  a46 := Tryz.isAgg151
  z46 := Tryz.sizeOf151
  v46 := Tryz.zeroValue151
  t51 := Tryz.underlying187
  a51 := Tryz.isAgg187
  z51 := Tryz.sizeOf187
  v51 := Tryz.zeroValue187
  t53 := Tryz.underlying189
  a53 := Tryz.isAgg189
  z53 := Tryz.sizeOf189
  v53 := Tryz.zeroValue189
  t171 := Tryz.underlying213
  a171 := Tryz.isAgg213
  z171 := Tryz.sizeOf213
  v171 := Tryz.zeroValue213
  t173 := Tryz.underlying215
  a173 := Tryz.isAgg215
  z173 := Tryz.sizeOf215
  v173 := Tryz.zeroValue215
  t212 := Tryz.underlying240
  a212 := Tryz.isAgg240
  z212 := Tryz.sizeOf240
  v212 := Tryz.zeroValue240
  t213 := Tryz.underlying241
  a213 := Tryz.isAgg241
  z213 := Tryz.sizeOf241
  t232 := Tryz.underlying267
  a232 := Tryz.isAgg267
  z232 := Tryz.sizeOf267
  v232 := Tryz.zeroValue267
  t233 := Tryz.underlying268
  a233 := Tryz.isAgg268
  z233 := Tryz.sizeOf268
  v233 := Tryz.zeroValue268
  g17 := by kernel_rfl
  g18 := by kernel_rfl
  g19 := by kernel_rfl
  i0 := by kernel_rfl
  i2 := by kernel_rfl
  i3 := by kernel_rfl
  i4 := by kernel_rfl
  i5 := by kernel_rfl
  i9 := by kernel_rfl
  i20 := by kernel_rfl
  i37 := by kernel_rfl
  i46 := by kernel_rfl
  i51 := by kernel_rfl
  i53 := by kernel_rfl
  i171 := by kernel_rfl
  i173 := by kernel_rfl
  i212 := by kernel_rfl
  i232 := by kernel_rfl
  i233 := by kernel_rfl
  m17 := by kernel_rfl
  m18 := by kernel_rfl
  m19 := by kernel_rfl }
theorem FormatInt_10 (n : Int) (h0 : -9223372036854775808 ≤ n) (h1 : n ≤ 9223372036854775807) (w : World) (htab : Lib.TabIs Tryz.prog w "internal/strconv.uint64pow10" .u64 Lib.pow10Tab) :
    Calls Tryz.prog 100 #[.int .i64 n, .int .i64 10] w fun e w' => e = .returned (.string ⟨(Lib.itoa n).toArray⟩) ∧ ∃ k os, w' = Go.Sort.grow (w.drewN k) os := Any.strconv_FormatInt_10 zlayM n h0 h1 w htab
/-- The table of powers of ten, as the start lays it. -/
def LF : World → Prop := fun w => Lib.TabIs Tryz.prog w "internal/strconv.uint64pow10" .u64 Lib.pow10Tab
theorem FormatInt_all (n : Int) (h0 : -9223372036854775808 ≤ n) (h1 : n ≤ 9223372036854775807) {H : Heap} {k : Nat} (hk : H[k]? = some (.fact LF)) {K : AV → Heap → Prop} (hK : K (.str (Lib.itoa n)) H) :
    ACalls Tryz.prog n_strconv_FormatInt [.int .i64 n, .int .i64 10] H K := by
  intro B w G ⟨vs⟩ hH hv
  match vs, hv with
  | [v0, v1], ⟨e0, e1, _⟩ =>
    have e0 : v0 = .int .i64 n := e0
    have e1 : v1 = .int .i64 10 := e1
    subst e0 e1
    refine (FormatInt_10 n h0 h1 w (fact_use hH hk)).mono ?_
    rintro e w' ⟨rfl, k, os, rfl⟩
    obtain ⟨h1, h2⟩ := grown_step hH k os
    exact ⟨_, .str (Lib.itoa n), H, G, rfl, h1, h2, rfl, hK⟩
end Go.Proofs.YtfpmdpldabopjaaGreatDoor
