import Derived.Test.YtaifokkaaahdoaaGreatDoorAbsT
import Derived.Test.YtaifokkaaahdoaaGreatDoorAbsJF
import Derived.Test.YtaifokkaaahdoaaGreatDoorRows
import Derived.Test.YtaifokkaaahdoaaGreatDoorCards
import Derived.Test.YtaifokkaaahdoaaGreatDoorTie
import Derived.WalkKit
import Derived.ProofKit
import Derived.OpenShut
import Derived.ShutString
import Derived.ChangeOld
import Derived.Below
import Derived.LaidMore
import Derived.Stop.Joined
import Derived.Deep.DeepHandedRow
import Derived.SevenTiedAt
import Derived.Test.YtaifokkaaahdoaaGreatDoorKRInputsNumbersUa
import Derived.Test.YtaifokkaaahdoaaGreatDoorKRInputsNumbersUb
set_option linter.unusedSimpArgs false
set_option linter.unusedVariables false
set_option linter.unusedSectionVars false
set_option maxRecDepth 8000
namespace Go.Proofs.YtaifokkaaahdoaaGreatDoor
open Go
namespace inputsNumbersUpto
open Go.ChangeShapes Go.WideShapes Go.ChangeAt Go.RowKit
theorem own:ownKnob Tryz.prog.godebug=none:=by kernel_rfl
theorem laidOut:laidOutB Tryz.prog=true:=by kernel_rfl
def args0:Array Value:=#[.slice none 0 0,.agg #[.int .i64 0,.int .i64 0,.slice none 0 0],.int .i64 0,.int .i64 0]
noncomputable abbrev W0 (os:Os):World:=(World.doorLaid Tryz.prog 400 os).forCall (λ_ _=>0) ⟨#[],args0,[]⟩
theorem door_met (os:Os):laidMetH Tryz.prog Rows.inputsNumbersUptoRow.laid (W0 os).memory:=
 laidMetH_of_parts3 (fuel:=8) (laidMet_of_run' 8 (by kernel_rfl) (by kernel_rfl)) (by kernel_rfl) (by kernel_rfl)
theorem reads (os:Os) {H:Type} (enc:TypeId × Value→H):∃ places,DataW.whole enc Tryz.prog (W0 os).memory Tryz.f4.params.toList (Rows.OpenSpec.upto Rows.inputsNumbersSpec).vars false args0.toList 8=some ([.nil,.agg [.lit (.int .i64 0),.lit (.int .i64 0),.nil],.lit (.int .i64 0),.lit (.int .i64 0)],[],places):=⟨[],by kernel_rfl⟩
theorem law (x0:{l:List Dat // zvK l}) (x1:{v:VT // zvN v}) (x2:Int) (x3:Int):ACalls Tryz.prog zqD [.sl (x0.1.map Dat.cs) .none,.agg x1.1.cs,.int .i64 x2,.int .i64 x3] [.nodr] λr _=>r=.bool true:=
 zFh x0.1 x0.2.1.1 x0.2.1.2 x0.2.2 x1.1 x1.2.1 x1.2.2 x2 x3 [.nodr] rfl _ rfl
set_option maxRecDepth 100000 in
theorem lifted (os:Os) (started:os.Started) (H:Type) (enc:TypeId × Value→H) (F:Stop.Interp) :
  ReturnsInHanded {} Tryz.checked os 4 .any ((Rows.OpenSpec.upto Rows.inputsNumbersSpec).preRow enc Tryz.prog Tryz.f4 Rows.inputsNumbersUptoRow.domain false Rows.inputsNumbersUptoRow.laid) (((Rows.OpenSpec.upto Rows.inputsNumbersSpec).at F).post enc Tryz.prog Tryz.f4 false true false false):=by
 obtain⟨places,hx⟩:=reads os enc
 refine returnsInHanded_of_row (C:=Tryz.checked) (s:=(Rows.OpenSpec.upto Rows.inputsNumbersSpec)) own started (by kernel_rfl) Tryz.func4
  ⟨World.doorLaid Tryz.prog 400 os,λ_ _=>0,⟨#[],args0,[]⟩,rfl,World.shaped_of_RefB (by kernel_rfl) (by kernel_rfl),rfl,(Input.okWide_of_okWideB (base:=_) (by kernel_rfl)).2,
   OpenSpec.preRow_of_cond 8 hx (by kernel_rfl) (λk hk=>by cases hk;kernel_rfl) (by kernel_rfl) (door_met os),by
    simp only[Assume.holds]
    exact⟨by simp,by simp,λ_=>Modest.zero,by simp,by simp⟩⟩ ?_
 intro W base args ds gs before hval0 hW _ hcond _ _ _ _
 have hval:∀ (j:Nat) t v,Tryz.f4.params[j]?=some t→args[j]?=some v→Value.okWide Tryz.prog W .any base t v:=hval0
 have hW':=hW
 obtain⟨p,q,hA0,hV,rfl,hfz,hnd⟩:=hW
 have hA:DataW.TrodAll enc Tryz.prog W 0 (λ_=>true) true Tryz.f4.params.toList args.toList ds p:=hA0
 rw[Tryz.params4]at hA hval
 obtain⟨v0,vs0,d0,ds0,p0,q0,hargs0,rfl,rfl,h0,r0⟩:=trodAll_cons hA
 obtain⟨v1,vs1,d1,ds1,p1,q1,hargs1,rfl,rfl,h1,r1⟩:=trodAll_cons r0
 obtain⟨v2,vs2,d2,ds2,p2,q2,hargs2,rfl,rfl,h2,r2⟩:=trodAll_cons r1
 obtain⟨v3,vs3,d3,ds3,p3,q3,hargs3,rfl,rfl,h3,r3⟩:=trodAll_cons r2
 obtain⟨rfl,rfl,rfl⟩:=trodAll_nil r3
 subst hargs3
 subst hargs2
 subst hargs1
 obtain rfl:args=#[v0,v1,v2,v3]:=by cases args;simp_all
 obtain⟨rfl,rfl⟩:=trodVars_none hV
 have hbk:Rows.uptoBulkAll [d0,d1,d2,d3]≤1048576:=of_decide_eq_true (hcond _ rfl)
 simp only[Rows.uptoBulkAll]at hbk
 have lt0:∀ x∈p0,x.block<W.heap.size:=by obtain⟨m,hm⟩:=h0;exact DataW.trod_lt m _ _ _ hm
 have lt1:∀ x∈p1,x.block<W.heap.size:=by obtain⟨m,hm⟩:=h1;exact DataW.trod_lt m _ _ _ hm
 have lt2:∀ x∈p2,x.block<W.heap.size:=by obtain⟨m,hm⟩:=h2;exact DataW.trod_lt m _ _ _ hm
 have lt3:∀ x∈p3,x.block<W.heap.size:=by obtain⟨m,hm⟩:=h3;exact DataW.trod_lt m _ _ _ hm
 obtain⟨sa0,sl0,sc0,rfl⟩:=okWide_slice Tryz.underlying22 (hval 0 22 v0 rfl rfl)
 obtain⟨n0,a0,ht0,hr0⟩:=zIu zlw zwt (by decide) rfl h0
 obtain⟨x0,rfl⟩:=zGT n0 a0 _ (by omega) ht0
 obtain⟨c1,rfl,_⟩:=okWide_struct Tryz.underlying25 (hval 1 25 v1 rfl rfl)
 obtain⟨n1,l1,ht1,hr1⟩:=zIv zlw zwt (by decide) h1
 obtain⟨x1,rfl⟩:=zKu n1 l1 _ (by omega) ht1
 obtain⟨s2,rfl⟩:=okWide_int Tryz.underlying3 (hval 2 3 v2 rfl rfl)
 obtain⟨n2,a2,ht2,hr2⟩:=zyw zlw (by decide) rfl h2
 obtain⟨x2,hx2,wf2⟩:=zzX Tryz.underlying3 ht2
 obtain rfl:a2=.int .i64 x2:=by simpa using hx2
 obtain⟨s3,rfl⟩:=okWide_int Tryz.underlying3 (hval 3 3 v3 rfl rfl)
 obtain⟨n3,a3,ht3,hr3⟩:=zyw zlw (by decide) rfl h3
 obtain⟨x3,hx3,wf3⟩:=zzX Tryz.underlying3 ht3
 obtain rfl:a3=.int .i64 x3:=by simpa using hx3
 refine (zKg (law x0 x1 x2 x3) W #[.slice sa0 sl0 sc0,.agg c1,.int .i64 s2,.int .i64 s3] ⟨hr0,hr1,hr2,hr3,trivial⟩).mono λe W' ⟨he,bel⟩=>?_
 subst he
 exact⟨_,rfl,_,_,_,[],_,[],hW',trodAll_mk1 (shut_bool Tryz.underlying4 _),(trodAll_cons_mk (Below.trod laidOut (by kernel_rfl) (of_decide_eq_true (by kernel_rfl)) h0 bel lt0) (trodAll_cons_mk (Below.trod laidOut (by kernel_rfl) (of_decide_eq_true (by kernel_rfl)) h1 bel lt1) (trodAll_cons_mk (Below.trod laidOut (by kernel_rfl) (of_decide_eq_true (by kernel_rfl)) h2 bel lt2) (trodAll_cons_mk (Below.trod laidOut (by kernel_rfl) (of_decide_eq_true (by kernel_rfl)) h3 bel lt3) trodAll_mk0)))),rfl,bel.frame _,λh=>by cases h⟩
theorem over:Rows.inputsNumbersUptoRow.holds Tryz.pinned (Rows.OpenSpec.upto Rows.inputsNumbersSpec):=
 OpenClaim.holds_of_cond 4 Tryz.f4 rfl rfl rfl rfl rfl rfl rfl ⟨rfl,rfl,rfl,rfl,rfl⟩ rfl rfl rfl rfl rfl (by kernel_rfl) Tryz.func4 (zHt _ _ _ _ _ j0 j1 j2 j3 j4 j5 j6 j7 j8 j9 j10 j11)
  (of_decide_eq_true (by kernel_rfl)) (by unfold Func.isWrapper;first | (rw[if_pos (by decide +kernel)];kernel_rfl) | (rw[if_neg (by decide +kernel)];exact⟨rfl,rfl⟩))
  (λos started H enc _ F=>by rw[OpenClaim.pre_eq_preRow];exact lifted os started H enc F)
end inputsNumbersUpto
end Go.Proofs.YtaifokkaaahdoaaGreatDoor
