import Derived.Test.YtdmamdnkcefmmaaGreatDoorCards
import Derived.Test.YtdmamdnkcefmmaaGreatDoorTie
import Derived.ProofKit
import Derived.OpenShut
import Derived.ShutString
import Derived.ChangeOld
import Derived.LaidMore
import Derived.Stop.Joined
import Derived.SevenTiedAt
import Derived.Test.YtdmamdnkcefmmaaGreatDoorKRProductCombinesa
import Derived.Test.YtdmamdnkcefmmaaGreatDoorKRProductCombinesb
set_option linter.unusedSimpArgs false
set_option linter.unusedVariables false
set_option linter.unusedSectionVars false
set_option maxRecDepth 8000
namespace Go.Proofs.YtdmamdnkcefmmaaGreatDoor
open Go
namespace productCombines
open Go.ChangeShapes Go.WideShapes Go.ChangeAt Go.RowKit
theorem own:ownKnob Tryz.prog.godebug=none:=by kernel_rfl
theorem laidOut:laidOutB Tryz.prog=true:=by kernel_rfl
def args0:Array Value:=#[.slice none 0 0,.agg #[.int .i64 0,.int .i64 0,.slice none 0 0],.slice none 0 0,.slice none 0 0]
theorem door_met (os:Os) (args:Array Value):laidMetH Tryz.prog Rows.productCombinesRow.laid ((World.doorLaid Tryz.prog 400 os).forCall (λ_ _=>0) ⟨#[],args,[]⟩).memory:=
 laidMetH_of_parts3 (fuel:=8) (laidMet_of_run' 8 (by kernel_rfl) (by kernel_rfl)) (by kernel_rfl) (by kernel_rfl)
theorem law (x0:{l:List Dat // l.length≤9223372036854775807}) (x1:VT) (x2:{l:List (IT × Raw) // ∀ p∈l,DK p.2}) (x3:{l:List (IT × Raw) // ∀ p∈l,DK p.2}):ge Tryz.prog 8 [.sl (x0.1.map Dat.cs) .none,.agg x1.cs,.sl (twS x2.1) .none,.sl (twS x3.1) .none] [] λr _=>r=.bool true:=
 zJ4 x0.1 x0.2 x1 x2.1 x2.2 x3.1 x3.2 [] _ rfl
set_option maxRecDepth 100000 in
theorem lifted (os:Os) (started:os.Started) (H:Type) (enc:TypeId × Value→H) :
  ReturnsInHanded {} Tryz.checked os 8 .any (λw args=>(Rows.productCombinesSpec.pre enc Tryz.prog Tryz.f8 [] false w args∧laidMetH Tryz.prog Rows.productCombinesRow.laid w)∧sizedMet enc Tryz.prog Tryz.f8 (OpenSpec.ofChange Rows.productCombinesSpec) false w args)
   (Rows.productCombinesSpec.post enc Tryz.prog Tryz.f8 false true false false):=by
 refine returnsInHanded_of_change_and (C:=Tryz.checked) (X:=λw _=>laidMetH Tryz.prog Rows.productCombinesRow.laid w) (λ_ _ _ hh h=>h.of_heap hh) own started (by kernel_rfl) Tryz.func8
  (ChangeSpec.witness_shaped (enc:=enc) (C:=Tryz.checked) (os:=os) (X:=λw _=>laidMetH Tryz.prog Rows.productCombinesRow.laid w) false (World.doorLaid Tryz.prog 400 os) args0 8 rfl (World.shaped_of_RefB (by kernel_rfl) (by kernel_rfl)) (by kernel_rfl) (by kernel_rfl) (by kernel_rfl) (door_met os _)) ?_
 intro W base args ds gs before hval0 hW _ _ hL _
 have hval:∀ (j:Nat) t v,Tryz.f8.params[j]?=some t→args[j]?=some v→Value.okWide Tryz.prog W .any base t v:=hval0
 have hW':=hW
 obtain⟨p,q,hA0,hV,rfl,hfz,hnd⟩:=hW
 have hA:DataW.TrodAll enc Tryz.prog W 0 (λ_=>true) true Tryz.f8.params.toList args.toList ds p:=hA0
 rw[Tryz.params8]at hA hval
 obtain⟨v0,vs0,d0,ds0,p0,q0,hargs0,rfl,rfl,h0,r0⟩:=trodAll_cons hA
 obtain⟨v1,vs1,d1,ds1,p1,q1,hargs1,rfl,rfl,h1,r1⟩:=trodAll_cons r0
 obtain⟨v2,vs2,d2,ds2,p2,q2,hargs2,rfl,rfl,h2,r2⟩:=trodAll_cons r1
 obtain⟨v3,vs3,d3,ds3,p3,q3,hargs3,rfl,rfl,h3,r3⟩:=trodAll_cons r2
 obtain⟨rfl,rfl,rfl⟩:=trodAll_nil r3
 subst hargs3
 subst hargs2
 subst hargs1
 obtain rfl:args=#[v0,v1,v2,v3]:=by cases args;simp_all
 obtain⟨rfl,rfl⟩:=trodVars_none hV
 have lt0:∀ x∈p0,x.block<W.heap.size:=by obtain⟨m,hm⟩:=h0;exact DataW.trod_lt m _ _ _ hm
 have lt1:∀ x∈p1,x.block<W.heap.size:=by obtain⟨m,hm⟩:=h1;exact DataW.trod_lt m _ _ _ hm
 have lt2:∀ x∈p2,x.block<W.heap.size:=by obtain⟨m,hm⟩:=h2;exact DataW.trod_lt m _ _ _ hm
 have lt3:∀ x∈p3,x.block<W.heap.size:=by obtain⟨m,hm⟩:=h3;exact DataW.trod_lt m _ _ _ hm
 obtain⟨sa0,sl0,sc0,rfl⟩:=okWide_slice Tryz.underlying22 (hval 0 22 v0 rfl rfl)
 obtain⟨n0,a0,ht0,hr0⟩:=Ur zEn (by decide) rfl h0
 obtain⟨x0,rfl⟩:=zLw n0 a0 ht0
 obtain⟨c1,rfl,_⟩:=okWide_struct Tryz.underlying25 (hval 1 25 v1 rfl rfl)
 obtain⟨n1,l1,ht1,hr1⟩:=zM9 zEn (by decide) h1
 obtain⟨x1,rfl⟩:=zEg n1 l1 ht1
 obtain⟨sa2,sl2,sc2,rfl⟩:=okWide_slice Tryz.underlying31 (hval 2 31 v2 rfl rfl)
 obtain⟨n2,a2,ht2,hr2⟩:=Ur zEB (by decide) rfl h2
 obtain⟨x2,rfl⟩:=zEC n2 a2 ht2
 obtain⟨sa3,sl3,sc3,rfl⟩:=okWide_slice Tryz.underlying31 (hval 3 31 v3 rfl rfl)
 obtain⟨n3,a3,ht3,hr3⟩:=Ur zEB (by decide) rfl h3
 obtain⟨x3,rfl⟩:=zEC n3 a3 ht3
 refine (zPB (law x0 x1 x2 x3) W #[.slice sa0 sl0 sc0,.agg c1,.slice sa2 sl2 sc2,.slice sa3 sl3 sc3] ⟨hr0,hr1,hr2,hr3,trivial⟩).mono λe W' ⟨he,bel⟩=>?_
 subst he
 exact⟨_,rfl,_,_,_,[],_,[],hW',trodAll_mk1 (shut_bool Tryz.underlying4 _),(trodAll_cons_mk (Below.trod laidOut (by kernel_rfl) (of_decide_eq_true (by kernel_rfl)) h0 bel lt0) (trodAll_cons_mk (Below.trod laidOut (by kernel_rfl) (of_decide_eq_true (by kernel_rfl)) h1 bel lt1) (trodAll_cons_mk (Below.trod laidOut (by kernel_rfl) (of_decide_eq_true (by kernel_rfl)) h2 bel lt2) (trodAll_cons_mk (Below.trod laidOut (by kernel_rfl) (of_decide_eq_true (by kernel_rfl)) h3 bel lt3) trodAll_mk0)))),rfl,bel.frame _,λh=>by cases h⟩
theorem over:Rows.productCombinesRow.holds Tryz.pinned (OpenSpec.ofChange Rows.productCombinesSpec):=
 OpenClaim.holds_of_wide 8 Tryz.f8 rfl rfl rfl rfl rfl rfl rfl ⟨rfl,rfl,rfl,rfl,rfl⟩ rfl rfl rfl rfl rfl (by kernel_rfl) Tryz.func8 (zMe _ _ _ _ _ j0 j1 j2 j3 j4 j5 j6 j7 j8 j9 j10 j11)
  (of_decide_eq_true (by kernel_rfl)) (by unfold Func.isWrapper;first | (rw[if_pos (by decide +kernel)];kernel_rfl) | (rw[if_neg (by decide +kernel)];exact⟨rfl,rfl⟩))
  (λos started H enc _=>lifted os started H enc)
end productCombines
end Go.Proofs.YtdmamdnkcefmmaaGreatDoor
