import Derived.Test.YtjkkonpjecoieaaGreatIT
import Derived.Test.YtjkkonpjecoieaaGreatKTz
set_option linter.unusedSimpArgs false
set_option linter.unusedVariables false
namespace Go.Proofs.YtjkkonpjecoieaaGreat
open Go Go.Abs
set_option maxRecDepth 100000
theorem zv6:zhX tP [37,3,35]=true:=by kernel_rfl
theorem zwb:∀ (n:Nat) (l:List AV),zbF tP n 37 l→∃ v:IT,l=v.cs:=by
 intro n
 induction n using Nat.strongRecOn with
 | _ n ih=>
  intro l h
  obtain⟨n',hn,hl,hf⟩:=zic Tryz.underlying37 h
  have hc:tP.cellsOf 37=2:=by kernel_rfl
  have hc3:tP.cellsOf 3=1:=by kernel_rfl
  have hc35:tP.cellsOf 35=1:=by kernel_rfl
  rw[hc]at hl
  match l,hl with
  | [b,c],_=>
   simp[hc3,hc35]at hf
   obtain⟨h2,h3⟩:=hf
   obtain⟨m,hm,_⟩:=zgH Tryz.underlying3 h2
   obtain⟨es,n2,hn2,hes,_,hel⟩:=zgI Tryz.underlying35 h3
   obtain⟨ks,hks⟩:=zfq (cs:=IT.cs) (fun c hc=>ih n2 (by omega) c (hel c hc))
   simp at hm hes
   exact⟨.mk m ks,by simp[IT.cs,IT.css_map,hm,hes,hks]⟩
end Go.Proofs.YtjkkonpjecoieaaGreat
