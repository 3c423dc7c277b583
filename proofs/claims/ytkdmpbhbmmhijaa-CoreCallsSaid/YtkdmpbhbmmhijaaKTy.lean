import Derived.Test.YtkdmpbhbmmhijaaAbsQ1
import Derived.Test.YtkdmpbhbmmhijaaAbsT
import Derived.Test.YtkdmpbhbmmhijaaProg
import Derived.KernelRfl
namespace Go.Proofs.Ytkdmpbhbmmhijaa
open Go Go.Abs
set_option maxRecDepth 100000
theorem zAv : zn1 Try.prog [27,22,23,24,25,67,65,69,41,43,46,35,39,2,3,9] = true:=by kernel_rfl
theorem ce3 : Try.prog.cellsOf 3 = 1:=by kernel_rfl
theorem ce2 : Try.prog.cellsOf 2 = 1:=by kernel_rfl
theorem ce9 : Try.prog.cellsOf 9 = 1:=by kernel_rfl
theorem zz6 : Try.prog.cellsOf 22 = 1:=by kernel_rfl
theorem zz7 : Try.prog.cellsOf 23 = 1:=by kernel_rfl
theorem zmI : Try.prog.cellsOf 24 = 1:=by kernel_rfl
theorem zz8 : Try.prog.cellsOf 25 = 1:=by kernel_rfl
theorem zsz : Try.prog.cellsOf 35 = 1:=by kernel_rfl
theorem zAa : Try.prog.cellsOf 39 = 1:=by kernel_rfl
theorem zAd : Try.prog.cellsOf 65 = 1:=by kernel_rfl
theorem zmJ : Try.prog.cellsOf 41 = 3:=by kernel_rfl
theorem zAb : Try.prog.cellsOf 43 = 8:=by kernel_rfl
theorem zAc : Try.prog.cellsOf 46 = 7:=by kernel_rfl
theorem zAe : Try.prog.cellsOf 67 = 3:=by kernel_rfl
theorem zAf : Try.prog.cellsOf 69 = 2:=by kernel_rfl
theorem zz9 : Try.prog.cellsOf 27 = 4:=by kernel_rfl
theorem zjk : ∀ (n : Nat) (l : List AV),zbG Try.prog n 41 l → ∃ v : VT,l = v.cs:=by
 intro n
 induction n using Nat.strongRecOn with
 | _ n ih=>
  intro l h
  obtain ⟨n',hn,hl,hf⟩:=zga Try.underlying41 h
  rw [zmJ] at hl
  match l,hl with
  | [a,b,c],_=>
   simp [ce3,zmI] at hf
   obtain ⟨h1,h2,h3⟩:=hf
   obtain ⟨k,hk,_⟩:=zfh Try.underlying3 h1
   obtain ⟨m,hm,_⟩:=zfh Try.underlying3 h2
   obtain ⟨es,n2,hn2,hes,_,hel⟩:=zdT Try.underlying24 h3
   obtain ⟨ks,hks⟩:=zdN (cs:=VT.cs) (fun c hc=>ih n2 (by omega) c (hel c hc))
   simp at hk hm hes
   exact ⟨.mk k m ks,by simp [VT.cs,VT.css_map,hk,hm,hes,hks]⟩
theorem zgU (n : Nat) (a : AV) (h : zbG Try.prog n 35 [a]) : ∃ l : List Int,a = .sl (ints l) .none:=by
 obtain ⟨es,n2,hn2,hes,_,hel⟩:=zdT Try.underlying35 h
 obtain ⟨ks,hks⟩:=zdN (cs:=fun n : Int=>[AV.int .i64 n]) (fun c hc=>by
  obtain ⟨m,hm,_⟩:=zfh Try.underlying3 (hel c hc)
  exact ⟨m,hm⟩)
 simp at hes
 exact ⟨ks,by rw [hes,hks]; rfl⟩
theorem zCj (n : Nat) (a : AV) (h : zbG Try.prog n 39 [a]) : ∃ l : List (List Int),a = .sl (rows l) .none:=by
 obtain ⟨es,n2,hn2,hes,_,hel⟩:=zdT Try.underlying39 h
 obtain ⟨ks,hks⟩:=zdN (cs:=fun r : List Int=>[AV.sl (ints r) .none]) (fun c hc=>by
  obtain ⟨es2,_,_,h2,_⟩:=zdT Try.underlying35 (hel c hc)
  subst h2
  obtain ⟨l,hl⟩:=zgU n2 _ (hel _ hc)
  exact ⟨l,by rw [hl]⟩)
 simp at hes
 exact ⟨ks,by rw [hes,hks]; rfl⟩
theorem zAt (n : Nat) (l : List AV) (h : zbG Try.prog n 69 l) : ∃ c : Con,l = c.cs:=by
 obtain ⟨n',hn,hl,hf⟩:=zga Try.underlying69 h
 rw [zAf] at hl
 match l,hl with
 | [a,b],_=>
  simp [ce9,zmI] at hf
  obtain ⟨h1,h2⟩:=hf
  obtain ⟨s,hs,_⟩:=zor Try.underlying9 h1
  obtain ⟨es,n2,hn2,hes,_,hel⟩:=zdT Try.underlying24 h2
  obtain ⟨ks,hks⟩:=zdN (cs:=VT.cs) (fun c hc=>zjk n2 c (hel c hc))
  simp at hs hes
  exact ⟨⟨s,ks⟩,by simp [Con.cs,VT.css_map,hs,hes,hks]⟩
theorem zAx (n : Nat) (l : List AV) (h : zbG Try.prog n 67 l) : ∃ d : Dat,l = d.cs:=by
 obtain ⟨n',hn,hl,hf⟩:=zga Try.underlying67 h
 rw [zAe] at hl
 match l,hl with
 | [a,b,c],_=>
  simp [ce9,ce3,zAd] at hf
  obtain ⟨h1,h2,h3⟩:=hf
  obtain ⟨s,hs,_⟩:=zor Try.underlying9 h1
  obtain ⟨m,hm,_⟩:=zfh Try.underlying3 h2
  obtain ⟨es,n2,hn2,hes,_,hel⟩:=zdT Try.underlying65 h3
  obtain ⟨ks,hks⟩:=zdN (cs:=Con.cs) (fun c hc=>zAt n2 c (hel c hc))
  simp at hs hm hes
  exact ⟨⟨s,m,ks⟩,by simp [Dat.cs,hs,hm,hes,hks]⟩
theorem zAk (n : Nat) (l : List AV) (h : zbG Try.prog n 46 l) : ∃ d : Cod,l = d.cs:=by
 obtain ⟨n',hn,hl,hf⟩:=zga Try.underlying46 h
 rw [zAc] at hl
 match l,hl with
 | [a,b,c,d,e,f,g],_=>
  simp [ce9,ce3,zsz,zmJ] at hf
  obtain ⟨h1,h2,h3,h4,h5⟩:=hf
  obtain ⟨s,hs,_⟩:=zor Try.underlying9 h1
  obtain ⟨p,hp⟩:=zgU _ _ h2
  obtain ⟨q,hq⟩:=zgU _ _ h3
  obtain ⟨t,ht⟩:=zjk _ _ h4
  obtain ⟨m,hm,_⟩:=zfh Try.underlying3 h5
  simp at hs hm
  exact ⟨⟨s,p,q,t,m⟩,by simp [Cod.cs,hs,hp,hq,hm,← ht]⟩
theorem zAg (n : Nat) (l : List AV) (h : zbG Try.prog n 43 l) : ∃ d : CEx,l = d.cs:=by
 obtain ⟨n',hn,hl,hf⟩:=zga Try.underlying43 h
 rw [zAb] at hl
 match l,hl with
 | [a,b,c,d,e,f,g,i],_=>
  simp [ce2,ce3,zsz,zAa,zmJ] at hf
  obtain ⟨h1,h2,h3,h4,h5,h6⟩:=hf
  obtain ⟨o,ho,_⟩:=zfh Try.underlying3 h1
  obtain ⟨m,hm,_⟩:=zfh Try.underlying2 h2
  obtain ⟨p,hp⟩:=zgU _ _ h3
  obtain ⟨q,hq⟩:=zCj _ _ h4
  obtain ⟨r,hr⟩:=zgU _ _ h5
  obtain ⟨t,ht⟩:=zjk _ _ h6
  simp at ho hm
  exact ⟨⟨o,m,p,q,r,t⟩,by simp [CEx.cs,ho,hm,hp,hq,hr,← ht]⟩
theorem zAw (n : Nat) (l : List AV) (h : zbG Try.prog n 27 l) : ∃ c : Cor,l = c.cs ∧ c.data.length ≤ 9223372036854775807 ∧ c.vars.length ≤ 9223372036854775807:=by
 obtain ⟨n',hn,hl,hf⟩:=zga Try.underlying27 h
 rw [zz9] at hl
 match l,hl with
 | [a,b,c,d],_=>
  simp [zz6,zz7,zmI,zz8] at hf
  obtain ⟨h1,h2,h3,h4⟩:=hf
  obtain ⟨es1,n1,_,hes1,hm1,hel1⟩:=zdT Try.underlying22 h1
  obtain ⟨es2,n2,_,hes2,_,hel2⟩:=zdT Try.underlying23 h2
  obtain ⟨es3,n3,_,hes3,hm3,hel3⟩:=zdT Try.underlying24 h3
  obtain ⟨es4,n4,_,hes4,_,hel4⟩:=zdT Try.underlying25 h4
  obtain ⟨k1,hk1⟩:=zdN (cs:=Dat.cs) (fun c hc=>zAx n1 c (hel1 c hc))
  obtain ⟨k2,hk2⟩:=zdN (cs:=Cod.cs) (fun c hc=>zAk n2 c (hel2 c hc))
  obtain ⟨k3,hk3⟩:=zdN (cs:=VT.cs) (fun c hc=>zjk n3 c (hel3 c hc))
  obtain ⟨k4,hk4⟩:=zdN (cs:=CEx.cs) (fun c hc=>zAg n4 c (hel4 c hc))
  simp at hes1 hes2 hes3 hes4
  refine ⟨⟨k1,k2,k3,k4⟩,by simp [Cor.cs,VT.css_map,hes1,hes2,hes3,hes4,hk1,hk2,hk3,hk4],?_,?_⟩
  ·rw [hk1] at hm1; simpa [maxLen] using hm1
  ·rw [hk3] at hm3; simpa [maxLen] using hm3
end Go.Proofs.Ytkdmpbhbmmhijaa
