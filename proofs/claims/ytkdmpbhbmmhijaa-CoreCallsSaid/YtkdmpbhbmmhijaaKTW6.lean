import Derived.Test.YtkdmpbhbmmhijaaKGT
import Derived.Test.YtkdmpbhbmmhijaaAbsQ1
set_option linter.unusedSimpArgs false
set_option linter.unusedVariables false
namespace Go.Proofs.Ytkdmpbhbmmhijaa
open Go Go.Abs
def kwds : List (List UInt8):=[[97,114,114,97,121],[98,111,111,108],[99,97,116,99,104],[100,97,116,97],[101,108,115,101],[101,110,100],[102,97,108,115,101],[102,110],[102,117,110],[103,101,116],[105,102],[105,110],[105,110,116],[108,101,110],[108,101,116],[109,97,116,99,104],[110,101,119],[114,97,105,115,101],[114,101,97,100],[114,101,102],[115,101,116],[116,104,101,110],[116,105,99,107],[116,114,117,101],[116,114,121],[117,110,105,116],[119,105,116,104],[119,114,105,116,101]]
def kwF (ws : List (List UInt8)) (s : List UInt8) : Bool:=ws.any (s == ·)
theorem zcT {H : zaa} {K : AV → zaa → Prop} {r : AV} (hsc : HSc H) (hv : r.isV = true) (hr : r.scV H.length = true) (h : K r H) : Out H.length K r H:=by
 have:=Out.same (J:=[]) rfl hsc hv hr h
 simpa using this
theorem zcv (b c : UInt8) : ((b.toNat : Int) == (c.toNat : Int)) = (b == c):=by
 rw [Bool.eq_iff_iff]
 simp only [beq_iff_eq]
 constructor
 ·intro h; exact UInt8.toNat_inj.mp (by omega)
 ·rintro rfl; rfl
theorem ztp (b : UInt8) (H : zaa) (K : AV → zaa → Prop) (hK : K (.bool (zbZ b)) H) : ACalls tP ziy [.int .u8 b.toNat] H K:=by
 refine ACalls.out (zEv fun hs=>?_)
 have hO:=zcT (K:=K) (H:=H) (r:=.bool (zbZ b)) hs rfl rfl hK
 unfold zbZ at hO
 cases h1 : decide (97 ≤ (b.toNat : Int)) <;> simp [zvd,h1] <;> simpa [h1] using hO
theorem zjf (b : UInt8) (H : zaa) (K : AV → zaa → Prop) (hK : K (.bool (bUp b)) H) : ACalls tP zfU [.int .u8 b.toNat] H K:=by
 refine ACalls.out (zEy fun hs=>?_)
 have hO:=zcT (K:=K) (H:=H) (r:=.bool (bUp b)) hs rfl rfl hK
 unfold bUp at hO
 cases h1 : decide (65 ≤ (b.toNat : Int)) <;> simp [zve,h1] <;> simpa [h1] using hO
theorem zmT (b : UInt8) (H : zaa) (K : AV → zaa → Prop) (hK : K (.bool (za3 b)) H) : ACalls tP zgZ [.int .u8 b.toNat] H K:=by
 refine ACalls.out (zEB fun hs=>?_)
 have hO:=zcT (K:=K) (H:=H) (r:=.bool (za3 b)) hs rfl rfl hK
 unfold za3 at hO
 cases h1 : decide (48 ≤ (b.toNat : Int)) <;> simp [zvf,h1] <;> simpa [h1] using hO
theorem znc (b : UInt8) (H : zaa) (K : AV → zaa → Prop) (hK : K (.bool (zbZ b)) H) : ACalls tP ziC [.int .u8 b.toNat] H K:=by
 refine ACalls.out (zFd fun hs=>?_)
 have hO:=zcT (K:=K) (H:=H) (r:=.bool (zbZ b)) hs rfl rfl hK
 unfold zbZ at hO
 cases h1 : decide (97 ≤ (b.toNat : Int)) <;> simp [zvs,h1] <;> simpa [h1] using hO
theorem zjg (b : UInt8) (H : zaa) (K : AV → zaa → Prop) (hK : K (.bool (bUp b)) H) : ACalls tP zg0 [.int .u8 b.toNat] H K:=by
 refine ACalls.out (zFg fun hs=>?_)
 have hO:=zcT (K:=K) (H:=H) (r:=.bool (bUp b)) hs rfl rfl hK
 unfold bUp at hO
 cases h1 : decide (65 ≤ (b.toNat : Int)) <;> simp [zvt,h1] <;> simpa [h1] using hO
theorem zmU (b : UInt8) (H : zaa) (K : AV → zaa → Prop) (hK : K (.bool (za3 b)) H) : ACalls tP zfa [.int .u8 b.toNat] H K:=by
 refine ACalls.out (zFv fun hs=>?_)
 have hO:=zcT (K:=K) (H:=H) (r:=.bool (za3 b)) hs rfl rfl hK
 unfold za3 at hO
 cases h1 : decide (48 ≤ (b.toNat : Int)) <;> simp [zvy,h1] <;> simpa [h1] using hO
theorem zzB (b : UInt8) (H : zaa) (K : AV → zaa → Prop) (hK : K (.bool (zdg b)) H) : ACalls tP znR [.int .u8 b.toNat] H K:=by
 refine ACalls.out (zPm fun hs=>?_)
 have hO:=zcT (K:=K) (H:=H) (r:=.bool (zdg b)) hs rfl rfl hK
 unfold zdg at hO
 have e1 : ((b.toNat : Int) == 9) = (b == 9):=zcv b 9
 have e2 : ((b.toNat : Int) == 10) = (b == 10):=zcv b 10
 have e3 : ((b.toNat : Int) == 13) = (b == 13):=zcv b 13
 have e4 : ((b.toNat : Int) == 32) = (b == 32):=zcv b 32
 cases h1 : (b == 9) <;> cases h2 : (b == 10) <;> cases h3 : (b == 13) <;> simp [zy4,e1,e2,e3,e4,h1,h2,h3] <;> simpa [h1,h2,h3] using hO
theorem zDQ (b : UInt8) (H : zaa) (K : AV → zaa → Prop) (hK : K (.bool (bIn b)) H) : ACalls tP zg1 [.int .u8 b.toNat] H K:=by
 refine ACalls.out (zFp fun hs=>?_)
 have hO:=zcT (K:=K) (H:=H) (r:=.bool (bIn b)) hs rfl rfl hK
 unfold bIn at hO
 have e1 : ((b.toNat : Int) == 95) = (b == 95):=zcv b 95
 unfold zvw
 refine znc b _ _ ?_
 cases h1 : zbZ b with
 | true=>simp; simpa [h1] using hO
 | false=>
  simp
  refine zjg b _ _ ?_
  cases h2 : bUp b with
  | true=>simp; simpa [h1,h2] using hO
  | false=>
   simp
   refine zmU b _ _ ?_
   cases h3 : za3 b with
   | true=>simp; simpa [h1,h2,h3] using hO
   | false=>simp [e1]; simpa [h1,h2,h3] using hO
theorem zA0 (s : List UInt8) (H : zaa) (K : AV → zaa → Prop) (hK : K (.bool (kwF kwds s)) H) : ACalls tP znj [.str s] H K:=by
 refine ACalls.out (zFs fun hs=>?_)
 have hO:=zcT (K:=K) (H:=H) (r:=.bool (kwF kwds s)) hs rfl rfl hK
 have step : ∀ (w : List UInt8) (ws : List (List UInt8)) (rest : Prop),(Out H.length K (.bool (kwF ws s)) H → rest) → Out H.length K (.bool (kwF (w :: ws) s)) H →
   zad .eql false (.str s) (.str w) fun t=>zag t (zbp t H (Out H.length K)) rest:=by
  intro w ws rest h h'
  simp only [kwF,List.any_cons] at h h'
  cases e : (s == w) with
  | true=>simpa [zbp,e] using h'
  | false=>rw [e,Bool.false_or] at h'; simpa [zbp,e] using h h'
 unfold zvx
 revert hO
 unfold kwds
 iterate 27 refine step _ _ _ ?_
 intro h'
 simp only [kwF,List.any_cons,List.any_nil,Bool.or_false] at h'
 cases e : (s == [119,114,105,116,101]) <;> rw [e] at h' <;> simpa [zbp,e] using h'
theorem zA1 (s : List UInt8) (H : zaa) (K : AV → zaa → Prop) (hK : K (.bool (kwF kwds s)) H) : ACalls tP ziA [.str s] H K:=by
 refine ACalls.out (zER fun hs=>?_)
 have hO:=zcT (K:=K) (H:=H) (r:=.bool (kwF kwds s)) hs rfl rfl hK
 have e : zvn (.str s) H (Out H.length K) = zoM (.str s) (.sl (kwds.map fun w=>[.str w]) .full) (.int .i64 0) H (Out H.length K):=rfl
 rw [e]
 have hlen : kwds.length = 28:=rfl
 generalize kwds = ws at *
 refine zEP (Inv:=fun q t4 H'=>∃ i : Nat,i ≤ ws.length ∧ q = ws.length - i ∧ t4 = .int .i64 i ∧ kwF (ws.drop i) s = kwF ws s ∧ H' = H) ws.length ?_ ?_
 ·intro _; exact ⟨0,by omega,by omega,rfl,by simp,rfl⟩
 ·rintro q t8 H' ⟨i,hi,rfl,rfl,ho,rfl⟩ hsc _ hsF Kb hKb
  by_cases hlt : i < ws.length
  ·rw [List.drop_eq_getElem_cons hlt] at ho
   simp only [kwF,List.any_cons] at ho
   cases hz : (ws[i] == s) with
   | true=>
    have hz' : (s == ws[i]) = true:=by rw [beq_iff_eq] at hz ⊢; exact hz.symm
    rw [hz',Bool.true_or] at ho
    simp [zjx,hlt,hz]
    unfold kwF at hO
    rw [← ho] at hO
    exact hO
   | false=>
    have hz' : (s == ws[i]) = false:=by rw [beq_eq_false_iff_ne] at hz ⊢; exact fun h=>hz h.symm
    rw [hz',Bool.false_or] at ho
    simp [zjx,hlt,hz]
    rw [zaq (by omega) (by omega)]
    refine hKb _ _ ⟨ws.length - (i + 1),by omega,Back.here (Nat.le_refl _) hs ?_ ⟨_,rfl,i + 1,by omega,rfl,by simp,ho,rfl⟩⟩
    simp [zjy,AV.sc,AV.scV,AV.scA,AV.scB]
  ·simp [zjx,hlt]
   obtain rfl : i = ws.length:=by omega
   rw [List.drop_length] at ho
   rw [← ho] at hO
   exact hO
theorem zsl {b : UInt8} (h : za3 b = true) : 48 ≤ (b.toNat : Int) ∧ (b.toNat : Int) ≤ 57:=by simpa [za3] using h
theorem zCM (s : List UInt8) (hd : ∀ b ∈ s,za3 b = true) (hl : s.length ≤ 1000000) (H : zaa) (K : AV → zaa → Prop) (hK : K (.bool (zcc s 0)) H) : ACalls tP zg3 [.str s] H K:=by
 refine ACalls.out (zFF fun hs=>?_)
 have hO:=zcT (K:=K) (H:=H) (r:=.bool (zcc s 0)) hs rfl rfl hK
 simp [zvA]
 refine zFD (Inv:=fun q t3 t7 H'=>∃ (i : Nat) (n : Int),i ≤ s.length ∧ q = s.length - i ∧ t7 = .int .i64 i ∧ t3 = .int .i64 n ∧ 0 ≤ n ∧ n ≤ 1000000 ∧ zcc (s.drop i) n = zcc s 0 ∧ H' = H) s.length ?_ ?_
 ·intro _; exact ⟨0,0,by omega,by omega,rfl,rfl,by omega,by omega,by simp,rfl⟩
 ·rintro q t3 t7 H' ⟨i,n,hi,rfl,rfl,rfl,hn0,hn1,ho,rfl⟩ hsc _ hsF Kb hKb
  by_cases hlt : i < s.length
  ·have hb:=zsl (hd s[i] (List.getElem_mem hlt))
   rw [List.drop_eq_getElem_cons hlt,zcc] at ho
   simp [zoV,hlt]
   rw [IntWalk.u8_in _ (by omega),zaq (n:=n * 10) (by omega) (by omega),zaq (n:=(s[i].toNat : Int) - 48) (by omega) (by omega),zaq (by omega) (by omega),zaq (by omega) (by omega)]
   by_cases hg : 1000000 < n * 10 + ((s[i].toNat : Int) - 48)
   ·rw [if_pos hg] at ho
    have hg' : decide (1000000 < n * 10 + ((s[i].toNat : Int) - 48)) = true:=by simpa using hg
    rw [← ho] at hO
    rw [hg']
    simpa using hO
   ·rw [if_neg hg] at ho
    have hg' : decide (1000000 < n * 10 + ((s[i].toNat : Int) - 48)) = false:=by simpa using hg
    rw [hg']
    simp only [zsb,Bool.false_eq_true,if_false]
    refine hKb _ _ ⟨s.length - (i + 1),by omega,Back.here (Nat.le_refl _) hs ?_ ⟨_,_,rfl,i + 1,_,by omega,rfl,by simp,rfl,by omega,by omega,ho,rfl⟩⟩
    simp [zjJ,AV.sc,AV.scV,AV.scA,AV.scB]
  ·simp [zoV,hlt]
   obtain rfl : i = s.length:=by omega
   rw [List.drop_length,zcc] at ho
   rw [← ho] at hO
   exact hO
theorem zt4 (cl : UInt8 → Bool) (f : FuncId) (hcl : zcO tP f = true) (hf : ∀ (b : UInt8) (H : zaa) (K : AV → zaa → Prop),K (.bool (cl b)) H → ACalls tP f [.int .u8 b.toNat] H K)
  (s : List UInt8) (hl : s.length ≤ 1000000) (H : zaa) (K : AV → zaa → Prop) (hK : K (.str (s.takeWhile cl)) H) : ACalls tP ziD [.str s,.fn f []] H K:=by
 refine ACalls.out (zFl fun hs=>?_)
 have hO:=zcT (K:=K) (H:=H) (r:=.str (s.takeWhile cl)) hs rfl rfl hK
 simp [zvu]
 refine zFj (Inv:=fun q t5 H'=>∃ i : Nat,i ≤ s.length ∧ q = s.length - i ∧ t5 = .int .i64 i ∧ s.take i ++ (s.drop i).takeWhile cl = s.takeWhile cl ∧ H' = H) s.length ?_ ?_
 ·intro _; exact ⟨0,by omega,by omega,rfl,by simp,rfl⟩
 ·rintro q t5 H' ⟨i,hi,rfl,rfl,ho,rfl⟩ hsc _ hsF Kb hKb
  by_cases hlt : i < s.length
  ·rw [List.drop_eq_getElem_cons hlt,List.takeWhile_cons] at ho
   simp [zoT,hlt]
   simp only [aCallV,hcl,List.append_nil]
   refine hf _ _ _ ?_
   cases hc : cl s[i] with
   | true=>
    rw [hc,if_pos rfl,List.append_cons,← List.take_succ_eq_append_getElem hlt] at ho
    simp
    rw [zaq (by omega) (by omega)]
    refine hKb _ _ ⟨s.length - (i + 1),by omega,Back.here (Nat.le_refl _) hs ?_ ⟨_,rfl,i + 1,by omega,rfl,by simp,ho,rfl⟩⟩
    simp [zjH,AV.sc,AV.scV,AV.scA,AV.scB]
   | false=>
    rw [hc,if_neg (by simp),List.append_nil] at ho
    rw [← ho] at hO
    simp [hi]
    exact hO
  ·simp [zoT,hlt]
   obtain rfl : i = s.length:=by omega
   rw [List.drop_length,List.takeWhile_nil,List.append_nil,List.take_length] at ho
   rw [← ho] at hO
   simpa using hO
theorem zDD (s : List UInt8) (hd : ∀ b ∈ s,za3 b = true) (hl : s.length ≤ 1000000) (H : zaa) (K : AV → zaa → Prop) (hK : ∀ n,K (.tup [.int .i64 n,.bool (zcc s 0)]) H) : ACalls tP zfV [.str s] H K:=by
 refine ACalls.out (zEX fun hs=>?_)
 have hO : ∀ n,Out H.length K (.tup [.int .i64 n,.bool (zcc s 0)]) H:=fun n=>Out.tup0 hs (hK n) ⟨zcm rfl rfl,zcm rfl rfl,trivial⟩
 simp only [zvo]
 refine zEV (Inv:=fun q t3 t7 H'=>∃ (i : Nat) (n : Int),i ≤ s.length ∧ q = s.length - i ∧ t7 = .int .i64 i ∧ t3 = .int .i64 n ∧ 0 ≤ n ∧ n ≤ 1000000 ∧ zcc (s.drop i) n = zcc s 0 ∧ H' = H) s.length ?_ ?_
 ·intro _; exact ⟨0,0,by omega,by omega,rfl,rfl,by omega,by omega,by simp,rfl⟩
 ·rintro q t3 t7 H' ⟨i,n,hi,rfl,rfl,rfl,hn0,hn1,ho,rfl⟩ hsc _ hsF Kb hKb
  by_cases hlt : i < s.length
  ·have hb:=zsl (hd s[i] (List.getElem_mem hlt))
   rw [List.drop_eq_getElem_cons hlt,zcc] at ho
   simp [zoN,hlt]
   rw [IntWalk.u8_in _ (by omega),zaq (n:=n * 10) (by omega) (by omega),zaq (n:=(s[i].toNat : Int) - 48) (by omega) (by omega),zaq (by omega) (by omega),zaq (by omega) (by omega)]
   by_cases hg : 1000000 < n * 10 + ((s[i].toNat : Int) - 48)
   ·rw [if_pos hg] at ho
    have hg' : decide (1000000 < n * 10 + ((s[i].toNat : Int) - 48)) = true:=by simpa using hg
    rw [← ho] at hO
    rw [hg']
    simpa [AV.isV] using hO 0
   ·rw [if_neg hg] at ho
    have hg' : decide (1000000 < n * 10 + ((s[i].toNat : Int) - 48)) = false:=by simpa using hg
    rw [hg']
    simp only [zsb,Bool.false_eq_true,if_false]
    refine hKb _ _ ⟨s.length - (i + 1),by omega,Back.here (Nat.le_refl _) hs ?_ ⟨_,_,rfl,i + 1,_,by omega,rfl,by simp,rfl,by omega,by omega,ho,rfl⟩⟩
    simp [zjA,AV.sc,AV.scV,AV.scA,AV.scB]
  ·simp [zoN,hlt,AV.isV]
   obtain rfl : i = s.length:=by omega
   rw [List.drop_length,zcc] at ho
   rw [← ho] at hO
   exact hO n
theorem zDo (b : UInt8) (r : List UInt8) : (b :: r).take 1 = [b]:=by simp
theorem zof {s : List UInt8} (h : ¬ 2 ≤ s.length) : zdo s = false:=by
 match s,h with
 | [],_=>rfl
 | [b],_=>simp [zdo]
 | _ :: _ :: _,h=>simp at h
theorem zuq (b : UInt8) (r : List UInt8) (h : zdo (b :: r) = false) : sgn (b :: r) = if sgns.contains b = true then 1 else 0:=by simp [sgn,h]
theorem zCJ (b : UInt8) (r : List UInt8) (H : zaa) (K : AV → zaa → Prop) (hK : K (.str ((b :: r).take (sgn (b :: r)))) H) : ACalls tP znk [.str (b :: r)] H K:=by
 refine ACalls.out (zFJ fun hs=>?_)
 have hO:=zcT (K:=K) (H:=H) (r:=.str ((b :: r).take (sgn (b :: r)))) hs rfl rfl hK
 have one : zdo (b :: r) = false → zjK (.str (b :: r)) H (Out H.length K):=by
  intro h2
  rw [zuq b r h2] at hO
  have hO : Out H.length K (.str (if sgns.contains b = true then [b] else [])) H:=by
   cases hc : sgns.contains b <;> rw [hc] at hO <;> simpa using hO
  have step : ∀ (c : UInt8) (cs : List UInt8) (rest : Prop),(Out H.length K (.str (if cs.contains b = true then [b] else [])) H → rest) → Out H.length K (.str (if (c :: cs).contains b = true then [b] else [])) H →
    zad .eql false (.str [b]) (.str [c]) fun t=>zag t (zcw (.str (b :: r)) t H (Out H.length K)) rest:=by
   intro c cs rest h h'
   rw [List.contains_cons] at h'
   cases e : (b == c) with
   | true=>rw [e] at h'; simpa [zcw,e] using h'
   | false=>
    rw [e,Bool.false_or] at h'
    simpa [zcw,e] using h h'
  unfold zjK
  simp only [zzh,zzd,zzc,Int.toNat_one,zDo,List.drop_zero]
  refine ⟨by decide,⟨by omega,by simp⟩,?_⟩
  revert hO
  unfold sgns
  iterate 12 refine step _ _ _ ?_
  intro h'
  rw [List.contains_cons] at h'
  cases e : (b == 95) <;> rw [e] at h' <;> simpa [zcw,e] using h'
 by_cases hl : 2 ≤ (b :: r).length
 ·have hl' : (2 : Int) ≤ r.length + 1:=by simp only [List.length_cons] at hl; omega
  have hl2 : 1 ≤ r.length:=by simp only [List.length_cons] at hl; omega
  cases h2 : zdo (b :: r) with
  | true=>
   have h3 : sgn (b :: r) = 2:=by simp [sgn,h2]
   rw [h3] at hO
   unfold zdo at h2
   simp only [List.take_succ_cons] at h2 hO
   cases e1 : (b :: List.take 1 r == [45,62]) with
   | true=>simpa [zgf,hl',hl2,zfn,e1] using hO
   | false=>
    cases e2 : (b :: List.take 1 r == [60,61]) with
    | true=>simpa [zgf,hl',hl2,zfn,e1,e2] using hO
    | false=>
     rw [e1,e2] at h2
     simp only [Bool.false_or] at h2
     simpa [zgf,hl',hl2,zfn,e1,e2,h2] using hO
  | false=>
   have ho:=one h2
   unfold zdo at h2
   simp only [List.take_succ_cons] at h2
   rw [Bool.or_eq_false_iff,Bool.or_eq_false_iff] at h2
   simpa [zgf,hl',hl2,zfn,h2.1.1,h2.1.2,h2.2] using ho
 ·have ho:=one (zof hl)
  have : ¬ ((2 : Int) ≤ r.length + 1):=by simp only [List.length_cons] at hl; omega
  simpa [zgf,this] using ho
end Go.Proofs.Ytkdmpbhbmmhijaa
namespace Go.Proofs.Ytkdmpbhbmmhijaa
open Go Go.Abs
set_option maxRecDepth 4000
theorem zCI (b : UInt8) (r : List UInt8) (H : zaa) (K : AV → zaa → Prop) (hK : K (.int .i64 (sgn (b :: r))) H) : ACalls tP zni [.str (b :: r)] H K:=by
 refine ACalls.out (zE3 fun hs=>?_)
 have hO:=zcT (K:=K) (H:=H) (r:=.int .i64 (sgn (b :: r))) hs rfl rfl hK
 have one : zdo (b :: r) = false → zoQ (.str (b :: r)) (.str sgns) (.int .i64 0) H (Out H.length K):=by
  intro h2
  rw [zuq b r h2] at hO
  have hlen : sgns.length = 13:=rfl
  generalize sgns = ws at *
  refine zE1 (Inv:=fun q t4 H'=>∃ i : Nat,i ≤ ws.length ∧ q = ws.length - i ∧ t4 = .int .i64 i ∧ (ws.drop i).contains b = ws.contains b ∧ H' = H) ws.length ?_ ?_
  ·intro _; exact ⟨0,by omega,by omega,rfl,by simp,rfl⟩
  ·rintro q t8 H' ⟨i,hi,rfl,rfl,ho,rfl⟩ hsc _ hsF Kb hKb
   by_cases hlt : i < ws.length
   ·rw [List.drop_eq_getElem_cons hlt,List.contains_cons] at ho
    have e1:=zcv b ws[i]
    cases hz : (b == ws[i]) with
    | true=>
     rw [hz,Bool.true_or] at ho
     rw [← ho] at hO
     simpa [zjC,hlt,e1,hz] using hO
    | false=>
     rw [hz,Bool.false_or] at ho
     simp [zjC,hlt,e1,hz]
     rw [zaq (by omega) (by omega)]
     refine hKb _ _ ⟨ws.length - (i + 1),by omega,Back.here (Nat.le_refl _) hs ?_ ⟨_,rfl,i + 1,by omega,rfl,by simp,ho,rfl⟩⟩
     simp [zjD,AV.sc,AV.scV,AV.scA,AV.scB]
   ·obtain rfl : i = ws.length:=by omega
    rw [List.drop_length] at ho
    rw [← ho] at hO
    simpa [zjC,hlt] using hO
 by_cases hl : 2 ≤ (b :: r).length
 ·have hl' : (2 : Int) ≤ r.length + 1:=by simp only [List.length_cons] at hl; omega
  have hl2 : 1 ≤ r.length:=by simp only [List.length_cons] at hl; omega
  cases h2 : zdo (b :: r) with
  | true=>
   have h3 : sgn (b :: r) = 2:=by simp [sgn,h2]
   rw [h3] at hO
   unfold zdo at h2
   simp only [List.take_succ_cons] at h2 hO
   cases e1 : (b :: List.take 1 r == [45,62]) with
   | true=>simpa [zge,hl',hl2,e1] using hO
   | false=>
    cases e2 : (b :: List.take 1 r == [60,61]) with
    | true=>simpa [zge,hl',hl2,e1,e2] using hO
    | false=>
     rw [e1,e2] at h2
     simp only [Bool.false_or] at h2
     simpa [zge,hl',hl2,e1,e2,h2] using hO
  | false=>
   have ho:=one h2
   unfold sgns at ho
   unfold zdo at h2
   simp only [List.take_succ_cons] at h2
   rw [Bool.or_eq_false_iff,Bool.or_eq_false_iff] at h2
   simpa [zge,hl',hl2,h2.1.1,h2.1.2,h2.2] using ho
 ·have ho:=one (zof hl)
  unfold sgns at ho
  have : ¬ ((2 : Int) ≤ r.length + 1):=by simp only [List.length_cons] at hl; omega
  simpa [zge,this] using ho

def Tk.cs (t : Tk) : List AV:=[.int .i64 t.kind,.str t.text,.int .i64 t.pos]
def zi7 (kw : List UInt8 → Bool) (b : UInt8) (r : List UInt8) (i : Nat) : AV:=
 match tok kw b r with
 | .error e=>.tup [.agg [.int .i64 0,.str [],.int .i64 0],.int .i64 e]
 | .ok (k,n)=>.tup [.agg (Tk.cs ⟨k,(b :: r).take n,i⟩),.int .i64 0]
theorem zjb {p : UInt8 → Bool} (b : UInt8) (r : List UInt8) : (b :: r).take ((r.takeWhile p).length + 1) = b :: r.takeWhile p:=by
 rw [List.take_succ_cons]
 congr 1
 induction r with
 | nil=>simp
 | cons c r ih=>by_cases h : p c = true <;> simp [h,ih]
theorem zA2 : zcO tP zg1 = true:=by kernel_rfl
theorem zA3 : zcO tP zfa = true:=by kernel_rfl
theorem ztP {H J : zaa} {K : AV → zaa → Prop} {k p e : Int} {t : List UInt8} (hs : HSc H) (h : K (.tup [.agg [.int .i64 k,.str t,.int .i64 p],.int .i64 e]) H) :
  Out H.length K (.tup [.agg [.int .i64 k,.str t,.int .i64 p],.int .i64 e]) (H ++ J):=Out.tup hs h ⟨zcm rfl rfl,zcm rfl rfl,trivial⟩
def zjm (t4 t6 : AV) (H : zaa) (K : AV → zaa → Prop) : Prop:=
 zaf 1 t6 fun t69=>
 zae false 1 t69 H fun t70=>
 ACalls tP zg3 [t70] H fun t71 H=>
 aUn .not t71 fun t72=>
 zag t72
 (zaL [(.int .i64 0),(.str []),(.int .i64 0)] [(0,1),(1,1),(2,1)] [] fun t73=>
 zar 3 t4 t73 H fun H=>
 zae true 3 t4 H fun r0=>
 za6 [r0,(.int .i64 9)] (K · H))
 (zgd t4 t6 H K)
theorem zCz (s : List UInt8) (hl : s.length ≤ 1000000) (i : Nat) (hi : i < s.length) (H : zaa) (K : AV → zaa → Prop) (hK : K (zi7 (kwF kwds) s[i] (s.drop (i + 1)) i) H) : ACalls tP znh [.str s,.int .i64 i] H K:=by
 refine ACalls.out (zDW fun hs=>?_)
 have hdr:=List.drop_eq_getElem_cons hi
 have hrl : (s.drop i).length ≤ 1000000:=by simp; omega
 generalize hb : s[i] = b at *
 generalize hr : s.drop (i + 1) = r at *
 have hb' : s[i]?.getD 0 = b:=by simp [hi,hb]
 have post : ∀ (k : Int) (n : Nat),tok (kwF kwds) b r = .ok (k,n) → ∀ t,(b :: r).take n = t → zgd (.ptr H.length 0) (.ptr (H.length + 1) 0) (H ++ [.cells [.int .i64 0,.str [],.int .i64 0],.cells [.int .i64 k,.str t,.int .i64 i]]) (Out H.length K):=by
  intro k n ht t hte
  subst hte
  simp [zi7,ht,Tk.cs] at hK
  simp [zgd,zu3,AV.known,AV.isV]
  exact ztP hs hK
 have bad : ∀ e : Int,tok (kwF kwds) b r = .error e → ∀ J,Out H.length K (.tup [.agg [.int .i64 0,.str [],.int .i64 0],.int .i64 e]) (H ++ J):=by
  intro e ht J
  simp [zi7,ht] at hK
  exact ztP hs hK
 have hi':=Nat.le_of_lt hi
 by_cases hLU : (zbZ b || bUp b) = true
 ·have hin : bIn b = true:=by simp [bIn,hLU]
  simp [zoA,hi,hb,hi',zaL,zbD,AV.known]
  refine znc b _ _ ?_
  have hc : zbZ b = true ∨ (zbZ b = false ∧ bUp b = true):=by cases hL : zbZ b <;> simp [hL] at hLU ⊢; exact hLU
  have hpost:=fun k=>post k ((r.takeWhile bIn).length + 1)
  simp only [tok,hLU,if_true,zjb] at hpost
  rcases hc with hL | ⟨hL,hU⟩
  case' inl=>simp [hL]
  case' inr=>simp [hL]; refine zjg b _ _ ?_; simp [hU]
  all_goals
   rw [hdr]
   refine zt4 bIn zg1 zA2 zDQ (b :: r) (by rw [← hdr]; exact hrl) _ _ ?_
   simp [hin,AV.known]
   by_cases hn : (r.takeWhile bIn).length + 1 > 24
   ·have hn' : (24 : Int) < (r.takeWhile bIn).length + 1:=by omega
    have:=bad 9 (by simp only [tok,hLU,if_true]; rw [if_pos hn])
    simp [hn',AV.known,AV.isV]
    exact this _
   ·have hn' : ¬ (24 : Int) < (r.takeWhile bIn).length + 1:=by omega
    simp [hn']
    refine zjg b _ _ ?_
    rw [if_neg hn] at hpost
    cases hU : bUp b with
    | true=>
     simp [AV.known,zgc]
     exact hpost 2 (by simp [hU]) _ rfl
    | false=>
     simp [AV.known]
     refine zA0 _ _ _ ?_
     cases hkw : kwF kwds (b :: r.takeWhile bIn) with
     | true=>
      simp [AV.known,zgc]
      exact hpost 4 (by simp [hU,hkw]) _ rfl
     | false=>
      simp [AV.known,zgc]
      exact hpost 1 (by simp [hU,hkw]) _ rfl
 ·have hL : zbZ b = false:=by simp at hLU; exact hLU.1
  have hU : bUp b = false:=by simp at hLU; exact hLU.2
  simp [zoA,hi,hb,zaL,zbD,AV.known]
  refine znc b _ _ ?_
  simp [hL]
  refine zjg b _ _ ?_
  simp [hU]
  refine zmU b _ _ ?_
  cases hD : za3 b with
  | true=>
   simp [hi',AV.known]
   rw [hdr]
   refine zt4 za3 zfa zA3 zmU (b :: r) (by rw [← hdr]; exact hrl) _ _ ?_
   have e1 : ((b.toNat : Int) == 48) = (b == 48):=zcv b 48
   have htk : tok (kwF kwds) b r = if (b == 48 && decide ((r.takeWhile za3).length + 1 > 1)) = true then .error 2 else if zcc (b :: r.takeWhile za3) 0 = true then .ok (3,(r.takeWhile za3).length + 1) else .error 9:=by
    simp only [tok,hLU,hD,if_true,zjb]
    rfl
   have hsm : ∀ J,ACalls tP zg3 [.str (b :: r.takeWhile za3)] (H ++ J) fun t H'=>t = .bool (zcc (b :: r.takeWhile za3) 0) ∧ H' = H ++ J:=by
    intro J
    refine zCM _ ?_ ?_ _ _ ⟨rfl,rfl⟩
    ·intro c hc
     rcases List.mem_cons.1 hc with rfl | hc
     ·exact hD
     ·exact List.all_eq_true.1 (List.all_takeWhile) c hc
    ·have h1 : (r.takeWhile za3).length ≤ r.length:=(List.takeWhile_sublist _).length_le
     rw [hdr] at hrl
     simp at hrl ⊢
     omega
   simp [hD,AV.known,e1]
   have hpost:=post 3 ((r.takeWhile za3).length + 1)
   rw [zjb] at hpost
   rw [htk] at hpost bad
   have last : ∀ J,(¬ (b == 48 && decide ((r.takeWhile za3).length + 1 > 1)) = true) → J = [.cells [.int .i64 0,.str [],.int .i64 0],.cells [.int .i64 3,.str (b :: r.takeWhile za3),.int .i64 i]] → zjm (.ptr H.length 0) (.ptr (H.length + 1) 0) (H ++ J) (Out H.length K):=by
    rintro J hne rfl
    rw [if_neg hne] at hpost bad
    simp [zjm]
    refine (hsm _).mono ?_
    rintro _ _ ⟨rfl,rfl⟩
    cases hv : zcc (b :: r.takeWhile za3) 0 with
    | true=>
     simp
     exact hpost (by simp [hv]) _ rfl
    | false=>
     simp [AV.known,zaL,zbD,AV.isV]
     exact bad 9 (by simp [hv]) _
   cases hz : (b == 48) with
   | true=>
    simp [hz]
    by_cases hn : 1 < (r.takeWhile za3).length + 1
    ·have hn' : (1 : Int) < (r.takeWhile za3).length + 1:=by omega
     have hd : decide ((r.takeWhile za3).length + 1 > 1) = true:=decide_eq_true hn
     have:=bad 2 (by rw [hz,hd]; rfl)
     simp [hn',AV.known,AV.isV]
     exact this _
    ·have hn' : ¬ (1 : Int) < (r.takeWhile za3).length + 1:=by omega
     have hd : decide ((r.takeWhile za3).length + 1 > 1) = false:=decide_eq_false hn
     have:=last _ (by rw [hz,hd]; decide) rfl
     simp [zjm,zaL,zbD] at this
     simp [hn']
     exact this
   | false=>
    have:=last _ (by simp [hz]) rfl
    simp [zjm,zaL,zbD] at this
    simp [hz]
    exact this
  | false=>
   simp [hi',AV.known]
   rw [hdr]
   refine zCJ b r _ _ ?_
   simp [AV.known]
   have htk : tok (kwF kwds) b r = if sgn (b :: r) = 0 then .error 2 else .ok (5,sgn (b :: r)):=by
    simp only [tok,hLU,hD]
    rfl
   by_cases hz : sgn (b :: r) = 0
   ·have:=bad 2 (by rw [htk,if_pos hz])
    simp [hz,AV.isV]
    exact this _
   ·have:=post 5 (sgn (b :: r)) (by rw [htk,if_neg hz]) _ rfl
    have he : (List.take (sgn (b :: r)) (b :: r)).isEmpty = false:=by
     cases h : sgn (b :: r) with
     | zero=>exact absurd h hz
     | succ n=>simp
    simp [he]
    exact this
def cat (l : List Tk) : Except (Nat × Int) (List Tk) → Except (Nat × Int) (List Tk)
 | .error e=>.error e
 | .ok m=>.ok (l ++ m)
theorem zsy (l m : List Tk) (r : Except (Nat × Int) (List Tk)) : cat l (cat m r) = cat (l ++ m) r:=by cases r <;> simp [cat]
@[simp] theorem zR2 (r : Except (Nat × Int) (List Tk)) : cat [] r = r:=by cases r <;> rfl
def zem (r : List UInt8) : List UInt8:=r.dropWhile (· != 10)
def zen (r : List UInt8) : Nat:=(r.takeWhile (· != 10)).length
section
variable (kw : List UInt8 → Bool)
theorem zoq (p : Nat) : zbE kw [] p = .ok [⟨6,[],p⟩]:=by unfold zbE; rfl
theorem zuD {b : UInt8} (h : zdg b = true) (r : List UInt8) (p : Nat) : zbE kw (b :: r) p = zbE kw r (p + 1):=by
 conv=>lhs; unfold zbE
 simp [h]
theorem zuF {b : UInt8} (h0 : zdg b = false) (h : (b == 35) = true) (r : List UInt8) (p : Nat) : zbE kw (b :: r) p = zbE kw (zem r) (p + 1 + zen r):=by
 conv=>lhs; unfold zbE
 simp only [h0,h,Bool.false_eq_true,if_false,if_true]
 rfl
theorem zuE {b : UInt8} (h0 : zdg b = false) (h : (b == 35) = false) {r : List UInt8} {p : Nat} {e : Int} (ht : tok kw b r = .error e) : zbE kw (b :: r) p = .error (p,e):=by
 conv=>lhs; unfold zbE
 simp only [h0,h,Bool.false_eq_true,if_false,ht]
theorem zuG {b : UInt8} (h0 : zdg b = false) (h : (b == 35) = false) {r : List UInt8} {p : Nat} {k : Int} {n : Nat} (ht : tok kw b r = .ok (k,n)) :
  zbE kw (b :: r) p = cat [⟨k,(b :: r).take n,p⟩] (zbE kw ((b :: r).drop n) (p + n)):=by
 conv=>lhs; unfold zbE
 have hn:=zop ht
 obtain ⟨m,rfl⟩ : ∃ m,n = m + 1:=⟨n - 1,by omega⟩
 simp only [h0,h,Bool.false_eq_true,if_false,ht,Nat.add_sub_cancel,List.drop_succ_cons]
 cases zbE kw (r.drop m) (p + (m + 1)) <;> rfl
end
theorem zi9 {b : UInt8} (h : (b == 10) = false) (r : List UInt8) : zem (b :: r) = zem r ∧ zen (b :: r) = 1 + zen r:=by
 have hb : b ≠ 10:=by simpa using h
 constructor
 ·simp [zem,hb]
 ·simp [zen,hb]; omega
theorem zur {b : UInt8} (h : (b == 10) = true) (r : List UInt8) : zem (b :: r) = b :: r ∧ zen (b :: r) = 0:=by
 have hb : b = 10:=by simpa using h
 constructor
 ·simp [zem,hb]
 ·simp [zen,hb]
theorem skipC_nil : zem [] = [] ∧ zen [] = 0:=⟨rfl,rfl⟩
theorem zoo {kw : List UInt8 → Bool} {b : UInt8} {r : List UInt8} {k : Int} {n : Nat} (h : tok kw b r = .ok (k,n)) : n ≤ (b :: r).length:=by
 have tw : ∀ p : UInt8 → Bool,(r.takeWhile p).length ≤ r.length:=fun p=>(List.takeWhile_sublist _).length_le
 unfold tok at h
 split at h
 ·simp only at h; split at h <;> simp at h; have:=tw bIn; simp; omega
 ·split at h
  ·simp only at h; split at h
   ·simp at h
   ·split at h <;> simp at h; have:=tw za3; simp; omega
  ·simp only at h
   split at h <;> simp at h
   obtain ⟨_,rfl⟩:=h
   unfold sgn
   split
   ·rename_i h2
    by_cases hl : 2 ≤ (b :: r).length
    ·exact hl
    ·rw [zof hl] at h2; cases h2
   ·split
    ·simp
    ·split <;> simp
theorem zDq {kw : List UInt8 → Bool} {b : UInt8} {r : List UInt8} {e : Int} (h : tok kw b r = .error e) : e = 2 ∨ e = 9:=by
 unfold tok at h
 split at h
 ·simp only at h; split at h <;> simp at h; omega
 ·split at h
  ·simp only at h; split at h
   ·simp at h; omega
   ·split at h <;> simp at h; omega
  ·simp only at h
   split at h <;> simp at h; omega
def zeL (s : List UInt8) : AV:=
 if s.length > 16384 then .tup [.sl [] .none,.int .i64 0,.int .i64 9] else
 match zbE (kwF kwds) s 0 with
 | .error (p,e)=>.tup [.sl [] .none,.int .i64 p,.int .i64 e]
 | .ok l=>.tup [.sl (l.map Tk.cs) .none,.int .i64 0,.int .i64 0]
theorem two {H : zaa} {x y : AB} : H ++ [x,y] = (H ++ [x]) ++ [y]:=by simp
theorem ztO {H J : zaa} {K : AV → zaa → Prop} {p e : Int} (hs : HSc H) (hK : K (.tup [.sl [] .none,.int .i64 p,.int .i64 e]) H) : Out H.length K (.tup [.snil,.int .i64 p,.int .i64 e]) (H ++ J):=
 Out.tup hs hK ⟨zhg,zcm rfl rfl,zcm rfl rfl,trivial⟩
theorem zDg (s : List UInt8) (H : zaa) (K : AV → zaa → Prop) (hK : K (zeL s) H) : ACalls tP znK [.str s] H K:=by
 refine ACalls.out (zND fun hs=>?_)
 by_cases hl : s.length > 16384
 ·have hl' : (16384 : Int) < s.length:=by omega
  simp [zrm,hl',AV.isV]
  unfold zeL at hK
  rw [if_pos hl] at hK
  exact Out.tup0 hs hK ⟨zhg,zcm rfl rfl,zcm rfl rfl,trivial⟩
 have hl' : ¬ (16384 : Int) < s.length:=by omega
 unfold zeL at hK
 rw [if_neg hl] at hK
 simp [zrm,hl']
 have hperm : ∀ n,HSc (H ++ [.perm zeC 3 n]):=fun n=>hs.append rfl
 unfold zl0
 refine ALoop.own 5 zeC 3 rfl ?_
 show zl0 (.str s) (.sl [] (.own H.length)) (.int .i64 0) (H ++ [.perm zeC 3 0]) (Out H.length K)
 refine zNA (Inv:=fun q t5 t6 H'=>∃ (i : Nat) (l : List Tk),i ≤ s.length ∧ l.length ≤ i ∧ q = s.length - i ∧ t6 = .int .i64 i ∧ t5 = .sl (l.map Tk.cs) (.own H.length) ∧ H' = H ++ [.perm zeC 3 l.length] ∧ cat l (zbE (kwF kwds) (s.drop i) i) = zbE (kwF kwds) s 0) s.length ?_ ?_
 ·intro _; exact ⟨0,[],by omega,by simp,by omega,rfl,rfl,rfl,by simp⟩
 ·rintro q t5 t6 H' ⟨i,l,hi,hll,rfl,rfl,rfl,rfl,ho⟩ hsc hlen hsF Kb hKb
  have done : cat l (.ok [⟨6,[],s.length⟩]) = zbE (kwF kwds) s 0 → zlZ (.str s) (.sl (l.map Tk.cs) (.own H.length)) (H ++ [.perm zeC 3 l.length]) (Out H.length K):=by
   intro ho
   rw [← ho] at hK
   simp [zlZ,zyx,zaL,zbD,zav,zc1,zbn,AV.pd,zaC,zbq,za8,AV.isV]
   refine ⟨by omega,?_⟩
   simp [cat,Tk.cs] at hK
   exact Out.tup hs hK ⟨slV,zcm rfl rfl,zcm rfl rfl,trivial⟩
  by_cases hlt : i < s.length
  ·have hdr:=List.drop_eq_getElem_cons hlt
   simp [zrn,hlt]
   refine zzB _ _ _ ?_
   have e35 : ((s[i].toNat : Int) == 35) = (s[i] == 35):=zcv s[i] 35
   cases hbl : zdg s[i] with
   | true=>
    rw [hdr,zuD _ hbl] at ho
    simp [zgy]
    rw [zaq (by omega) (by omega)]
    refine hKb _ _ ⟨s.length - (i + 1),by omega,Back.here (by simp) (hperm _) ?_ ⟨_,_,rfl,i + 1,l,by omega,by omega,rfl,by simp,rfl,rfl,ho⟩⟩
    simp [zgx,AV.sc,AV.scV,AV.scA,AV.scB]
   | false=>
    simp [e35]
    cases hsh : (s[i] == 35) with
    | true=>
     simp
     rw [hdr,zuF _ hbl hsh] at ho
     have h10 : (s[i] == 10) = false:=by
      rw [beq_iff_eq] at hsh; rw [hsh]; rfl
     obtain ⟨c1,c2⟩:=zi9 h10 (s.drop (i + 1))
     rw [Nat.add_assoc,← c1,← c2,← hdr] at ho
     refine zNB (Inv:=fun q t6 H'=>∃ (j : Nat),i ≤ j ∧ j ≤ s.length ∧ q = s.length - j ∧ t6 = .int .i64 j ∧ H' = H ++ [.perm zeC 3 l.length] ∧ cat l (zbE (kwF kwds) (zem (s.drop j)) (j + zen (s.drop j))) = zbE (kwF kwds) s 0) (s.length - i) ?_ ?_
     ·intro _; exact ⟨i,by omega,by omega,by omega,rfl,rfl,ho⟩
     ·rintro q t6 H' ⟨j,hij,hj,rfl,rfl,rfl,ho⟩ hsc hlen hsF Kb9 hKb9
      by_cases hjlt : j < s.length
      ·have hdrj:=List.drop_eq_getElem_cons hjlt
       have e10 : ((s[j].toNat : Int) == 10) = (s[j] == 10):=zcv s[j] 10
       simp [zro,hjlt,e10]
       cases hz : (s[j] == 10) with
       | true=>
        obtain ⟨d1,d2⟩:=zur hz (s.drop (j + 1))
        rw [hdrj,d1,d2,← hdrj,Nat.add_zero] at ho
        have hij' : i ≠ j:=by rintro rfl; rw [h10] at hz; cases hz
        simp [zgy]
        refine hKb _ _ ⟨s.length - j,by omega,Back.here (by simp) (hperm _) ?_ ⟨_,_,rfl,j,l,by omega,by omega,rfl,by simp,rfl,rfl,ho⟩⟩
        simp [zgx,AV.sc,AV.scV,AV.scA,AV.scB]
       | false=>
        obtain ⟨d1,d2⟩:=zi9 hz (s.drop (j + 1))
        rw [hdrj,d1,d2,← Nat.add_assoc] at ho
        simp
        rw [zaq (by omega) (by omega)]
        refine hKb9 _ _ ⟨s.length - (j + 1),by omega,Back.here (by simp) (hperm _) ?_ ⟨_,rfl,j + 1,by omega,by omega,rfl,by simp,rfl,ho⟩⟩
        simp [zlY,AV.sc,AV.scV,AV.scA,AV.scB]
      ·obtain rfl : j = s.length:=by omega
       simp [zro]
       rw [List.drop_length,skipC_nil.1,skipC_nil.2,Nat.add_zero,zoq] at ho
       exact done ho
    | false=>
     simp
     refine zCz s (by omega) i hlt _ _ ?_
     unfold zi7
     cases ht : tok (kwF kwds) s[i] (s.drop (i + 1)) with
     | error e=>
      rw [hdr,zuE _ hbl hsh ht] at ho
      have he : (e != 0) = true:=by rcases zDq ht with rfl | rfl <;> rfl
      rw [← ho] at hK
      simp [AV.known,AV.isV,he]
      exact ztO hs hK
     | ok kn=>
      obtain ⟨k,n⟩:=kn
      rw [hdr,zuG _ hbl hsh ht,zsy,← hdr] at ho
      have hn:=zoo ht
      rw [← hdr] at hn
      simp at hn
      have hn0:=zop ht
      simp [Tk.cs,AV.known,zav,zc1,zbn,AV.pd,zaC,zbq,za8,zgy]
      refine ⟨by omega,?_⟩
      rw [show min n (s.length - i) = n by omega,zaq (by omega) (by omega),two]
      refine hKb _ _ ⟨s.length - (i + n),by omega,Back.same (by simp) (hperm _) ?_ ⟨_,_,rfl,i + n,l ++ [⟨k,(s.drop i).take n,i⟩],by omega,by simp; omega,rfl,by simp,by simp [Tk.cs],by simp,?_⟩⟩
      ·simp [zgx,AV.sc,AV.scV,AV.scA,AV.scB]
      ·rw [List.drop_drop] at ho; exact ho
  ·obtain rfl : i = s.length:=by omega
   rw [List.drop_length,zoq] at ho
   simpa [zrn] using done ho
end Go.Proofs.Ytkdmpbhbmmhijaa
namespace Go.Proofs.Ytkdmpbhbmmhijaa
open Go Go.Abs
set_option maxRecDepth 4000
set_option maxRecDepth 4000
theorem zjc (s : List UInt8) (i n : Nat) : List.drop i (List.take (i + n) s) = List.take n (List.drop i s):=by
 rw [List.drop_take]; congr 1; omega
def zgC (t0 t5 t6 t7 t8 : AV) (H : zaa) (K : AV → zaa → Prop) (Kb5 : List AV → zaa → Prop) : Prop:=
 zad .gtr false t8 (.int .i64 24) fun t118=>
 zag t118
 (za6 [.snil,t6,(.int .i64 9)] (K · H))
 (ACalls tP zfU [t7] H fun t121 H=>
 zag t121
 (zeV t0 t5 t6 t8 (.int .i64 2) H K Kb5)
 (zad .add false t6 t8 fun t126=>
 za2 0 0 t0 (some t6) (some t126) fun t127=>
 ACalls tP ziA [t127] H fun t128 H=>
 zag t128
 (zeV t0 t5 t6 t8 (.int .i64 4) H K Kb5)
 (zeV t0 t5 t6 t8 (.int .i64 1) H K Kb5)))
section
variable (s : List UInt8) (hl : ¬ s.length > 16384) (i : Nat) (hlt : i < s.length) (H : zaa) (l : List Tk) (hll : l.length ≤ i) (hperm : ∀ n,HSc (H ++ [.perm zbs 3 n])) (K : AV → zaa → Prop) (Kb : List AV → zaa → Prop)
include hl hlt hll hperm
theorem zDR (hLU : (zbZ s[i] || bUp s[i]) = true)
  (app : ∀ (k : Int) (n : Nat),tok (kwF kwds) s[i] (s.drop (i + 1)) = .ok (k,n) → ∀ t,(s.drop i).take n = t → zh3 (.str s) (.sl (l.map Tk.cs ++ [[.int .i64 k,.str t,.int .i64 i]]) (.own H.length)) (.int .i64 i) (.int .i64 n) (H ++ [.perm zbs 3 (l.length + 1)]) (Out H.length K) Kb)
  (bad : ∀ e : Int,tok (kwF kwds) s[i] (s.drop (i + 1)) = .error e → Out H.length K (.tup [.snil,.int .i64 i,.int .i64 e]) (H ++ [.perm zbs 3 l.length])) :
  zrP (.str s) (.sl (l.map Tk.cs) (.own H.length)) (.int .i64 i) (.int .u8 s[i].toNat) (.int .i64 1) (H ++ [.perm zbs 3 l.length]) (Out H.length K) Kb:=by
 refine zO5 (Inv:=fun q t8 H'=>∃ (j : Nat),i + j ≤ s.length ∧ 0 < j ∧ q = s.length - j ∧ t8 = .int .i64 j ∧ H' = H ++ [.perm zbs 3 l.length] ∧ j + ((s.drop (i + j)).takeWhile bIn).length = ((s.drop (i + 1)).takeWhile bIn).length + 1) (s.length - 1) ?_ ?_
 ·intro _; exact ⟨1,by omega,by omega,by omega,rfl,rfl,by omega⟩
 ·rintro q t8 H' ⟨j,hij,hj0,rfl,rfl,rfl,hn⟩ hsc hlen hsF Kb18 hKb18
  have w1 : IntKind.i64.wrap ((i : Int) + j) = i + j:=zaq (by omega) (by omega)
  have w2 : IntKind.i64.wrap ((j : Int) + 1) = j + 1:=zaq (by omega) (by omega)
  have fin : ((s.drop (i + j)).takeWhile bIn).length = 0 → zgC (.str s) (.sl (l.map Tk.cs) (.own H.length)) (.int .i64 i) (.int .u8 s[i].toNat) (.int .i64 j) (H ++ [.perm zbs 3 l.length]) (Out H.length K) Kb:=by
   intro h0
   rw [h0] at hn
   have htk : tok (kwF kwds) s[i] (s.drop (i + 1)) = if j > 24 then .error 9 else .ok (if bUp s[i] = true then 2 else if kwF kwds ((s.drop i).take j) = true then 4 else 1,j):=by
    rw [List.drop_eq_getElem_cons hlt]
    simp only [tok,hLU,if_true,← hn,Nat.add_zero]
   by_cases h24 : j > 24
   ·have h24' : (24 : Int) < j:=by omega
    rw [if_pos h24] at htk
    simp [zgC,h24',AV.isV]
    exact bad 9 htk
   ·have h24' : ¬ (24 : Int) < j:=by omega
    rw [if_neg h24] at htk
    simp [zgC,h24']
    refine zjf _ _ _ ?_
    have fin2 : ∀ k,k = (if bUp s[i] = true then 2 else if kwF kwds ((s.drop i).take j) = true then 4 else 1 : Int) → zeV (.str s) (.sl (l.map Tk.cs) (.own H.length)) (.int .i64 i) (.int .i64 j) (.int .i64 k) (H ++ [.perm zbs 3 l.length]) (Out H.length K) Kb:=by
     intro k hk
     rw [← hk] at htk
     have:=app k j htk _ rfl
     simp [zeV,w1,w2,zaL,zbD,zav,zc1,zbn,AV.pd,zaC,zbq,za8,zeW]
     refine ⟨by omega,by omega,by omega,?_⟩
     rw [show ((i : Int) + j).toNat = i + j by omega,zjc]
     exact this
    cases hU : bUp s[i] with
    | true=>simp; exact fin2 2 (by simp [hU])
    | false=>
     simp [w1,w2]
     refine ⟨by omega,by omega,?_⟩
     rw [show ((i : Int) + j).toNat = i + j by omega,zjc]
     refine zA1 _ _ _ ?_
     cases hkw : kwF kwds ((s.drop i).take j) with
     | true=>simp; exact fin2 4 (by simp [hU,hkw])
     | false=>simp; exact fin2 1 (by simp [hU,hkw])
  by_cases hjlt : i + j < s.length
  ·have e95 : ((s[i + j].toNat : Int) == 95) = (s[i + j] == 95):=zcv s[i + j] 95
   have hjlt' : (i + j : Int) < s.length:=by omega
   rw [List.drop_eq_getElem_cons hjlt,List.takeWhile_cons] at hn fin
   have key : bIn s[i + j] = true → Kb18 (zh2 (.str s) (.sl (l.map Tk.cs) (.own H.length)) (.int .i64 i) (.int .u8 s[i].toNat) (.int .i64 (j + 1))) (H ++ [.perm zbs 3 l.length]):=by
    intro hbin
    rw [hbin] at hn
    simp at hn
    refine hKb18 _ _ ⟨s.length - (j + 1),by omega,Back.here (by simp) (hperm _) ?_ ⟨_,rfl,j + 1,by omega,by omega,rfl,by simp,rfl,by rw [← Nat.add_assoc]; omega⟩⟩
    simp [zh2,AV.sc,AV.scV,AV.scA,AV.scB]
   have no : bIn s[i + j] = false → zgC (.str s) (.sl (l.map Tk.cs) (.own H.length)) (.int .i64 i) (.int .u8 s[i].toNat) (.int .i64 j) (H ++ [.perm zbs 3 l.length]) (Out H.length K) Kb:=by
    intro hbin
    rw [hbin] at fin
    exact fin (by simp)
   have hget : s[((i : Int) + j).toNat]?.getD 0 = s[i + j]:=by
    rw [show ((i : Int) + j).toNat = i + j by omega]
    simp [hjlt]
   unfold bIn at key no
   simp [zrM,w1,w2,hjlt',hget]
   refine ⟨by omega,?_⟩
   refine ztp _ _ _ ?_
   cases hL : zbZ s[i + j] with
   | true=>simpa using key (by simp [hL])
   | false=>
    simp [w1,w2,hjlt',hget]
    refine ⟨by omega,zjf _ _ _ ?_⟩
    cases hU : bUp s[i + j] with
    | true=>simpa using key (by simp [hU])
    | false=>
     simp [w1,w2,hjlt',hget]
     refine ⟨by omega,zmT _ _ _ ?_⟩
     cases hD : za3 s[i + j] with
     | true=>simpa using key (by simp [hD])
     | false=>
      simp [w1,w2,hjlt',hget,e95]
      refine ⟨by omega,?_⟩
      cases h95 : (s[i + j] == 95) with
      | true=>simpa using key (by simp [h95])
      | false=>simpa [zgC,w1] using no (by simp [hL,hU,hD,h95])
  ·have hjlt' : ¬ (i + j : Int) < s.length:=by omega
   have : s.drop (i + j) = []:=List.drop_eq_nil_of_le (by omega)
   rw [this] at fin
   have:=fin rfl
   simp [zrM,w1,w2,hjlt']
   simpa [zgC,w1] using this
end
def zmi (t0 t5 t6 t8 : AV) (H : zaa) (K : AV → zaa → Prop) (Kb5 : List AV → zaa → Prop) : Prop:=
 zad .add false t6 t8 fun t172=>
 za2 0 0 t0 (some t6) (some t172) fun t173=>
 ACalls tP zfV [t173] H fun t174 H=>
 zbb t174 0 fun t175=>
 zbb t174 1 fun t176=>
 aUn .not t176 fun t178=>
 zag t178
 (za6 [.snil,t6,(.int .i64 9)] (K · H))
 (zad .add false t6 t8 fun t185=>
 za2 0 0 t0 (some t6) (some t185) fun t186=>
 zaL [(.int .i64 0),(.str []),(.int .i64 0)] [(0,1),(1,1),(2,1)] [(0,(.int .i64 3)),(1,t186),(2,t6)] fun t188=>
 zav 3 [(.int .i64 0),(.str []),(.int .i64 0)] 1 [(0,t188)] fun t189=>
 zaC zbs 3 32 t5 t189 H fun t190 H=>
 zeW t0 t190 t6 t8 H K Kb5)
def zgD (t0 t5 t6 t7 t8 : AV) (H : zaa) (K : AV → zaa → Prop) (Kb5 : List AV → zaa → Prop) : Prop:=
 zad .gtr false t8 (.int .i64 1) fun t161=>
 zab t161 true H (fun K'=>K' t7 H) fun t163 H=>
 zab t161 true H (fun K'=>zad .eql false t163 (.int .u8 48) (K' · H)) fun t164 H=>
 zah t161 t164 (.bool false) fun t165=>
 zag t165
 (za6 [.snil,t6,(.int .i64 2)] (K · H))
 (zad .add false t6 t8 fun t172=>
 za2 0 0 t0 (some t6) (some t172) fun t173=>
 ACalls tP zfV [t173] H fun t174 H=>
 zbb t174 0 fun t175=>
 zbb t174 1 fun t176=>
 aUn .not t176 fun t178=>
 zag t178
 (za6 [.snil,t6,(.int .i64 9)] (K · H))
 (zad .add false t6 t8 fun t185=>
 za2 0 0 t0 (some t6) (some t185) fun t186=>
 zaL [(.int .i64 0),(.str []),(.int .i64 0)] [(0,1),(1,1),(2,1)] [(0,(.int .i64 3)),(1,t186),(2,t6)] fun t188=>
 zav 3 [(.int .i64 0),(.str []),(.int .i64 0)] 1 [(0,t188)] fun t189=>
 zaC zbs 3 32 t5 t189 H fun t190 H=>
 zeW t0 t190 t6 t8 H K Kb5))
section
variable (s : List UInt8) (hl : ¬ s.length > 16384) (i : Nat) (hlt : i < s.length) (H : zaa) (l : List Tk) (hll : l.length ≤ i) (hperm : ∀ n,HSc (H ++ [.perm zbs 3 n])) (K : AV → zaa → Prop) (Kb : List AV → zaa → Prop)
include hl hlt hll hperm
theorem zBf (hLU : ¬ (zbZ s[i] || bUp s[i]) = true) (hD : za3 s[i] = true)
  (app : ∀ (k : Int) (n : Nat),tok (kwF kwds) s[i] (s.drop (i + 1)) = .ok (k,n) → ∀ t,(s.drop i).take n = t → zh3 (.str s) (.sl (l.map Tk.cs ++ [[.int .i64 k,.str t,.int .i64 i]]) (.own H.length)) (.int .i64 i) (.int .i64 n) (H ++ [.perm zbs 3 (l.length + 1)]) (Out H.length K) Kb)
  (bad : ∀ e : Int,tok (kwF kwds) s[i] (s.drop (i + 1)) = .error e → Out H.length K (.tup [.snil,.int .i64 i,.int .i64 e]) (H ++ [.perm zbs 3 l.length])) :
  zrQ (.str s) (.sl (l.map Tk.cs) (.own H.length)) (.int .i64 i) (.int .u8 s[i].toNat) (.int .i64 1) (H ++ [.perm zbs 3 l.length]) (Out H.length K) Kb:=by
 refine zO6 (Inv:=fun q t8 H'=>∃ (j : Nat),i + j ≤ s.length ∧ 0 < j ∧ q = s.length - j ∧ t8 = .int .i64 j ∧ H' = H ++ [.perm zbs 3 l.length] ∧ j + ((s.drop (i + j)).takeWhile za3).length = ((s.drop (i + 1)).takeWhile za3).length + 1) (s.length - 1) ?_ ?_
 ·intro _; exact ⟨1,by omega,by omega,by omega,rfl,rfl,by omega⟩
 ·rintro q t8 H' ⟨j,hij,hj0,rfl,rfl,rfl,hn⟩ hsc hlen hsF Kb18 hKb18
  have w1 : IntKind.i64.wrap ((i : Int) + j) = i + j:=zaq (by omega) (by omega)
  have w2 : IntKind.i64.wrap ((j : Int) + 1) = j + 1:=zaq (by omega) (by omega)
  have e48 : ((s[i].toNat : Int) == 48) = (s[i] == 48):=zcv s[i] 48
  have fin : ((s.drop (i + j)).takeWhile za3).length = 0 → zgD (.str s) (.sl (l.map Tk.cs) (.own H.length)) (.int .i64 i) (.int .u8 s[i].toNat) (.int .i64 j) (H ++ [.perm zbs 3 l.length]) (Out H.length K) Kb:=by
   intro h0
   rw [h0] at hn
   have hdj : (s.drop i).take j = s[i] :: (s.drop (i + 1)).takeWhile za3:=by
    rw [List.drop_eq_getElem_cons hlt,show j = ((s.drop (i + 1)).takeWhile za3).length + 1 by omega,zjb]
   have htk : tok (kwF kwds) s[i] (s.drop (i + 1)) = if (s[i] == 48 && decide (j > 1)) = true then .error 2 else if zcc ((s.drop i).take j) 0 = true then .ok (3,j) else .error 9:=by
    rw [List.drop_eq_getElem_cons hlt]
    simp only [tok,hLU,hD,if_true,← hn,Nat.add_zero]
    rfl
   have hval : ∀ (K : AV → zaa → Prop) (H : zaa),(∀ n,K (.tup [.int .i64 n,.bool (zcc ((s.drop i).take j) 0)]) H) → ACalls tP zfV [.str ((s.drop i).take j)] H K:=by
    intro K H hK
    refine zDD _ ?_ (by simp; omega) _ _ hK
    intro c hc
    rw [hdj] at hc
    rcases List.mem_cons.1 hc with rfl | hc
    ·exact hD
    ·exact List.all_eq_true.1 (List.all_takeWhile) c hc
   have rest : ¬ (s[i] == 48 && decide (j > 1)) = true → zmi (.str s) (.sl (l.map Tk.cs) (.own H.length)) (.int .i64 i) (.int .i64 j) (H ++ [.perm zbs 3 l.length]) (Out H.length K) Kb:=by
    intro hne
    rw [if_neg hne] at htk
    simp [zmi,w1]
    refine ⟨by omega,by omega,?_⟩
    rw [show ((i : Int) + j).toNat = i + j by omega,zjc]
    refine hval _ _ fun n=>?_
    cases hv : zcc ((s.drop i).take j) 0 with
    | false=>
     rw [hv] at htk
     simp [AV.isV]
     exact bad 9 htk
    | true=>
     rw [hv] at htk
     have:=app 3 j htk _ rfl
     simp [zaL,zbD,zav,zc1,zbn,AV.pd,zaC,zbq,za8,zeW]
     refine ⟨by omega,by omega,by omega,?_⟩
     exact this
   by_cases h1 : j > 1
   ·have h1' : (1 : Int) < j:=by omega
    have hd : decide (j > 1) = true:=decide_eq_true h1
    rw [hd] at rest htk
    cases hz : (s[i] == 48) with
    | true=>
     rw [hz] at htk
     simp [zgD,h1',e48,hz,AV.isV]
     exact bad 2 htk
    | false=>
     have:=rest (by rw [hz]; decide)
     simp [zgD,h1',e48,hz]
     simpa [zmi] using this
   ·have h1' : ¬ (1 : Int) < j:=by omega
    have:=rest (by rw [decide_eq_false h1]; simp)
    simp [zgD,h1']
    simpa [zmi] using this
  by_cases hjlt : i + j < s.length
  ·have hjlt' : (i + j : Int) < s.length:=by omega
   rw [List.drop_eq_getElem_cons hjlt,List.takeWhile_cons] at hn fin
   have hget : s[((i : Int) + j).toNat]?.getD 0 = s[i + j]:=by
    rw [show ((i : Int) + j).toNat = i + j by omega]
    simp [hjlt]
   simp [zrN,w1,w2,hjlt',hget]
   refine ⟨by omega,?_⟩
   refine zmT _ _ _ ?_
   cases hb : za3 s[i + j] with
   | true=>
    rw [hb] at hn
    simp at hn
    simp [w1,w2]
    refine hKb18 _ _ ⟨s.length - (j + 1),by omega,Back.here (by simp) (hperm _) ?_ ⟨_,rfl,j + 1,by omega,by omega,rfl,by simp,rfl,by rw [← Nat.add_assoc]; omega⟩⟩
    simp [zmk,AV.sc,AV.scV,AV.scA,AV.scB]
   | false=>
    rw [hb] at fin
    have:=fin (by simp)
    simp [w1,w2]
    simpa [zgD,w1] using this
  ·have hjlt' : ¬ (i + j : Int) < s.length:=by omega
   have : s.drop (i + j) = []:=List.drop_eq_nil_of_le (by omega)
   rw [this] at fin
   have:=fin rfl
   simp [zrN,w1,w2,hjlt']
   simpa [zgD,w1] using this
end
theorem zDh (s : List UInt8) (H : zaa) (K : AV → zaa → Prop) (hK : K (zeL s) H) : ACalls tP znQ [.str s] H K:=by
 refine ACalls.out (zPb fun hs=>?_)
 by_cases hl : s.length > 16384
 ·have hl' : (16384 : Int) < s.length:=by omega
  simp [zrK,hl',AV.isV]
  unfold zeL at hK
  rw [if_pos hl] at hK
  exact Out.tup0 hs hK ⟨zhg,zcm rfl rfl,zcm rfl rfl,trivial⟩
 have hl' : ¬ (16384 : Int) < s.length:=by omega
 unfold zeL at hK
 rw [if_neg hl] at hK
 simp [zrK,hl']
 have hperm : ∀ n,HSc (H ++ [.perm zbs 3 n]):=fun n=>hs.append rfl
 unfold zml
 refine ALoop.own 5 zbs 3 rfl ?_
 show zml (.str s) (.sl [] (.own H.length)) (.int .i64 0) (H ++ [.perm zbs 3 0]) (Out H.length K)
 refine zO7 (Inv:=fun q t5 t6 H'=>∃ (i : Nat) (l : List Tk),i ≤ s.length ∧ l.length ≤ i ∧ q = s.length - i ∧ t6 = .int .i64 i ∧ t5 = .sl (l.map Tk.cs) (.own H.length) ∧ H' = H ++ [.perm zbs 3 l.length] ∧ cat l (zbE (kwF kwds) (s.drop i) i) = zbE (kwF kwds) s 0) s.length ?_ ?_
 ·intro _; exact ⟨0,[],by omega,by simp,by omega,rfl,rfl,rfl,by simp⟩
 ·rintro q t5 t6 H' ⟨i,l,hi,hll,rfl,rfl,rfl,rfl,ho⟩ hsc hlen hsF Kb hKb
  by_cases hlt : i < s.length
  ·have hdr:=List.drop_eq_getElem_cons hlt
   have e9 : ((s[i].toNat : Int) == 9) = (s[i] == 9):=zcv s[i] 9
   have e10 : ((s[i].toNat : Int) == 10) = (s[i] == 10):=zcv s[i] 10
   have e13 : ((s[i].toNat : Int) == 13) = (s[i] == 13):=zcv s[i] 13
   have e32 : ((s[i].toNat : Int) == 32) = (s[i] == 32):=zcv s[i] 32
   have e35 : ((s[i].toNat : Int) == 35) = (s[i] == 35):=zcv s[i] 35
   cases hbl : zdg s[i] with
   | true=>
    rw [hdr,zuD _ hbl] at ho
    have key : zeU (.str s) (.sl (l.map Tk.cs) (.own H.length)) (.int .i64 (IntKind.i64.wrap (i + 1))) (H ++ [.perm zbs 3 l.length]) (Out H.length K) Kb:=by
     simp [zeU]
     rw [zaq (by omega) (by omega)]
     refine hKb _ _ ⟨s.length - (i + 1),by omega,Back.here (by simp) (hperm _) ?_ ⟨_,_,rfl,i + 1,l,by omega,by omega,rfl,by simp,rfl,rfl,ho⟩⟩
     simp [zfK,AV.sc,AV.scV,AV.scA,AV.scB]
    unfold zdg at hbl
    cases h9 : (s[i] == 9) <;> cases h10 : (s[i] == 10) <;> cases h13 : (s[i] == 13) <;> cases h32 : (s[i] == 32) <;> simp [h9,h10,h13,h32] at hbl <;> simpa [zmh,hlt,e9,e10,e13,e32,h9,h10,h13,h32] using key
   | false=>
    have hbl':=hbl
    unfold zdg at hbl'
    simp only [Bool.or_eq_false_iff] at hbl'
    obtain ⟨⟨⟨h9,h10⟩,h13⟩,h32⟩:=hbl'
    have app : ∀ (k : Int) (n : Nat),tok (kwF kwds) s[i] (s.drop (i + 1)) = .ok (k,n) → (s[i] == 35) = false → ∀ t,(s.drop i).take n = t → zh3 (.str s) (.sl (l.map Tk.cs ++ [[.int .i64 k,.str t,.int .i64 i]]) (.own H.length)) (.int .i64 i) (.int .i64 n) (H ++ [.perm zbs 3 (l.length + 1)]) (Out H.length K) Kb:=by
     intro k n ht hsh t hte
     subst hte
     rw [hdr,zuG _ hbl hsh ht,zsy,← hdr] at ho
     have hn:=zoo ht
     rw [← hdr] at hn
     simp at hn
     have hn0:=zop ht
     simp [zh3,zeU]
     rw [zaq (by omega) (by omega)]
     refine hKb _ _ ⟨s.length - (i + n),by omega,Back.here (by simp) (hperm _) ?_ ⟨_,_,rfl,i + n,l ++ [⟨k,(s.drop i).take n,i⟩],by omega,by simp; omega,rfl,by simp,by simp [Tk.cs],by simp,?_⟩⟩
     ·simp [zfK,AV.sc,AV.scV,AV.scA,AV.scB]
     ·rw [List.drop_drop] at ho; exact ho
    have bad : ∀ e : Int,tok (kwF kwds) s[i] (s.drop (i + 1)) = .error e → (s[i] == 35) = false → Out H.length K (.tup [.snil,.int .i64 i,.int .i64 e]) (H ++ [.perm zbs 3 l.length]):=by
     intro e ht hsh
     rw [hdr,zuE _ hbl hsh ht] at ho
     rw [← ho] at hK
     exact ztO hs hK
    simp [zmh,hlt,e9,e10,e13,e32,e35,h9,h10,h13,h32]
    cases hsh : (s[i] == 35) with
    | true=>
     simp
     rw [hdr,zuF _ hbl hsh] at ho
     obtain ⟨c1,c2⟩:=zi9 h10 (s.drop (i + 1))
     rw [Nat.add_assoc,← c1,← c2,← hdr] at ho
     refine zO4 (Inv:=fun q t6 H'=>∃ (j : Nat),i ≤ j ∧ j ≤ s.length ∧ q = s.length - j ∧ t6 = .int .i64 j ∧ H' = H ++ [.perm zbs 3 l.length] ∧ cat l (zbE (kwF kwds) (zem (s.drop j)) (j + zen (s.drop j))) = zbE (kwF kwds) s 0) (s.length - i) ?_ ?_
     ·intro _; exact ⟨i,by omega,by omega,by omega,rfl,rfl,ho⟩
     ·rintro q t6 H' ⟨j,hij,hj,rfl,rfl,rfl,ho⟩ hsc hlen hsF Kb9 hKb9
      by_cases hjlt : j < s.length
      ·have hdrj:=List.drop_eq_getElem_cons hjlt
       have e10 : ((s[j].toNat : Int) != 10) = !(s[j] == 10):=by rw [← zcv s[j] 10]; rfl
       simp [zrL,hjlt,e10]
       cases hz : (s[j] == 10) with
       | true=>
        obtain ⟨d1,d2⟩:=zur hz (s.drop (j + 1))
        rw [hdrj,d1,d2,← hdrj,Nat.add_zero] at ho
        have hij' : i ≠ j:=by rintro rfl; rw [h10] at hz; cases hz
        simp [zeU]
        refine hKb _ _ ⟨s.length - j,by omega,Back.here (by simp) (hperm _) ?_ ⟨_,_,rfl,j,l,by omega,by omega,rfl,by simp,rfl,rfl,ho⟩⟩
        simp [zfK,AV.sc,AV.scV,AV.scA,AV.scB]
       | false=>
        obtain ⟨d1,d2⟩:=zi9 hz (s.drop (j + 1))
        rw [hdrj,d1,d2,← Nat.add_assoc] at ho
        simp
        rw [zaq (by omega) (by omega)]
        refine hKb9 _ _ ⟨s.length - (j + 1),by omega,Back.here (by simp) (hperm _) ?_ ⟨_,rfl,j + 1,by omega,by omega,rfl,by simp,rfl,ho⟩⟩
        simp [zmj,AV.sc,AV.scV,AV.scA,AV.scB]
      ·obtain rfl : j = s.length:=by omega
       simp [zrL,zeU]
       rw [List.drop_length,skipC_nil.1,skipC_nil.2,Nat.add_zero] at ho
       refine hKb _ _ ⟨0,by omega,Back.here (by simp) (hperm _) ?_ ⟨_,_,rfl,s.length,l,by omega,by omega,by omega,by simp,rfl,rfl,by rw [List.drop_length]; exact ho⟩⟩
       simp [zfK,AV.sc,AV.scV,AV.scA,AV.scB]
    | false=>
     replace app:=fun k n h=>app k n h hsh
     replace bad:=fun e h=>bad e h hsh
     simp
     refine ztp _ _ _ ?_
     by_cases hLU : (zbZ s[i] || bUp s[i]) = true
     ·have hc : zbZ s[i] = true ∨ (zbZ s[i] = false ∧ bUp s[i] = true):=by cases hL : zbZ s[i] <;> simp [hL] at hLU ⊢; exact hLU
      rcases hc with hL | ⟨hL,hU⟩
      case' inl=>simp [hL]
      case' inr=>simp [hL]; refine zjf _ _ _ ?_; simp [hU]
      all_goals exact zDR s hl i hlt H l hll hperm K Kb hLU app bad
     ·have hL : zbZ s[i] = false:=by simp at hLU; exact hLU.1
      have hU : bUp s[i] = false:=by simp at hLU; exact hLU.2
      simp [hL]
      refine zjf _ _ _ ?_
      simp [hU]
      refine zmT _ _ _ ?_
      cases hD : za3 s[i] with
      | true=>
       simp
       exact zBf s hl i hlt H l hll hperm K Kb hLU hD app bad
      | false=>
       simp
       refine ⟨by omega,?_⟩
       have htk : tok (kwF kwds) s[i] (s.drop (i + 1)) = if sgn (s.drop i) = 0 then .error 2 else .ok (5,sgn (s.drop i)):=by
        simp only [tok,hLU,hD,hdr]
        rfl
       rw [hdr]
       refine zCI _ _ _ _ ?_
       rw [← hdr]
       by_cases hz : sgn (s.drop i) = 0
       ·simp [hz,AV.isV]
        exact bad 2 (by rw [htk,if_pos hz])
       ·have hz' : ((sgn (s.drop i) : Int) == 0) = false:=by simpa using hz
        have ht:=htk
        rw [if_neg hz] at ht
        have hn:=zoo ht
        rw [← hdr] at hn
        simp at hn
        have:=app 5 (sgn (s.drop i)) ht _ rfl
        simp [hz']
        rw [zaq (by omega) (by omega)]
        simp [zaL,zbD,zav,zc1,zbn,AV.pd,zaC,zbq,za8,zeW]
        refine ⟨by omega,by omega,by omega,?_⟩
        rw [show ((i : Int) + (sgn (s.drop i) : Int)).toNat = i + sgn (s.drop i) by omega,zjc]
        exact this
  ·obtain rfl : i = s.length:=by omega
   rw [List.drop_length,zoq] at ho
   rw [← ho] at hK
   simp [zmh,zaL,zbD,zav,zc1,zbn,AV.pd,zaC,zbq,za8,AV.isV]
   refine ⟨by omega,?_⟩
   simp [cat,Tk.cs] at hK
   exact Out.tup hs hK ⟨slV,zcm rfl rfl,zcm rfl rfl,trivial⟩
end Go.Proofs.Ytkdmpbhbmmhijaa
