import Derived.Test.YtkdmpbhbmmhijaaKY10
import Derived.Test.YtkdmpbhbmmhijaaAbsQ1
import Derived.Test.YtkdmpbhbmmhijaaKNum
import Derived.Test.YtkdmpbhbmmhijaaProg
import Derived.KernelRfl
set_option linter.unusedSimpArgs false
set_option linter.unusedVariables false
namespace Go.Proofs.Ytkdmpbhbmmhijaa
open Go Go.Abs
set_option maxRecDepth 8000
def zcW (args : List VT) (i : Nat) : List AV:=(args.take i).map (fun x=>.int .i64 x.nodes) ++ List.replicate (args.length - i) (.int .i64 0)
theorem zCK (args : List VT) {i : Nat} (h : i ≤ args.length) : (zcW args i).length = args.length:=by simp [zcW]; omega
theorem zCL (args : List VT) {i : Nat} (h : i < args.length) : (zcW args i).take i ++ [.int .i64 (args[i]).nodes] ++ (zcW args i).drop (i + 1) = zcW args (i + 1):=by
 have e1 : ((args.take i).map fun x=>AV.int .i64 x.nodes).length = i:=by simp; omega
 unfold zcW
 rw [List.take_append_of_le_length (by omega),List.take_of_length_le (by omega),List.drop_append,List.drop_of_length_le (by omega),List.nil_append,e1,List.take_succ_eq_append_getElem h,List.map_append]
 congr 1
 rw [show i + 1 - i = 1 by omega,List.drop_replicate]
 congr 1
theorem zEg (data : List Dat) (hdl : data.length ≤ 1000000) (hda : ∀ d ∈ data,∀ c ∈ d.cons,c.args.length ≤ 1000 ∧ ∀ x ∈ c.args,x.nodes ≤ 1000) (hdc : ∀ d ∈ data,d.cons.length ≤ 1000000) (t : VT) (ht : t.nodes ≤ 1000) (c : Int) (H : zaa) (K : AV → zaa → Prop) (hK : K (zcA (zbx data t c)) H) :
  ACalls tP zgX [.sl (data.map Dat.cs) .none,.agg t.cs,.int .i64 c] H K:=by
 refine ACalls.out (zEf fun hs=>?_)
 obtain ⟨k,n,ks⟩:=t
 have hkn : VT.nodesL ks + 1 ≤ 1000:=by simpa [VT.nodes] using ht
 have hkl:=VT.len_le ks
 have hF : zbx data (.mk k n ks) c = none → ∀ J,Out H.length K (.tup [.snil,.bool false]) (H ++ J):=fun h J=>by
  rw [h] at hK
  exact Out.tup hs hK ⟨zhg,zcm rfl rfl,trivial⟩
 simp only [VT.cs,zu6]
 by_cases h5 : k = 5
 case neg=>
  have : (k != 5) = true:=by simpa using h5
  simp [this,AV.isV]
  exact hF (by rw [zdk,if_neg (fun h=>h5 h.1)]) _
 subst h5
 by_cases h0 : n < 0
 ·simp [h0,AV.isV]
  exact hF (by rw [zdk,if_neg (fun h=>by have:=h.2.1; omega)]) _
 by_cases h1 : (data.length : Int) ≤ n
 ·simp [h0,h1,AV.isV]
  exact hF (by
   rw [zdk]
   split
   ·rw [List.getElem?_eq_none (by omega)]
   ·rfl) _
 have hn : n.toNat < data.length:=by omega
 have h1' : n < data.length:=by omega
 have h0' : 0 ≤ n:=by omega
 generalize hdd : data[n.toNat] = d at *
 have hd : d ∈ data:=by rw [← hdd]; exact List.getElem_mem hn
 have hget : data[n.toNat]? = some d:=by rw [List.getElem?_eq_getElem hn,hdd]
 cases hv : ((ks.length : Int) == d.vars) with
 | false=>
  have hv' : ((ks.length : Int) != d.vars) = true:=by simp [bne,hv]
  simp [h0,h1,h0',h1',hn,hdd,Dat.cs,hv',AV.isV,hget]
  exact hF (by
   rw [zdk]
   split
   ·rw [hget]
    simp only
    rw [if_neg (by simpa using hv)]
   ·rfl) _
 | true=>
 have hv' : ((ks.length : Int) != d.vars) = false:=by simp [bne,hv]
 have hve : (ks.length : Int) = d.vars:=by simpa using hv
 by_cases hc0 : c < 0
 ·simp [h0,h1,h0',h1',hn,hdd,Dat.cs,hv',AV.isV,hget,hc0]
  exact hF (by rw [zdk,if_neg (fun h=>by have:=h.2.2; omega)]) _
 have hfe : ∀ o,(match d.cons[c.toNat]? with | some k=>if (k.args.map (subst ks)).all (fun x=>decide (x.nodes ≤ 200)) = true then some (k.args.map (subst ks)) else none | none=>none) = o → zbx data (.mk 5 n ks) c = o:=fun o h=>by
  rw [zdk,if_pos ⟨rfl,h0',by omega⟩,hget]
  simp only
  rw [if_pos hve]
  exact h
 by_cases hc1 : (d.cons.length : Int) ≤ c
 ·simp [h0,h1,h0',h1',hn,hdd,Dat.cs,hv',AV.isV,hget,hc0,hc1]
  exact hF (hfe none (by rw [List.getElem?_eq_none (by omega)])) _
 have hcn : c.toNat < d.cons.length:=by omega
 have hc1' : c < d.cons.length:=by omega
 have hc0' : 0 ≤ c:=by omega
 generalize hcc : d.cons[c.toNat] = co at *
 have hco : co ∈ d.cons:=by rw [← hcc]; exact List.getElem_mem hcn
 have hgc : d.cons[c.toNat]? = some co:=by rw [List.getElem?_eq_getElem hcn,hcc]
 obtain ⟨hal,han⟩:=hda d hd co hco
 have hfe':=fun o=>hfe o
 rw [hgc] at hfe'
 simp only at hfe'
 have hkle : ∀ x ∈ ks,x.nodes ≤ 1000:=fun y hy=>Nat.le_trans (zio (k:=5) (n:=n) y hy) ht
 simp [h0,h1,h0',h1',hn,hdd,Dat.cs,hv',AV.isV,hget,hc0,hc1,hc0',hc1',hcn,hcc,zaN]
 refine ⟨by omega,?_⟩
 have ez : List.replicate ks.length (AV.int .i64 0) = zcW ks 0:=by simp [zcW]
 rw [ez]
 have hsc3 : ∀ (l : List AV),(l.all fun a=>a.scA (H.length + 3)) = true → HSc (H ++ [.cells [.int .i64 5,.int .i64 n,.sl (VT.css ks) .none],.cells [.str d.name,.int .i64 d.vars,.sl (d.cons.map Con.cs) .none],.cells l]):=fun l hl=>hs.append (by simp [AB.sc]; simpa using hl)
 have hszsc : ∀ i,((zcW ks i).all fun a=>a.scA (H.length + 3)) = true:=fun i=>by
  rw [List.all_eq_true]
  intro x hx
  unfold zcW at hx
  rcases List.mem_append.1 hx with h | h
  ·obtain ⟨y,_,rfl⟩:=List.mem_map.1 h; rfl
  ·rw [List.eq_of_mem_replicate h]; rfl
 refine zEb (Inv:=fun q t61 H'=>∃ i : Nat,i ≤ ks.length ∧ q = ks.length - i ∧ t61 = .int .i64 i ∧ H' = H ++ [.cells [.int .i64 5,.int .i64 n,.sl (VT.css ks) .none],.cells [.str d.name,.int .i64 d.vars,.sl (d.cons.map Con.cs) .none],.cells (zcW ks i)]) ks.length ?_ ?_
 ·intro _; exact ⟨0,by omega,by omega,rfl,rfl⟩
 ·rintro q t61 H' ⟨i,hi,rfl,rfl,rfl⟩ hsc8 hlen8 hsF8 Kb8 hKb8
  by_cases hlt : i < ks.length
  ·have hle:=hkle _ (List.getElem_mem hlt)
   obtain ⟨x1,x2,x3,hvx,hx1,hx2,hx3⟩:=zcY ks[i]
   simp [zoD,hlt,hvx,hx1,hx2,hx3]
   rw [← hvx]
   refine zFQ _ _ (Nat.le_refl _) (by omega) _ _ ?_
   have hll:=zCK ks hi
   simp [hlt,hll]
   refine ⟨by omega,?_⟩
   rw [zaq (by omega) (by omega)]
   have e:=zCL ks hlt
   rw [List.append_assoc,List.singleton_append] at e
   rw [e]
   refine hKb8 _ _ ⟨ks.length - (i + 1),by omega,Back.at (J:=[_]) (H2:=H ++ [.cells [.int .i64 5,.int .i64 n,.sl (VT.css ks) .none],.cells [.str d.name,.int .i64 d.vars,.sl (d.cons.map Con.cs) .none],.cells (zcW ks (i + 1))]) (by simp; rfl) (by simp) (hsc3 _ (hszsc _)) ?_ ⟨_,rfl,i + 1,by omega,rfl,by simp,rfl⟩⟩
   simp [zjp,AV.sc,AV.scV,AV.scA,AV.scB]
  ·obtain rfl : i = ks.length:=by omega
   have efull : zcW ks ks.length = ks.map fun x=>.int .i64 x.nodes:=by simp [zcW]
   have hsc8':=hsc8
   rw [efull] at hsc8' ⊢
   simp [zoD,hc0',hc1',hcn,hcc,Con.cs,hgc]
   refine zD9 (Inv:=fun q t79 H'=>∃ i : Nat,i ≤ co.args.length ∧ q = co.args.length - i ∧ t79 = .int .i64 i ∧ (∀ x ∈ co.args.take i,(subst ks x).nodes ≤ 200) ∧ H' = H ++ [.cells [.int .i64 5,.int .i64 n,.sl (VT.css ks) .none],.cells [.str d.name,.int .i64 d.vars,.sl (d.cons.map Con.cs) .none],.cells (ks.map fun x=>.int .i64 x.nodes)]) co.args.length ?_ ?_
   ·intro _; exact ⟨0,by omega,by omega,rfl,by simp,rfl⟩
   ·rintro q t79 H' ⟨i,hi,rfl,rfl,hall,rfl⟩ hsc13 hlen13 hsF13 Kb13 hKb13
    by_cases hlt : i < co.args.length
    ·have hmem:=List.getElem_mem hlt
     obtain ⟨x1,x2,x3,hvx,hx1,hx2,hx3⟩:=zcY co.args[i]
     simp [zoB,hlt,hvx,hx1,hx2,hx3]
     rw [← hvx]
     refine zFX ks (fun y hy=>by have:=hkle y hy; omega) (by omega) _ co.args[i] (Nat.le_refl _) (by have:=han _ hmem; omega) _ (H.length + 2) (by simp [zi8]) _ fun r hr1 hr2 hr3=>?_
     by_cases hbig : r ≤ 200
     ·have hbig' : ¬ (200 : Int) < r:=by omega
      simp [hbig']
      rw [zaq (by omega) (by omega)]
      refine hKb13 _ _ ⟨co.args.length - (i + 1),by omega,Back.at (J:=[_]) (H2:=H ++ [.cells [.int .i64 5,.int .i64 n,.sl (VT.css ks) .none],.cells [.str d.name,.int .i64 d.vars,.sl (d.cons.map Con.cs) .none],.cells (ks.map fun x=>.int .i64 x.nodes)]) (by simp; rfl) (by simp) hsc8' ?_ ⟨_,rfl,i + 1,by omega,rfl,by simp,ztx hlt hall (hr1.1 hbig),rfl⟩⟩
      simp [zjn,AV.sc,AV.scV,AV.scA,AV.scB]
     ·have hbig' : (200 : Int) < r:=by omega
      simp [hbig',AV.isV]
      refine hF (hfe' none ?_) _
      rw [if_neg]
      intro hal2
      have:=List.all_eq_true.1 hal2 (subst ks co.args[i]) (List.mem_map.2 ⟨_,hmem,rfl⟩)
      exact hbig (hr1.2 (of_decide_eq_true this))
    ·obtain rfl : i = co.args.length:=by omega
     rw [List.take_length] at hall
     have hfs:=hfe' (some (co.args.map (subst ks))) (if_pos (List.all_eq_true.2 fun y hy=>by
      obtain ⟨x,hx,rfl⟩:=List.mem_map.1 hy
      exact decide_eq_true (hall x hx)))
     rw [hfs] at hK
     simp [zoB,hc0',hc1',hcn,hcc,Con.cs,hgc]
     unfold zjq
     refine ALoop.own 14 zaB 3 rfl ?_
     have hlen1 : (H ++ [AB.cells [.int .i64 5,.int .i64 n,.sl (VT.css ks) .none],.cells [.str d.name,.int .i64 d.vars,.sl (d.cons.map Con.cs) .none],.cells (ks.map fun x=>.int .i64 x.nodes)]).length = H.length + 3:=by simp
     rw [hlen1]
     have hperm : ∀ m,HSc (H ++ [.cells [.int .i64 5,.int .i64 n,.sl (VT.css ks) .none],.cells [.str d.name,.int .i64 d.vars,.sl (d.cons.map Con.cs) .none],.cells (ks.map fun x=>.int .i64 x.nodes),.perm zaB 3 m]):=fun m=>by have:=hsc8'.append (J:=[.perm zaB 3 m]) rfl; simpa using this
     rw [List.append_assoc]
     show zjq (.ptr H.length 0) (.sl [] (.own (H.length + 3))) (.sl (VT.css co.args) .none) (.int .i64 co.args.length) (.int .i64 0) (H ++ [.cells [.int .i64 5,.int .i64 n,.sl (VT.css ks) .none],.cells [.str d.name,.int .i64 d.vars,.sl (d.cons.map Con.cs) .none],.cells (ks.map fun x=>.int .i64 x.nodes),.perm zaB 3 0]) (Out H.length K)
     refine zEa (Inv:=fun q t14 t95 H'=>∃ i : Nat,i ≤ co.args.length ∧ q = co.args.length - i ∧ t95 = .int .i64 i ∧ t14 = .sl (VT.css ((co.args.map (subst ks)).take i)) (.own (H.length + 3)) ∧ H' = H ++ [.cells [.int .i64 5,.int .i64 n,.sl (VT.css ks) .none],.cells [.str d.name,.int .i64 d.vars,.sl (d.cons.map Con.cs) .none],.cells (ks.map fun x=>.int .i64 x.nodes),.perm zaB 3 i]) co.args.length ?_ ?_
     ·intro _; exact ⟨0,by omega,by omega,rfl,by simp [VT.css],rfl⟩
     ·rintro q t14 t95 H' ⟨i,hi,rfl,rfl,rfl,rfl⟩ hsc20 hlen20 hsF20 Kb20 hKb20
      by_cases hlt : i < co.args.length
      ·have hmem:=List.getElem_mem hlt
       obtain ⟨x1,x2,x3,hvx,hx1,hx2,hx3⟩:=zcY co.args[i]
       simp [zoC,hlt,hvx,hx1,hx2,hx3]
       rw [← hvx]
       refine zF4 _ ks (fun y hy=>by have:=hkle y hy; omega) (by omega) co.args[i] (Nat.le_refl _) (by have:=han _ hmem; omega) _ _ ?_
       rw [zbP]
       simp [zaC,zbq,za8]
       refine ⟨by omega,⟨by omega,by omega⟩,?_⟩
       rw [zaq (by omega) (by omega),show min i co.args.length = i by omega]
       refine hKb20 _ _ ⟨co.args.length - (i + 1),by omega,Back.at (H2:=H ++ [.cells [.int .i64 5,.int .i64 n,.sl (VT.css ks) .none],.cells [.str d.name,.int .i64 d.vars,.sl (d.cons.map Con.cs) .none],.cells (ks.map fun x=>.int .i64 x.nodes),.perm zaB 3 (i + 1)]) (J:=[_]) (by simp; rfl) (by simp) (hperm _) ?_ ⟨_,_,rfl,i + 1,by omega,rfl,by simp,?_,rfl⟩⟩
       ·simp [zjo,AV.sc,AV.scV,AV.scA,AV.scB]
       ·rw [zgP (by simpa using hlt)]; simp
      ·obtain rfl : i = co.args.length:=by omega
       rw [List.take_of_length_le (by simp)]
       simp [zoC,AV.isV]
       exact Out.tup hs hK ⟨slV,zcm rfl rfl,trivial⟩
def zin (i : Nat) : VT → Bool
 | .mk k n ks=>k == 4 && n == i && ks.length == 0
def zc3 : List VT → Nat → Bool
 | [],_=>true
 | x :: l,i=>zin i x && zc3 l (i + 1)
def zcs (d vars : Int) : VT → Bool
 | .mk k n ks=>k == 5 && n == d && (ks.length : Int) == vars && zc3 ks 0
mutual
def zct (d : Int) : VT → Bool
 | .mk k n ks=>(k == 5 && n == d) || zeF d ks
def zeF (d : Int) : List VT → Bool
 | []=>false
 | t :: ts=>zct d t || zeF d ts
end
theorem zy8 (v : VT) (d vars : Int) (hb : v.nodes ≤ 1000000) (H : zaa) (K : AV → zaa → Prop) (hK : K (.bool (zcs d vars v)) H) : ACalls tP znJ [.agg v.cs,.int .i64 d,.int .i64 vars] H K:=by
 refine ACalls.out (zM2 fun hs=>?_)
 obtain ⟨k,n,ks⟩:=v
 have hnl : VT.nodesL ks + 1 ≤ 1000000:=by simpa [VT.nodes] using hb
 have hll:=VT.len_le ks
 have hO : ∀ J,Out H.length K (.bool (k == 5 && n == d && (ks.length : Int) == vars && zc3 ks 0)) (H ++ J):=fun J=>Out.bool rfl (Nat.le_refl _) hs (by simpa [zcs] using hK)
 simp only [VT.cs,zyo]
 cases h5 : (k == 5) with
 | false=>
  have : (k != 5) = true:=by simp [bne,h5]
  rw [h5] at hO
  simp [this]
  exact hO _
 | true=>
 have h5' : (k != 5) = false:=by simp [bne,h5]
 cases hn : (n == d) with
 | false=>
  have : (n != d) = true:=by simp [bne,hn]
  rw [h5,hn] at hO
  simp [h5',this]
  exact hO _
 | true=>
 have hn' : (n != d) = false:=by simp [bne,hn]
 cases hv : ((ks.length : Int) == vars) with
 | false=>
  have : ((ks.length : Int) != vars) = true:=by simp [bne,hv]
  rw [h5,hn,hv] at hO
  simp [h5',hn',this]
  exact hO _
 | true=>
 have hv' : ((ks.length : Int) != vars) = false:=by simp [bne,hv]
 rw [h5,hn,hv] at hO
 simp only [Bool.true_and] at hO
 simp [h5',hn',hv']
 refine zM0 (Inv:=fun q t7 H'=>∃ i : Nat,i ≤ ks.length ∧ q = ks.length - i ∧ t7 = .int .i64 i ∧ zc3 (ks.drop i) i = zc3 ks 0 ∧ H' = H ++ [.cells [.int .i64 k,.int .i64 n,.sl (VT.css ks) .none]]) ks.length ?_ ?_
 ·intro _; exact ⟨0,by omega,by omega,rfl,by simp,rfl⟩
 ·rintro q t7 H' ⟨i,hi,rfl,rfl,ho,rfl⟩ hsc hlen hsF Kb hKb
  by_cases hlt : i < ks.length
  ·rw [List.drop_eq_getElem_cons hlt,zc3] at ho
   obtain ⟨k',n',ks',hx⟩ : ∃ k' n' ks',ks[i] = .mk k' n' ks':=by cases h : ks[i] with | mk a b c=>exact ⟨a,b,c,rfl⟩
   rw [hx,zin] at ho
   cases g1 : (k' == 4) with
   | false=>
    have : (k' != 4) = true:=by simp [bne,g1]
    rw [g1] at ho
    simp only [Bool.false_and] at ho
    rw [← ho] at hO
    simp [zgw,hlt,hx,VT.cs,this]
    exact hO _
   | true=>
   have g1' : (k' != 4) = false:=by simp [bne,g1]
   cases g2 : (n' == (i : Int)) with
   | false=>
    have : (n' != (i : Int)) = true:=by simp [bne,g2]
    rw [g1,g2] at ho
    simp only [Bool.false_and,Bool.and_false] at ho
    rw [← ho] at hO
    simp [zgw,hlt,hx,VT.cs,g1',this]
    exact hO _
   | true=>
   have g2' : (n' != (i : Int)) = false:=by simp [bne,g2]
   by_cases g3 : ks'.length = 0
   ·have g3' : ¬ (0 : Int) < ks'.length:=by omega
    have g3'' : ¬ 0 < ks'.length:=by omega
    rw [g1,g2,g3] at ho
    simp only [Bool.true_and,BEq.rfl] at ho
    simp [zgw,hlt,hx,VT.cs,g1',g2',g3',g3'']
    rw [zaq (by omega) (by omega)]
    refine hKb _ _ ⟨ks.length - (i + 1),by omega,Back.here (by simp) hsc ?_ ⟨_,rfl,i + 1,by omega,rfl,by simp,ho,rfl⟩⟩
    simp [zlO,AV.sc,AV.scV,AV.scA,AV.scB]
   ·have g3' : (0 : Int) < ks'.length:=by omega
    have g3'' : 0 < ks'.length:=by omega
    have g4 : (ks'.length == 0) = false:=by simpa using g3
    rw [g4] at ho
    simp only [Bool.and_false,Bool.false_and] at ho
    rw [← ho] at hO
    simp [zgw,hlt,hx,VT.cs,g1',g2',g3',g3'']
    exact hO _
  ·obtain rfl : i = ks.length:=by omega
   rw [List.drop_length,zc3] at ho
   rw [← ho] at hO
   simp [zgw]
   exact hO _
theorem zzW : zcO tP ziv = true:=by kernel_rfl
theorem ztA (d : Int) : ∀ l : List VT,zeF d l = l.any (zct d)
 | []=>rfl
 | t :: ts=>by simp [zeF,ztA d ts]
theorem zNQ (d : Int) : ∀ (m : Nat) (v : VT),v.nodes ≤ m → v.nodes ≤ 1000000 → ∀ (H : zaa) (K : AV → zaa → Prop),K (.bool (zct d v)) H → ACalls tP ziR [.agg v.cs,.int .i64 d] H K:=by
 intro m
 induction m with
 | zero=>intro v h; have:=v.nodes_pos; omega
 | succ m ih=>
  intro v hv hb H K hK
  obtain ⟨k,n,ks⟩:=v
  have hnl : VT.nodesL ks + 1 ≤ 1000000:=by simpa [VT.nodes] using hb
  have hll:=VT.len_le ks
  refine ACalls.out (zNP fun hs=>?_)
  have hO : ∀ J,Out H.length K (.bool ((k == 5 && n == d) || ks.any (zct d))) (H ++ J):=fun J=>Out.bool rfl (Nat.le_refl _) hs (by simpa [zct,ztA] using hK)
  have go : (k == 5 && n == d) = false → ∀ KK : AV → zaa → Prop,(∀ b,Out H.length K (.bool b) (H ++ [.cells [.int .i64 k,.int .i64 n,.sl (VT.css ks) .none],.cells [.int .i64 d]]) → KK (.bool b) (H ++ [.cells [.int .i64 k,.int .i64 n,.sl (VT.css ks) .none],.cells [.int .i64 d]])) →
    ACalls tP zfc [.sl (VT.css ks) .none,.fn ziv [.ptr (H.length + 1) 0]] (H ++ [.cells [.int .i64 k,.int .i64 n,.sl (VT.css ks) .none],.cells [.int .i64 d]]) KK:=by
   intro hno KK hKK
   rw [hno,Bool.false_or] at hO
   refine zmQ ks (by omega) _ _ _ (by simp [AV.sc,AV.scV,AV.scA,AV.scB]) (fun i H'=>(ks.drop i).any (zct d) = ks.any (zct d) ∧ H' = H ++ [.cells [.int .i64 k,.int .i64 n,.sl (VT.css ks) .none],.cells [.int .i64 d]]) ⟨by simp,rfl⟩ ?_ ?_
   ·rintro i hi H' hle ⟨ho,rfl⟩
    have hki:=VT.kid_lt (k:=k) (n:=n) hi
    rw [List.drop_eq_getElem_cons hi,List.any_cons] at ho
    simp only [aCallV,zzW,List.singleton_append]
    refine ACalls.out (zDZ fun hs1=>?_)
    obtain ⟨x1,x2,x3,hvx,hx1,hx2,hx3⟩:=zcY ks[i]
    simp [zu4,hvx]
    rw [← hvx]
    refine ih ks[i] (by omega) (by omega) _ _ ?_
    refine Out.bool (J:=[_]) (H2:=H ++ [.cells [.int .i64 k,.int .i64 n,.sl (VT.css ks) .none],.cells [.int .i64 d]]) (by simp; rfl) (by simp) hs1 ?_
    cases hb : zct d ks[i] with
    | false=>
     rw [hb,Bool.false_or] at ho
     exact .inl ⟨rfl,ho,rfl⟩
    | true=>
     rw [hb,Bool.true_or] at ho
     rw [← ho] at hO
     exact .inr ⟨rfl,hKK _ (hO _)⟩
   ·rintro H' ⟨ho,rfl⟩
    rw [List.drop_length,List.any_nil] at ho
    rw [← ho] at hO
    exact hKK _ (hO _)
  simp only [VT.cs,zyE]
  cases h5 : (k == 5) with
  | false=>
   simp [h5,AV.isB]
   refine go (by rw [h5]; rfl) _ fun b hb=>?_
   simpa using hb
  | true=>
   cases hn : (n == d) with
   | false=>
    simp [h5,hn,AV.isB]
    refine go (by rw [hn]; simp) _ fun b hb=>?_
    simpa using hb
   | true=>
    rw [h5,hn] at hO
    simp [h5,hn]
    exact hO _
def zas (l : List Bool) : List AV:=l.map AV.bool
@[simp] theorem zRZ (l : List Bool) : (zas l).length = l.length:=by simp [zas]
theorem zgI (n : Nat) : (List.replicate n [AV.bool false]).flatten = zas (List.replicate n false):=by
 induction n with
 | zero=>rfl
 | succ n ih=>simp [List.replicate_succ,ih,zas]
theorem zcy {l : List Bool} {i : Nat} (h : i < l.length) (b : Bool) : (zas l).take i ++ .bool b :: (zas l).drop (i + 1) = zas (l.set i b):=by
 simp [zas,List.set_eq_take_append_cons_drop,h]
theorem zck (m : Nat) (l : List Bool) : (zas l).all (AV.scA m) = true:=by simp [zas]
theorem zt0 : ∀ l : List Bool,zbn (zas l) = some (l.map fun b=>[AV.bool b]).flatten
 | []=>rfl
 | b :: l=>by
  have:=zt0 l
  simp [zas] at this ⊢
  simp [zbn,this,AV.pd]
theorem zNM (data : List Dat) (d : Nat) (c : Nat) (hd : d < data.length) (hc : c < (data[d]).cons.length) (hl : data.length ≤ 1000000) (hcl : (data[d]).cons.length ≤ 1000000) (hal : ((data[d]).cons[c]).args.length ≤ 1000000)
  (hb : ∀ x ∈ ((data[d]).cons[c]).args,x.nodes ≤ 1000000) (H : zaa) (K : AV → zaa → Prop)
  (hK : K (.sl (((data[d]).cons[c]).args.map fun t=>[.bool (zcs d (data[d]).vars t)]) .none) H) :
  ACalls tP znL [.sl (data.map Dat.cs) .none,.int .i64 d,.int .i64 c] H K:=by
 refine ACalls.out (zNK fun hs=>?_)
 have e1 : (data.map Dat.cs)[d]? = some (data[d]).cs:=by simp [hd]
 have e2 : ((data[d]).cons.map Con.cs)[c]? = some ((data[d]).cons[c]).cs:=by simp [hc]
 generalize hD : data[d] = D at *
 generalize hA : D.cons[c] = C at *
 have h1 : ¬ (d : Int) < 0:=by omega
 have h2 : ¬ (data.length : Int) ≤ d:=by omega
 have h3 : ¬ (c : Int) < 0:=by omega
 have h4 : ¬ (D.cons.length : Int) ≤ c:=by omega
 simp [zyA,h1,h2,h3,h4,e1,e2,Dat.cs,Con.cs,hd,hD,hc,hA]
 simp only [zaN,Int.toNat_natCast,zgI]
 refine ⟨⟨by omega,by omega,by omega,by omega⟩,?_⟩
 refine zNI (Inv:=fun q t49 H'=>∃ (i : Nat) (bs : List Bool),i ≤ C.args.length ∧ q = C.args.length - i ∧ t49 = .int .i64 i ∧ bs.length = C.args.length ∧ (∀ j (hj : j < i) (h' : j < C.args.length),bs[j]? = some (zcs d D.vars C.args[j])) ∧ H' = H ++ [.cells (zas bs)]) C.args.length ?_ ?_
 ·intro _; exact ⟨0,_,by omega,by omega,rfl,by simp,by omega,rfl⟩
 ·rintro q t49 H' ⟨i,bs,hi,rfl,rfl,hbl,hbs,rfl⟩ hsc hlen hsF Kb hKb
  by_cases hlt : i < C.args.length
  ·obtain ⟨k,n,ks,hx⟩ : ∃ k n ks,C.args[i] = .mk k n ks:=by cases h : C.args[i] with | mk a b c=>exact ⟨a,b,c,rfl⟩
   have hnb:=hb _ (List.getElem_mem hlt)
   rw [hx,VT.nodes] at hnb
   have hll:=VT.len_le ks
   have inner : ∀ b0 : Bool,b0 = (k == 5 && n == (d : Int) && (ks.length : Int) == D.vars) →
     zru (.sl (data.map Dat.cs) .none) (.int .i64 d) (.ms H.length 0 C.args.length C.args.length) (.int .i64 i) (.sl (VT.css C.args) .none) (.int .i64 C.args.length) (.int .i64 i) (.sl (VT.css ks) .none) (.int .i64 ks.length) (.int .i64 0)
      (H ++ [.cells (zas (bs.set i b0)),.cells [.int .i64 k,.int .i64 n,.sl (VT.css ks) .none]]) (Out H.length K) Kb:=by
    intro b0 hb0
    refine zNH (Inv:=fun q t80 H'=>∃ (j : Nat) (b : Bool),j ≤ ks.length ∧ q = ks.length - j ∧ t80 = .int .i64 j ∧ (b && zc3 (ks.drop j) j) = zcs d D.vars C.args[i] ∧ H' = H ++ [.cells (zas (bs.set i b)),.cells [.int .i64 k,.int .i64 n,.sl (VT.css ks) .none]]) ks.length ?_ ?_
    ·intro _; exact ⟨0,b0,by omega,by omega,rfl,by simp [hx,zcs,hb0],rfl⟩
    ·rintro q t80 H' ⟨j,b,hj,rfl,rfl,hob,rfl⟩ hsc1 hlen1 hsF1 Kb1 hKb1
     have hsc0 : ∀ b : Bool,HSc (H ++ [.cells (zas (bs.set i b))]):=fun b=>hs.snoc (by simp [AB.sc,zck])
     have hsc2 : ∀ b : Bool,HSc (H ++ [.cells (zas (bs.set i b)),.cells [.int .i64 k,.int .i64 n,.sl (VT.css ks) .none]]):=fun b=>hs.append (by simp [AB.sc,zck])
     by_cases hjl : j < ks.length
     ·obtain ⟨k',n',ks',hx'⟩ : ∃ k' n' ks',ks[j] = .mk k' n' ks':=by cases h : ks[j] with | mk a b c=>exact ⟨a,b,c,rfl⟩
      have hib : i < bs.length:=by omega
      rw [List.drop_eq_getElem_cons hjl,zc3,hx',zin] at hob
      have hback : ∀ (b' : Bool) J,(b' && zc3 (ks.drop (j + 1)) (j + 1)) = zcs d D.vars C.args[i] → zrt (.sl (data.map Dat.cs) .none) (.int .i64 d) (.ms H.length 0 C.args.length C.args.length) (.int .i64 i) (.sl (VT.css C.args) .none) (.int .i64 C.args.length) (.int .i64 i) (.sl (VT.css ks) .none) (.int .i64 ks.length) (.int .i64 j)
        (H ++ .cells (zas (bs.set i b')) :: .cells [.int .i64 k,.int .i64 n,.sl (VT.css ks) .none] :: J) (Out H.length K) Kb Kb1:=by
       intro b' J hb'
       simp [zrt]
       rw [zaq (by omega) (by omega)]
       refine hKb1 _ _ ⟨ks.length - (j + 1),by omega,Back.at (J:=J) (H2:=H ++ [.cells (zas (bs.set i b')),.cells [.int .i64 k,.int .i64 n,.sl (VT.css ks) .none]]) (by simp) (by simp) (hsc2 _) ?_ ⟨_,rfl,j + 1,b',by omega,rfl,by simp,hb',rfl⟩⟩
       simp [zl1,AV.sc,AV.scV,AV.scA,AV.scB]
      have hstore : ∀ l,List.take i (zas (bs.set i b)) ++ .bool false :: List.drop (i + 1) (zas (bs.set i b)) = l → l = zas (bs.set i false):=by
       rintro _ rfl
       rw [zcy (by simpa using hib)]; simp
      cases g1 : (k' == 4) with
      | false=>
       have : (k' != 4) = true:=by simp [bne,g1]
       rw [g1] at hob
       simp [zgz,zgA,hjl,hx',VT.cs,this,hlt,hbl,hstore _ rfl]
       refine ⟨by omega,hback _ _ ?_⟩; simpa using hob.symm
      | true=>
      have g1' : (k' != 4) = false:=by simp [bne,g1]
      cases g2 : (n' == (j : Int)) with
      | false=>
       have : (n' != (j : Int)) = true:=by simp [bne,g2]
       rw [g1,g2] at hob
       simp [zgz,zgA,hjl,hx',VT.cs,g1',this,hlt,hbl,hstore _ rfl]
       refine ⟨by omega,hback _ _ ?_⟩; simpa using hob.symm
      | true=>
      have g2' : (n' != (j : Int)) = false:=by simp [bne,g2]
      by_cases g3 : ks'.length = 0
      ·have g3' : ¬ (0 : Int) < ks'.length:=by omega
       have g3'' : ¬ 0 < ks'.length:=by omega
       simp [zgz,zgA,hjl,hx',VT.cs,g1',g2',g3',g3'']
       refine hback _ _ ?_; simpa [g1,g2,g3] using hob
      ·have g3' : (0 : Int) < ks'.length:=by omega
       have g3'' : 0 < ks'.length:=by omega
       have g4 : (ks'.length == 0) = false:=by simpa using g3
       rw [g4] at hob
       simp [zgz,zgA,hjl,hx',VT.cs,g1',g2',g3',g3'',hlt,hbl,hstore _ rfl]
       refine ⟨by omega,hback _ _ ?_⟩; simpa using hob.symm
     ·obtain rfl : j = ks.length:=by omega
      rw [List.drop_length,zc3,Bool.and_true] at hob
      simp [zgz]
      rw [zaq (by omega) (by omega)]
      refine hKb _ _ ⟨C.args.length - (i + 1),by omega,Back.at (J:=[.cells [.int .i64 k,.int .i64 n,.sl (VT.css ks) .none]]) (H2:=H ++ [.cells (zas (bs.set i b))]) (by simp) (by simp) (hsc0 _) ?_ ⟨_,rfl,i + 1,bs.set i b,by omega,rfl,by simp,by simpa using hbl,?_,rfl⟩⟩
      ·simp [zl2,AV.sc,AV.scV,AV.scA,AV.scB]
      ·intro j hj h'
       by_cases hji : j = i
       ·subst hji; rw [← hob]; simp [hbl,hlt]
       ·rw [List.getElem?_set_ne (by omega)]; exact hbs j (by omega) h'
   have hstore : ∀ b l,List.take i (zas bs) ++ .bool b :: List.drop (i + 1) (zas bs) = l → l = zas (bs.set i b):=by
    rintro b _ rfl
    rw [zcy (by omega)]
   cases h5 : (k == 5) with
   | false=>simp [zh0,hlt,hx,VT.cs,e1,hd,hD,Dat.cs,h5,hbl,hstore _ _ rfl]; refine ⟨by omega,inner _ ?_⟩; simp [h5]
   | true=>
   cases hn : (n == (d : Int)) with
   | false=>simp [zh0,hlt,hx,VT.cs,e1,hd,hD,Dat.cs,h5,hn,hbl,hstore _ _ rfl]; refine ⟨by omega,inner _ ?_⟩; simp [h5,hn]
   | true=>simp [zh0,hlt,hx,VT.cs,e1,hd,hD,Dat.cs,h5,hn,hbl,hstore _ _ rfl]; refine ⟨by omega,inner _ ?_⟩; simp [h5,hn]
  ·obtain rfl : i = C.args.length:=by omega
   simp [zh0]
   have hbe : bs = C.args.map (zcs d D.vars):=by
    refine List.ext_getElem (by simpa using hbl) fun j h1 h2=>?_
    have:=hbs j (by omega) (by omega)
    rw [List.getElem?_eq_getElem h1] at this
    simpa using this
   subst hbe
   refine ⟨_,H,_,rfl,Nat.le_refl _,hs,.one (.frz H.length 0 _ _ 1 (zas (C.args.map (zcs d D.vars))) (C.args.map fun t=>[.bool (zcs d D.vars t)]) (Nat.le_refl _) (by simp) (by simp) ?_ (by simp) (by simp) (Nat.le_refl _)),hK⟩
   rw [List.drop_zero,List.take_of_length_le (by simp),zt0,List.map_map]
   rfl
end Go.Proofs.Ytkdmpbhbmmhijaa
namespace Go.Abs
open Go
def zbZ (b : UInt8) : Bool:=decide (97 ≤ (b.toNat : Int)) && decide ((b.toNat : Int) ≤ 122)
def bUp (b : UInt8) : Bool:=decide (65 ≤ (b.toNat : Int)) && decide ((b.toNat : Int) ≤ 90)
def za3 (b : UInt8) : Bool:=decide (48 ≤ (b.toNat : Int)) && decide ((b.toNat : Int) ≤ 57)
def bIn (b : UInt8) : Bool:=zbZ b || bUp b || za3 b || b == 95
def zdg (b : UInt8) : Bool:=b == 9 || b == 10 || b == 13 || b == 32
def zcc : List UInt8 → Int → Bool
 | [],_=>true
 | b :: l,n=>let m:=n * 10 + ((b.toNat : Int) - 48)
  if m > 1000000 then false else zcc l m
def zdo (r : List UInt8) : Bool:=r.take 2 == [45,62] || r.take 2 == [60,61] || r.take 2 == [61,61]
def sgns : List UInt8:=[40,41,44,61,124,43,45,42,47,37,60,59,95]
def sgn (r : List UInt8) : Nat:=
 if zdo r = true then 2 else match r with
 | []=>0
 | b :: _=>if sgns.contains b = true then 1 else 0
structure Tk where
 kind : Int
 text : List UInt8
 pos : Nat
def tok (kw : List UInt8 → Bool) (b : UInt8) (r : List UInt8) : Except Int (Int × Nat):=
 if (zbZ b || bUp b) = true then
  let n:=(r.takeWhile bIn).length + 1
  if n > 24 then .error 9 else .ok (if bUp b = true then 2 else if kw ((b :: r).take n) = true then 4 else 1,n)
 else if za3 b = true then
  let n:=(r.takeWhile za3).length + 1
  if b == 48 && decide (n > 1) then .error 2 else if zcc ((b :: r).take n) 0 = true then .ok (3,n) else .error 9
 else
  let n:=sgn (b :: r)
  if n = 0 then .error 2 else .ok (5,n)
theorem zop {kw : List UInt8 → Bool} {b : UInt8} {r : List UInt8} {k : Int} {n : Nat} (h : tok kw b r = .ok (k,n)) : 0 < n:=by
 unfold tok at h
 split at h
 ·simp only at h; split at h <;> simp at h; omega
 ·split at h
  ·simp only at h; split at h
   ·simp at h
   ·split at h <;> simp at h; omega
  ·simp only at h; split at h <;> simp at h; omega
def zbE (kw : List UInt8 → Bool) (r : List UInt8) (pos : Nat) : Except (Nat × Int) (List Tk):=
 match r with
 | []=>.ok [⟨6,[],pos⟩]
 | b :: r'=>
  if zdg b = true then zbE kw r' (pos + 1)
  else if b == 35 then zbE kw (r'.dropWhile (· != 10)) (pos + 1 + (r'.takeWhile (· != 10)).length)
  else match tok kw b r' with
   | .error e=>.error (pos,e)
   | .ok (k,n)=>match zbE kw (r'.drop (n - 1)) (pos + n) with
    | .error e=>.error e
    | .ok l=>.ok (⟨k,(b :: r').take n,pos⟩ :: l)
termination_by r.length
decreasing_by
 ·simp
 ·have:=(List.dropWhile_sublist (p:=(· != 10)) (l:=r')).length_le; simp; omega
 ·simp; omega
end Go.Abs
namespace Go.Proofs.Ytkdmpbhbmmhijaa
open Go Go.Abs
set_option maxRecDepth 100000
def zfE : Nat → List Bool
 | 5=>rl false [0,1,4,2,54]
 | 9=>rl false [0,1,4,2,54]
 | _=>[]
noncomputable def zrp : Code:=Try.f84.body.getD .skip
noncomputable def zNE : List ResultVar:=Try.f84.results.toList
def zgx (t0 t5 t6 : AV) : List AV:=t0 :: ux 4 (t5 :: t6 :: ux 54 [])
def zyz : List Bool:=zfE 5
noncomputable def zrq : Code:=zan [1,0,1,1,1,1,0,0,0] zrp
def zyw (K : Kt) : AExit → List AV → zaa → Prop:=zao tP zfE [1,0,1,1,1,1,0,0] zrp (zau tP zNE K)
def zl0 (t0 t5 t6 : AV) (H : zaa) (K : Kt) : Prop:=ALoop tP zrq (zyw K) (zgx t0 t5 t6) H
def zgy (t0 t5 t6 : AV) (H : zaa) (K : Kt) (Kb5 : Lt) : Prop:=
 Kb5 (zgx t0 t5 t6) H
def zlY (t0 t5 t6 : AV) : List AV:=t0 :: ux 4 (t5 :: t6 :: ux 54 [])
def zNC : List Bool:=zfE 9
noncomputable def zNz : Code:=zan [1,0,1,0,1,0,0,0,0] zrq
def zNy (K : Kt) (Kb5 : Lt) : AExit → List AV → zaa → Prop:=zao tP zfE [1,0,1,0,1,0,0,0] zrq (zbj zyz Kb5 (zyw K))
def zyy (t0 t5 t6 : AV) (H : zaa) (K : Kt) (Kb5 : Lt) : Prop:=ALoop tP zNz (zNy K Kb5) (zlY t0 t5 t6) H
def zyx (t0 t5 : AV) (H : zaa) (K : Kt) : Prop:=
 zaj 0 t0 fun t57=>
 zaL [(.int .i64 0),(.str []),(.int .i64 0)] [(0,1),(1,1),(2,1)] [(0,(.int .i64 6)),(2,t57)] fun t58=>
 zav 3 [(.int .i64 0),(.str []),(.int .i64 0)] 1 [(0,t58)] fun t59=>
 zaC zeC 3 32 t5 t59 H fun t60 H=>
 za6 [t60,(.int .i64 0),(.int .i64 0)] (K · H)
def zlZ (t0 t5 : AV) (H : zaa) (K : Kt) : Prop:=
 zyx t0 t5 H K
def zro (t0 t5 t6 : AV) (H : zaa) (K : Kt) (Kb5 : Lt) (Kb9 : Lt) : Prop:=
 zaj 0 t0 fun t28=>
 zad .lss false t6 t28 fun t29=>
 zag t29
 (zbM t0 t6 fun t34=>
 zad .eql false t34 (.int .u8 10) fun t35=>
 zag t35
 (zgy t0 t5 t6 H K Kb5)
 (zad .add false t6 (.int .i64 1) fun t31=>
 Kb9 (zlY t0 t5 t31) H))
 (zlZ t0 t5 H K)
def zrn (t0 t5 t6 : AV) (H : zaa) (K : Kt) (Kb5 : Lt) : Prop:=
 zaj 0 t0 fun t14=>
 zad .lss false t6 t14 fun t15=>
 zag t15
 (zbM t0 t6 fun t18=>
 ACalls tP znR [t18] H fun t19 H=>
 zag t19
 (zad .add false t6 (.int .i64 1) fun t21=>
 zgy t0 t5 t21 H K Kb5)
 (zbM t0 t6 fun t24=>
 zad .eql false t24 (.int .u8 35) fun t25=>
 zag t25
 (zyy t0 t5 t6 H K Kb5)
 (ACalls tP znh [t0,t6] H fun t39 H=>
 zbb t39 0 fun t40=>
 zbb t39 1 fun t41=>
 zaA [(.int .i64 0),(.str []),(.int .i64 0)] H fun t7 H=>
 zar 3 t7 t40 H fun H=>
 zad .neq false t41 (.int .i64 0) fun t43=>
 zag t43
 (za6 [.snil,t6,t41] (K · H))
 (zae true 3 t7 H fun t47=>
 zav 3 [(.int .i64 0),(.str []),(.int .i64 0)] 1 [(0,t47)] fun t48=>
 zaC zeC 3 32 t5 t48 H fun t49 H=>
 zaf 1 t7 fun t51=>
 zae false 1 t51 H fun t52=>
 zaj 0 t52 fun t53=>
 zad .add false t6 t53 fun t54=>
 zgy t0 t49 t54 H K Kb5))))
 (zlZ t0 t5 H K)
def zrm (t0 : AV) (H : zaa) (K : Kt) : Prop:=
 zaj 0 t0 fun t10=>
 zad .gtr false t10 (.int .i64 16384) fun t11=>
 zag t11
 (za6 [.snil,(.int .i64 0),(.int .i64 9)] (K · H))
 (zl0 t0 .snil (.int .i64 0) H K)
theorem zNB {t0 t5 t6 : AV} {H : zaa} {K : Kt} {Kb5 : Lt} (Inv : Nat → AV → zaa → Prop) (n : Nat) (h0 : HSc H → Inv n t6 H)
  (round : Rd1 (fun t6=>zlY t0 t5 t6) (fun t6=>fun H Kb9=>zro t0 t5 t6 H K Kb5 Kb9) H Inv) : zyy t0 t5 t6 H K Kb5:=
 lp1 (M:=zfE) zNC t6 (by kernel_rfl) Inv n h0 round
theorem zNA {t0 t5 t6 : AV} {H : zaa} {K : Kt} (Inv : Nat → AV → AV → zaa → Prop) (n : Nat) (h0 : HSc H → Inv n t5 t6 H)
  (round : Rd2 (fun t5=>fun t6=>zgx t0 t5 t6) (fun t5=>fun t6=>fun H Kb5=>zrn t0 t5 t6 H K Kb5) H Inv) : zl0 t0 t5 t6 H K:=
 lp2 (M:=zfE) zyz t5 t6 (by kernel_rfl) Inv n h0 round
theorem zND {t0 : AV} {H : zaa} {K : Kt} (h : HSc H → zrm t0 H K) : ACalls tP znK [t0] H K:=
 zax (M:=zfE) Try.func84 (c:=zrp) (by kernel_rfl) (fun hs=>Eq.mpr (by kernel_rfl) (h hs))
def zda : Nat → List Bool
 | 5=>rl false [0,1,4,2,193]
 | 10=>rl false [0,1,4,2,193]
 | 18=>rl false [0,1,4,4,191]
 | 29=>rl false [0,1,4,4,191]
 | _=>[]
noncomputable def zrO : Code:=Try.f99.body.getD .skip
noncomputable def zPc : List ResultVar:=Try.f99.results.toList
def zfK (t0 t5 t6 : AV) : List AV:=t0 :: ux 4 (t5 :: t6 :: ux 193 [])
def zmm : List Bool:=zda 5
noncomputable def zfJ : Code:=zan [1,1,1,0,1,0,0] zrO
def zmg (K : Kt) : AExit → List AV → zaa → Prop:=zao tP zda [1,1,1,0,1,0] zrO (zau tP zPc K)
def zml (t0 t5 t6 : AV) (H : zaa) (K : Kt) : Prop:=ALoop tP zfJ (zmg K) (zfK t0 t5 t6) H
def zeU (t0 t5 t6 : AV) (H : zaa) (K : Kt) (Kb5 : Lt) : Prop:=
 Kb5 (zfK t0 t5 t6) H
def zmj (t0 t5 t6 : AV) : List AV:=t0 :: ux 4 (t5 :: t6 :: ux 193 [])
def zO8 : List Bool:=zda 10
noncomputable def zO1 : Code:=zan [1,0,1,1,0,1,0,0,0,0] zfJ
def zOY (K : Kt) (Kb5 : Lt) : AExit → List AV → zaa → Prop:=zao tP zda [1,0,1,1,0,1,0,0,0] zfJ (zbj zmm Kb5 (zmg K))
def zy3 (t0 t5 t6 : AV) (H : zaa) (K : Kt) (Kb5 : Lt) : Prop:=ALoop tP zO1 (zOY K Kb5) (zmj t0 t5 t6) H
def zrL (t0 t5 t6 : AV) (H : zaa) (K : Kt) (Kb5 : Lt) (Kb10 : Lt) : Prop:=
 zaj 0 t0 fun t42=>
 zad .lss false t6 t42 fun t43=>
 zab t43 true H (fun K'=>K' t0 H) fun t45 H=>
 zab t43 true H (fun K'=>K' t6 H) fun t46 H=>
 zab t43 true H (fun K'=>zbM t45 t46 (K' · H)) fun t47 H=>
 zab t43 true H (fun K'=>zad .neq false t47 (.int .u8 10) (K' · H)) fun t48 H=>
 zah t43 t48 (.bool false) fun t49=>
 zag t49
 (zad .add false t6 (.int .i64 1) fun t51=>
 Kb10 (zmj t0 t5 t51) H)
 (zeU t0 t5 t6 H K Kb5)
def zh2 (t0 t5 t6 t7 t8 : AV) : List AV:=t0 :: ux 4 (t5 :: t6 :: t7 :: t8 :: ux 191 [])
def zO9 : List Bool:=zda 18
noncomputable def zO2 : Code:=zan [1,0,1,1,1,1,0,0,1,0,0,0,0] zfJ
def zOZ (K : Kt) (Kb5 : Lt) : AExit → List AV → zaa → Prop:=zao tP zda [1,0,1,1,1,1,0,0,1,0,0,0] zfJ (zbj zmm Kb5 (zmg K))
def zrP (t0 t5 t6 t7 t8 : AV) (H : zaa) (K : Kt) (Kb5 : Lt) : Prop:=ALoop tP zO2 (zOZ K Kb5) (zh2 t0 t5 t6 t7 t8) H
def zh3 (t0 t5 t6 t8 : AV) (H : zaa) (K : Kt) (Kb5 : Lt) : Prop:=
 zad .add false t6 t8 fun t193=>
 zeU t0 t5 t193 H K Kb5
def zeW (t0 t5 t6 t8 : AV) (H : zaa) (K : Kt) (Kb5 : Lt) : Prop:=
 zh3 t0 t5 t6 t8 H K Kb5
def zeV (t0 t5 t6 t8 t9 : AV) (H : zaa) (K : Kt) (Kb5 : Lt) : Prop:=
 zad .add false t6 t8 fun t135=>
 za2 0 0 t0 (some t6) (some t135) fun t136=>
 zaL [(.int .i64 0),(.str []),(.int .i64 0)] [(0,1),(1,1),(2,1)] [(0,t9),(1,t136),(2,t6)] fun t138=>
 zav 3 [(.int .i64 0),(.str []),(.int .i64 0)] 1 [(0,t138)] fun t139=>
 zaC zbs 3 32 t5 t139 H fun t140 H=>
 zeW t0 t140 t6 t8 H K Kb5
def zrM (t0 t5 t6 t7 t8 : AV) (H : zaa) (K : Kt) (Kb5 : Lt) (Kb18 : Lt) : Prop:=
 zad .add false t6 t8 fun t79=>
 zaj 0 t0 fun t81=>
 zad .lss false t79 t81 fun t82=>
 zab t82 true H (fun K'=>K' t0 H) fun t84 H=>
 zab t82 true H (fun K'=>K' t6 H) fun t85 H=>
 zab t82 true H (fun K'=>K' t8 H) fun t86 H=>
 zab t82 true H (fun K'=>zad .add false t85 t86 (K' · H)) fun t87 H=>
 zab t82 true H (fun K'=>zbM t84 t87 (K' · H)) fun t88 H=>
 zab t82 true H (fun K'=>ACalls tP ziy [t88] H K') fun t89 H=>
 zab t82 true H (fun K'=>K' t89 H) fun t90 H=>
 zab t90 false H (fun K'=>K' t0 H) fun t91 H=>
 zab t90 false H (fun K'=>K' t6 H) fun t92 H=>
 zab t90 false H (fun K'=>K' t8 H) fun t93 H=>
 zab t90 false H (fun K'=>zad .add false t92 t93 (K' · H)) fun t94 H=>
 zab t90 false H (fun K'=>zbM t91 t94 (K' · H)) fun t95 H=>
 zab t90 false H (fun K'=>ACalls tP zfU [t95] H K') fun t96 H=>
 zab t82 true H (fun K'=>zah t90 (.bool true) t96 (K' · H)) fun t97 H=>
 zab t82 true H (fun K'=>K' t97 H) fun t98 H=>
 zab t98 false H (fun K'=>K' t0 H) fun t99 H=>
 zab t98 false H (fun K'=>K' t6 H) fun t100 H=>
 zab t98 false H (fun K'=>K' t8 H) fun t101 H=>
 zab t98 false H (fun K'=>zad .add false t100 t101 (K' · H)) fun t102 H=>
 zab t98 false H (fun K'=>zbM t99 t102 (K' · H)) fun t103 H=>
 zab t98 false H (fun K'=>ACalls tP zgZ [t103] H K') fun t104 H=>
 zab t82 true H (fun K'=>zah t98 (.bool true) t104 (K' · H)) fun t105 H=>
 zab t82 true H (fun K'=>K' t105 H) fun t106 H=>
 zab t106 false H (fun K'=>K' t0 H) fun t107 H=>
 zab t106 false H (fun K'=>K' t6 H) fun t108 H=>
 zab t106 false H (fun K'=>K' t8 H) fun t109 H=>
 zab t106 false H (fun K'=>zad .add false t108 t109 (K' · H)) fun t110 H=>
 zab t106 false H (fun K'=>zbM t107 t110 (K' · H)) fun t111 H=>
 zab t106 false H (fun K'=>zad .eql false t111 (.int .u8 95) (K' · H)) fun t112 H=>
 zab t82 true H (fun K'=>zah t106 (.bool true) t112 (K' · H)) fun t113 H=>
 zah t82 t113 (.bool false) fun t114=>
 zag t114
 (zad .add false t8 (.int .i64 1) fun t116=>
 Kb18 (zh2 t0 t5 t6 t7 t116) H)
 (zad .gtr false t8 (.int .i64 24) fun t118=>
 zag t118
 (za6 [.snil,t6,(.int .i64 9)] (K · H))
 (ACalls tP zfU [t7] H fun t121 H=>
 zag t121
 (zeV t0 t5 t6 t8 (.int .i64 2) H K Kb5)
 (zad .add false t6 t8 fun t126=>
 za2 0 0 t0 (some t6) (some t126) fun t127=>
 ACalls tP ziA [t127] H fun t128 H=>
 zag t128
 (zeV t0 t5 t6 t8 (.int .i64 4) H K Kb5)
 (zeV t0 t5 t6 t8 (.int .i64 1) H K Kb5))))
def zmk (t0 t5 t6 t7 t8 : AV) : List AV:=t0 :: ux 4 (t5 :: t6 :: t7 :: t8 :: ux 191 [])
def zPa : List Bool:=zda 29
noncomputable def zO3 : Code:=zan [1,0,1,1,1,1,0,0,1,1,1,0,0,0,0] zfJ
def zO0 (K : Kt) (Kb5 : Lt) : AExit → List AV → zaa → Prop:=zao tP zda [1,0,1,1,1,1,0,0,1,1,1,0,0,0] zfJ (zbj zmm Kb5 (zmg K))
def zrQ (t0 t5 t6 t7 t8 : AV) (H : zaa) (K : Kt) (Kb5 : Lt) : Prop:=ALoop tP zO3 (zO0 K Kb5) (zmk t0 t5 t6 t7 t8) H
def zrN (t0 t5 t6 t7 t8 : AV) (H : zaa) (K : Kt) (Kb5 : Lt) (Kb29 : Lt) : Prop:=
 zad .add false t6 t8 fun t146=>
 zaj 0 t0 fun t148=>
 zad .lss false t146 t148 fun t149=>
 zab t149 true H (fun K'=>K' t0 H) fun t151 H=>
 zab t149 true H (fun K'=>K' t6 H) fun t152 H=>
 zab t149 true H (fun K'=>K' t8 H) fun t153 H=>
 zab t149 true H (fun K'=>zad .add false t152 t153 (K' · H)) fun t154 H=>
 zab t149 true H (fun K'=>zbM t151 t154 (K' · H)) fun t155 H=>
 zab t149 true H (fun K'=>ACalls tP zgZ [t155] H K') fun t156 H=>
 zah t149 t156 (.bool false) fun t157=>
 zag t157
 (zad .add false t8 (.int .i64 1) fun t159=>
 Kb29 (zmk t0 t5 t6 t7 t159) H)
 (zad .gtr false t8 (.int .i64 1) fun t161=>
 zab t161 true H (fun K'=>K' t7 H) fun t163 H=>
 zab t161 true H (fun K'=>zad .eql false t163 (.int .u8 48) (K' · H)) fun t164 H=>
 zah t161 t164 (.bool false) fun t165=>
 zag t165
 (za6 [.snil,t6,(.int .i64 2)] (K · H))
 (zad .add false t6 t8 fun t172=>
 za2 0 0 t0 (some t6) (some t172) fun t173=>
 ACalls tP zfV [t173] H fun t174 H=>
 zbb t174 0 fun t175=>
 zbb t174 1 fun t176=>
 aUn .not t176 fun t178=>
 zag t178
 (za6 [.snil,t6,(.int .i64 9)] (K · H))
 (zad .add false t6 t8 fun t185=>
 za2 0 0 t0 (some t6) (some t185) fun t186=>
 zaL [(.int .i64 0),(.str []),(.int .i64 0)] [(0,1),(1,1),(2,1)] [(0,(.int .i64 3)),(1,t186),(2,t6)] fun t188=>
 zav 3 [(.int .i64 0),(.str []),(.int .i64 0)] 1 [(0,t188)] fun t189=>
 zaC zbs 3 32 t5 t189 H fun t190 H=>
 zeW t0 t190 t6 t8 H K Kb5)))
def zmh (t0 t5 t6 : AV) (H : zaa) (K : Kt) (Kb5 : Lt) : Prop:=
 zaj 0 t0 fun t17=>
 zad .lss false t6 t17 fun t18=>
 zag t18
 (zbM t0 t6 fun t21=>
 zad .eql false t21 (.int .u8 9) fun t23=>
 zab t23 false H (fun K'=>K' t21 H) fun t25 H=>
 zab t23 false H (fun K'=>zad .eql false t25 (.int .u8 10) (K' · H)) fun t26 H=>
 zah t23 (.bool true) t26 fun t27=>
 zab t27 false H (fun K'=>K' t21 H) fun t29 H=>
 zab t27 false H (fun K'=>zad .eql false t29 (.int .u8 13) (K' · H)) fun t30 H=>
 zah t27 (.bool true) t30 fun t31=>
 zab t31 false H (fun K'=>K' t21 H) fun t33 H=>
 zab t31 false H (fun K'=>zad .eql false t33 (.int .u8 32) (K' · H)) fun t34 H=>
 zah t31 (.bool true) t34 fun t35=>
 zag t35
 (zad .add false t6 (.int .i64 1) fun t37=>
 zeU t0 t5 t37 H K Kb5)
 (zad .eql false t21 (.int .u8 35) fun t39=>
 zag t39
 (zy3 t0 t5 t6 H K Kb5)
 (ACalls tP ziy [t21] H fun t72 H=>
 zab t72 false H (fun K'=>K' t21 H) fun t74 H=>
 zab t72 false H (fun K'=>ACalls tP zfU [t74] H K') fun t75 H=>
 zah t72 (.bool true) t75 fun t76=>
 zag t76
 (zrP t0 t5 t6 t21 (.int .i64 1) H K Kb5)
 (ACalls tP zgZ [t21] H fun t143 H=>
 zag t143
 (zrQ t0 t5 t6 t21 (.int .i64 1) H K Kb5)
 (za2 0 0 t0 (some t6) none fun t54=>
 ACalls tP zni [t54] H fun t55 H=>
 zad .eql false t55 (.int .i64 0) fun t57=>
 zag t57
 (za6 [.snil,t6,(.int .i64 2)] (K · H))
 (zad .add false t6 t55 fun t64=>
 za2 0 0 t0 (some t6) (some t64) fun t65=>
 zaL [(.int .i64 0),(.str []),(.int .i64 0)] [(0,1),(1,1),(2,1)] [(0,(.int .i64 5)),(1,t65),(2,t6)] fun t67=>
 zav 3 [(.int .i64 0),(.str []),(.int .i64 0)] 1 [(0,t67)] fun t68=>
 zaC zbs 3 32 t5 t68 H fun t69 H=>
 zeW t0 t69 t6 t55 H K Kb5))))))
 (zaj 0 t0 fun t196=>
 zaL [(.int .i64 0),(.str []),(.int .i64 0)] [(0,1),(1,1),(2,1)] [(0,(.int .i64 6)),(1,(.str [])),(2,t196)] fun t197=>
 zav 3 [(.int .i64 0),(.str []),(.int .i64 0)] 1 [(0,t197)] fun t198=>
 zaC zbs 3 32 t5 t198 H fun t199 H=>
 za6 [t199,(.int .i64 0),(.int .i64 0)] (K · H))
def zrK (t0 : AV) (H : zaa) (K : Kt) : Prop:=
 zaj 0 t0 fun t13=>
 zad .gtr false t13 (.int .i64 16384) fun t14=>
 zag t14
 (za6 [.snil,(.int .i64 0),(.int .i64 9)] (K · H))
 (zml t0 .snil (.int .i64 0) H K)
theorem zO4 {t0 t5 t6 : AV} {H : zaa} {K : Kt} {Kb5 : Lt} (Inv : Nat → AV → zaa → Prop) (n : Nat) (h0 : HSc H → Inv n t6 H)
  (round : Rd1 (fun t6=>zmj t0 t5 t6) (fun t6=>fun H Kb10=>zrL t0 t5 t6 H K Kb5 Kb10) H Inv) : zy3 t0 t5 t6 H K Kb5:=
 lp1 (M:=zda) zO8 t6 (by kernel_rfl) Inv n h0 round
theorem zO5 {t0 t5 t6 t7 t8 : AV} {H : zaa} {K : Kt} {Kb5 : Lt} (Inv : Nat → AV → zaa → Prop) (n : Nat) (h0 : HSc H → Inv n t8 H)
  (round : Rd1 (fun t8=>zh2 t0 t5 t6 t7 t8) (fun t8=>fun H Kb18=>zrM t0 t5 t6 t7 t8 H K Kb5 Kb18) H Inv) : zrP t0 t5 t6 t7 t8 H K Kb5:=
 lp1 (M:=zda) zO9 t8 (by kernel_rfl) Inv n h0 round
theorem zO6 {t0 t5 t6 t7 t8 : AV} {H : zaa} {K : Kt} {Kb5 : Lt} (Inv : Nat → AV → zaa → Prop) (n : Nat) (h0 : HSc H → Inv n t8 H)
  (round : Rd1 (fun t8=>zmk t0 t5 t6 t7 t8) (fun t8=>fun H Kb29=>zrN t0 t5 t6 t7 t8 H K Kb5 Kb29) H Inv) : zrQ t0 t5 t6 t7 t8 H K Kb5:=
 lp1 (M:=zda) zPa t8 (by kernel_rfl) Inv n h0 round
theorem zO7 {t0 t5 t6 : AV} {H : zaa} {K : Kt} (Inv : Nat → AV → AV → zaa → Prop) (n : Nat) (h0 : HSc H → Inv n t5 t6 H)
  (round : Rd2 (fun t5=>fun t6=>zfK t0 t5 t6) (fun t5=>fun t6=>fun H Kb5=>zmh t0 t5 t6 H K Kb5) H Inv) : zml t0 t5 t6 H K:=
 lp2 (M:=zda) zmm t5 t6 (by kernel_rfl) Inv n h0 round
theorem zPb {t0 : AV} {H : zaa} {K : Kt} (h : HSc H → zrK t0 H K) : ACalls tP znQ [t0] H K:=
 zax (M:=zda) Try.func99 (c:=zrO) (by kernel_rfl) (fun hs=>Eq.mpr (by kernel_rfl) (h hs))
def zPk (_ : Nat) : List Bool:=[]
noncomputable def zPl : Code:=Try.f101.body.getD .skip
def zy4 (t0 : AV) (H : zaa) (K : Kt) : Prop:=
 zad .eql false t0 (.int .u8 9) fun t4=>
 zab t4 false H (fun K'=>K' t0 H) fun t6 H=>
 zab t4 false H (fun K'=>zad .eql false t6 (.int .u8 10) (K' · H)) fun t7 H=>
 zah t4 (.bool true) t7 fun t8=>
 zab t8 false H (fun K'=>K' t0 H) fun t10 H=>
 zab t8 false H (fun K'=>zad .eql false t10 (.int .u8 13) (K' · H)) fun t11 H=>
 zah t8 (.bool true) t11 fun t12=>
 zab t12 false H (fun K'=>K' t0 H) fun t14 H=>
 zab t12 false H (fun K'=>zad .eql false t14 (.int .u8 32) (K' · H)) fun t15 H=>
 zah t12 (.bool true) t15 fun t16=>
 K t16 H
theorem zPm {t0 : AV} {H : zaa} {K : Kt} (h : HSc H → zy4 t0 H K) : ACalls tP znR [t0] H K:=
 zax (M:=zPk) Try.func101 (c:=zPl) (by kernel_rfl) (fun hs=>Eq.mpr (by kernel_rfl) (h hs))
def zDU (_ : Nat) : List Bool:=[]
noncomputable def zDV : Code:=Try.f102.body.getD .skip
def zu3 (t4 t6 : AV) (H : zaa) (K : Kt) : Prop:=
 zae true 3 t6 H fun t74=>
 zar 3 t4 t74 H fun H=>
 zae true 3 t4 H fun r0=>
 za6 [r0,(.int .i64 0)] (K · H)
def zgd (t4 t6 : AV) (H : zaa) (K : Kt) : Prop:=
 zu3 t4 t6 H K
def zgc (t4 t6 : AV) (H : zaa) (K : Kt) : Prop:=
 zgd t4 t6 H K
def zoA (t0 t1 : AV) (H : zaa) (K : Kt) : Prop:=
 zaA [(.int .i64 0),(.str []),(.int .i64 0)] H fun t4 H=>
 zaL [(.int .i64 0),(.str []),(.int .i64 0)] [(0,1),(1,1),(2,1)] [(2,t1)] fun t9=>
 zaA [(.int .i64 0),(.str []),(.int .i64 0)] H fun t6 H=>
 zar 3 t6 t9 H fun H=>
 zbM t0 t1 fun t12=>
 ACalls tP ziC [t12] H fun t25 H=>
 zab t25 false H (fun K'=>K' t12 H) fun t27 H=>
 zab t25 false H (fun K'=>ACalls tP zg0 [t27] H K') fun t28 H=>
 zah t25 (.bool true) t28 fun t29=>
 zag t29
 (za2 0 0 t0 (some t1) none fun t32=>
 ACalls tP ziD [t32,(.fn zg1 [])] H fun t33 H=>
 zaf 1 t6 fun t34=>
 zar 1 t34 t33 H fun H=>
 zaf 1 t6 fun t37=>
 zae false 1 t37 H fun t38=>
 zaj 0 t38 fun t39=>
 zad .gtr false t39 (.int .i64 24) fun t40=>
 zag t40
 (zaL [(.int .i64 0),(.str []),(.int .i64 0)] [(0,1),(1,1),(2,1)] [] fun t41=>
 zar 3 t4 t41 H fun H=>
 zae true 3 t4 H fun r0=>
 za6 [r0,(.int .i64 9)] (K · H))
 (ACalls tP zg0 [t12] H fun t44 H=>
 zag t44
 (zaf 0 t6 fun t45=>
 zar 1 t45 (.int .i64 2) H fun H=>
 zgc t4 t6 H K)
 (zaf 1 t6 fun t47=>
 zae false 1 t47 H fun t48=>
 ACalls tP znj [t48] H fun t49 H=>
 zag t49
 (zaf 0 t6 fun t50=>
 zar 1 t50 (.int .i64 4) H fun H=>
 zgc t4 t6 H K)
 (zaf 0 t6 fun t35=>
 zar 1 t35 (.int .i64 1) H fun H=>
 zgc t4 t6 H K))))
 (ACalls tP zfa [t12] H fun t53 H=>
 zag t53
 (zaf 0 t6 fun t54=>
 zar 1 t54 (.int .i64 3) H fun H=>
 za2 0 0 t0 (some t1) none fun t57=>
 ACalls tP ziD [t57,(.fn zfa [])] H fun t58 H=>
 zaf 1 t6 fun t59=>
 zar 1 t59 t58 H fun H=>
 zad .eql false t12 (.int .u8 48) fun t61=>
 zab t61 true H (fun K'=>zaf 1 t6 (K' · H)) fun t63 H=>
 zab t61 true H (fun K'=>zae false 1 t63 H (K' · H)) fun t64 H=>
 zab t61 true H (fun K'=>zaj 0 t64 (K' · H)) fun t65 H=>
 zab t61 true H (fun K'=>zad .gtr false t65 (.int .i64 1) (K' · H)) fun t66 H=>
 zah t61 t66 (.bool false) fun t67=>
 zag t67
 (zaL [(.int .i64 0),(.str []),(.int .i64 0)] [(0,1),(1,1),(2,1)] [] fun t68=>
 zar 3 t4 t68 H fun H=>
 zae true 3 t4 H fun r0=>
 za6 [r0,(.int .i64 2)] (K · H))
 (zaf 1 t6 fun t69=>
 zae false 1 t69 H fun t70=>
 ACalls tP zg3 [t70] H fun t71 H=>
 aUn .not t71 fun t72=>
 zag t72
 (zaL [(.int .i64 0),(.str []),(.int .i64 0)] [(0,1),(1,1),(2,1)] [] fun t73=>
 zar 3 t4 t73 H fun H=>
 zae true 3 t4 H fun r0=>
 za6 [r0,(.int .i64 9)] (K · H))
 (zgd t4 t6 H K)))
 (zaf 0 t6 fun t13=>
 zar 1 t13 (.int .i64 5) H fun H=>
 za2 0 0 t0 (some t1) none fun t16=>
 ACalls tP znk [t16] H fun t17 H=>
 zaf 1 t6 fun t18=>
 zar 1 t18 t17 H fun H=>
 zaf 1 t6 fun t19=>
 zae false 1 t19 H fun t20=>
 zad .eql false t20 (.str []) fun t21=>
 zag t21
 (zaL [(.int .i64 0),(.str []),(.int .i64 0)] [(0,1),(1,1),(2,1)] [] fun t22=>
 zar 3 t4 t22 H fun H=>
 zae true 3 t4 H fun r0=>
 za6 [r0,(.int .i64 2)] (K · H))
 (zgd t4 t6 H K)))
theorem zDW {t0 t1 : AV} {H : zaa} {K : Kt} (h : HSc H → zoA t0 t1 H K) : ACalls tP znh [t0,t1] H K:=
 zax (M:=zDU) Try.func102 (c:=zDV) (by kernel_rfl) (fun hs=>Eq.mpr (by kernel_rfl) (h hs))
def zEt (_ : Nat) : List Bool:=[]
noncomputable def zEu : Code:=Try.f109.body.getD .skip
def zvd (t0 : AV) (H : zaa) (K : Kt) : Prop:=
 zad .geq false t0 (.int .u8 97) fun t4=>
 zab t4 true H (fun K'=>K' t0 H) fun t6 H=>
 zab t4 true H (fun K'=>zad .leq false t6 (.int .u8 122) (K' · H)) fun t7 H=>
 zah t4 t7 (.bool false) fun t8=>
 K t8 H
theorem zEv {t0 : AV} {H : zaa} {K : Kt} (h : HSc H → zvd t0 H K) : ACalls tP ziy [t0] H K:=
 zax (M:=zEt) Try.func109 (c:=zEu) (by kernel_rfl) (fun hs=>Eq.mpr (by kernel_rfl) (h hs))
def zEw (_ : Nat) : List Bool:=[]
noncomputable def zEx : Code:=Try.f110.body.getD .skip
def zve (t0 : AV) (H : zaa) (K : Kt) : Prop:=
 zad .geq false t0 (.int .u8 65) fun t4=>
 zab t4 true H (fun K'=>K' t0 H) fun t6 H=>
 zab t4 true H (fun K'=>zad .leq false t6 (.int .u8 90) (K' · H)) fun t7 H=>
 zah t4 t7 (.bool false) fun t8=>
 K t8 H
theorem zEy {t0 : AV} {H : zaa} {K : Kt} (h : HSc H → zve t0 H K) : ACalls tP zfU [t0] H K:=
 zax (M:=zEw) Try.func110 (c:=zEx) (by kernel_rfl) (fun hs=>Eq.mpr (by kernel_rfl) (h hs))
def zEz (_ : Nat) : List Bool:=[]
noncomputable def zEA : Code:=Try.f111.body.getD .skip
def zvf (t0 : AV) (H : zaa) (K : Kt) : Prop:=
 zad .geq false t0 (.int .u8 48) fun t4=>
 zab t4 true H (fun K'=>K' t0 H) fun t6 H=>
 zab t4 true H (fun K'=>zad .leq false t6 (.int .u8 57) (K' · H)) fun t7 H=>
 zah t4 t7 (.bool false) fun t8=>
 K t8 H
theorem zEB {t0 : AV} {H : zaa} {K : Kt} (h : HSc H → zvf t0 H K) : ACalls tP zgZ [t0] H K:=
 zax (M:=zEz) Try.func111 (c:=zEA) (by kernel_rfl) (fun hs=>Eq.mpr (by kernel_rfl) (h hs))
def zjw : Nat → List Bool
 | 3=>rl false [0,1,2,2,13]
 | _=>[]
noncomputable def zoL : Code:=Try.f112.body.getD .skip
noncomputable def zES : List ResultVar:=Try.f112.results.toList
def zjy (t0 t3 t4 : AV) : List AV:=t0 :: ux 2 (t3 :: t4 :: ux 13 [])
def zEQ : List Bool:=zjw 3
noncomputable def zEO : Code:=zan [1,1,0,1,0,0] zoL
def zEN (K : Kt) : AExit → List AV → zaa → Prop:=zao tP zjw [1,1,0,1,0] zoL (zau tP zES K)
def zoM (t0 t3 t4 : AV) (H : zaa) (K : Kt) : Prop:=ALoop tP zEO (zEN K) (zjy t0 t3 t4) H
def zjx (t0 t3 t4 : AV) (H : zaa) (K : Kt) (Kb3 : Lt) : Prop:=
 zaj 1 t3 fun t8=>
 zad .lss false t4 t8 fun t9=>
 zag t9
 (zai 1 t3 t4 fun t14=>
 zae false 1 t14 H fun t15=>
 zad .eql false t15 t0 fun t17=>
 zag t17
 (K (.bool true) H)
 (zad .add false t4 (.int .i64 1) fun t11=>
 Kb3 (zjy t0 t3 t11) H))
 (K (.bool false) H)
def zvn (t0 : AV) (H : zaa) (K : Kt) : Prop:=
 zav 1 [(.str [])] 28 [(0,(.str [97,114,114,97,121])),(1,(.str [98,111,111,108])),(2,(.str [99,97,116,99,104])),(3,(.str [100,97,116,97])),(4,(.str [101,108,115,101])),(5,(.str [101,110,100])),(6,(.str [102,97,108,115,101])),(7,(.str [102,110])),(8,(.str [102,117,110])),(9,(.str [103,101,116])),(10,(.str [105,102])),(11,(.str [105,110])),(12,(.str [105,110,116])),(13,(.str [108,101,110])),(14,(.str [108,101,116])),(15,(.str [109,97,116,99,104])),(16,(.str [110,101,119])),(17,(.str [114,97,105,115,101])),(18,(.str [114,101,97,100])),(19,(.str [114,101,102])),(20,(.str [115,101,116])),(21,(.str [116,104,101,110])),(22,(.str [116,105,99,107])),(23,(.str [116,114,117,101])),(24,(.str [116,114,121])),(25,(.str [117,110,105,116])),(26,(.str [119,105,116,104])),(27,(.str [119,114,105,116,101]))] fun t5=>
 zoM t0 t5 (.int .i64 0) H K
theorem zEP {t0 t3 t4 : AV} {H : zaa} {K : Kt} (Inv : Nat → AV → zaa → Prop) (n : Nat) (h0 : HSc H → Inv n t4 H)
  (round : Rd1 (fun t4=>zjy t0 t3 t4) (fun t4=>fun H Kb3=>zjx t0 t3 t4 H K Kb3) H Inv) : zoM t0 t3 t4 H K:=
 lp1 (M:=zjw) zEQ t4 (by kernel_rfl) Inv n h0 round
theorem zER {t0 : AV} {H : zaa} {K : Kt} (h : HSc H → zvn t0 H K) : ACalls tP ziA [t0] H K:=
 zax (M:=zjw) Try.func112 (c:=zoL) (by kernel_rfl) (fun hs=>Eq.mpr (by kernel_rfl) (h hs))
def zjz : Nat → List Bool
 | 3=>rl false [0,1,3,2,17]
 | _=>[]
noncomputable def zoO : Code:=Try.f113.body.getD .skip
noncomputable def zEY : List ResultVar:=Try.f113.results.toList
def zjA (t0 t4 t5 : AV) : List AV:=t0 :: ux 3 (t4 :: t5 :: ux 17 [])
def zEW : List Bool:=zjz 3
noncomputable def zEU : Code:=zan [1,1,0,1,0,0] zoO
def zET (K : Kt) : AExit → List AV → zaa → Prop:=zao tP zjz [1,1,0,1,0] zoO (zau tP zEY K)
def zvp (t0 t4 t5 : AV) (H : zaa) (K : Kt) : Prop:=ALoop tP zEU (zET K) (zjA t0 t4 t5) H
def zoN (t0 t4 t5 : AV) (H : zaa) (K : Kt) (Kb3 : Lt) : Prop:=
 zaj 0 t0 fun t8=>
 zad .lss false t5 t8 fun t9=>
 zag t9
 (zad .mul false t4 (.int .i64 10) fun t13=>
 zbM t0 t5 fun t16=>
 zad .sub false t16 (.int .u8 48) fun t17=>
 zdb .i64 t17 fun t18=>
 zad .add false t13 t18 fun t19=>
 zad .gtr false t19 (.int .i64 1000000) fun t21=>
 zag t21
 (za6 [(.int .i64 0),(.bool false)] (K · H))
 (zad .add false t5 (.int .i64 1) fun t11=>
 Kb3 (zjA t0 t19 t11) H))
 (za6 [t4,(.bool true)] (K · H))
def zvo (t0 : AV) (H : zaa) (K : Kt) : Prop:=
 zvp t0 (.int .i64 0) (.int .i64 0) H K
theorem zEV {t0 t4 t5 : AV} {H : zaa} {K : Kt} (Inv : Nat → AV → AV → zaa → Prop) (n : Nat) (h0 : HSc H → Inv n t4 t5 H)
  (round : Rd2 (fun t4=>fun t5=>zjA t0 t4 t5) (fun t4=>fun t5=>fun H Kb3=>zoN t0 t4 t5 H K Kb3) H Inv) : zvp t0 t4 t5 H K:=
 lp2 (M:=zjz) zEW t4 t5 (by kernel_rfl) Inv n h0 round
theorem zEX {t0 : AV} {H : zaa} {K : Kt} (h : HSc H → zvo t0 H K) : ACalls tP zfV [t0] H K:=
 zax (M:=zjz) Try.func113 (c:=zoO) (by kernel_rfl) (fun hs=>Eq.mpr (by kernel_rfl) (h hs))
def zjB : Nat → List Bool
 | 5=>rl false [0,1,2,2,30]
 | _=>[]
noncomputable def zoP : Code:=Try.f114.body.getD .skip
noncomputable def zE4 : List ResultVar:=Try.f114.results.toList
def zjD (t0 t3 t4 : AV) : List AV:=t0 :: ux 2 (t3 :: t4 :: ux 30 [])
def zE2 : List Bool:=zjB 5
noncomputable def zE0 : Code:=zan [1,1,1,0,1,0,0] zoP
def zEZ (K : Kt) : AExit → List AV → zaa → Prop:=zao tP zjB [1,1,1,0,1,0] zoP (zau tP zE4 K)
def zoQ (t0 t3 t4 : AV) (H : zaa) (K : Kt) : Prop:=ALoop tP zE0 (zEZ K) (zjD t0 t3 t4) H
def zjC (t0 t3 t4 : AV) (H : zaa) (K : Kt) (Kb5 : Lt) : Prop:=
 zaj 0 t3 fun t25=>
 zad .lss false t4 t25 fun t26=>
 zag t26
 (zac H (fun K'=>K' t0 H) fun t29=>
 zac H (fun K'=>zbM t29 (.int .i64 0) (K' · H)) fun t30=>
 zac H (fun K'=>K' t3 H) fun t31=>
 zac H (fun K'=>K' t4 H) fun t32=>
 zac H (fun K'=>zbM t31 t32 (K' · H)) fun t33=>
 zac H (fun K'=>zad .eql false t30 t33 (K' · H)) fun t34=>
 zag t34
 (K (.int .i64 1) H)
 (zad .add false t4 (.int .i64 1) fun t28=>
 Kb5 (zjD t0 t3 t28) H))
 (K (.int .i64 0) H)
def zge (t0 : AV) (H : zaa) (K : Kt) : Prop:=
 zaj 0 t0 fun t6=>
 zad .geq false t6 (.int .i64 2) fun t7=>
 zab t7 true H (fun K'=>K' t0 H) fun t9 H=>
 zab t7 true H (fun K'=>za2 0 0 t9 none (some (.int .i64 2)) (K' · H)) fun t10 H=>
 zab t7 true H (fun K'=>zad .eql false t10 (.str [45,62]) (K' · H)) fun t11 H=>
 zab t7 true H (fun K'=>K' t11 H) fun t12 H=>
 zab t12 false H (fun K'=>K' t0 H) fun t13 H=>
 zab t12 false H (fun K'=>za2 0 0 t13 none (some (.int .i64 2)) (K' · H)) fun t14 H=>
 zab t12 false H (fun K'=>zad .eql false t14 (.str [60,61]) (K' · H)) fun t15 H=>
 zab t7 true H (fun K'=>zah t12 (.bool true) t15 (K' · H)) fun t16 H=>
 zab t7 true H (fun K'=>K' t16 H) fun t17 H=>
 zab t17 false H (fun K'=>K' t0 H) fun t18 H=>
 zab t17 false H (fun K'=>za2 0 0 t18 none (some (.int .i64 2)) (K' · H)) fun t19 H=>
 zab t17 false H (fun K'=>zad .eql false t19 (.str [61,61]) (K' · H)) fun t20 H=>
 zab t7 true H (fun K'=>zah t17 (.bool true) t20 (K' · H)) fun t21 H=>
 zah t7 t21 (.bool false) fun t22=>
 zag t22
 (K (.int .i64 2) H)
 (zoQ t0 (.str [40,41,44,61,124,43,45,42,47,37,60,59,95]) (.int .i64 0) H K)
theorem zE1 {t0 t3 t4 : AV} {H : zaa} {K : Kt} (Inv : Nat → AV → zaa → Prop) (n : Nat) (h0 : HSc H → Inv n t4 H)
  (round : Rd1 (fun t4=>zjD t0 t3 t4) (fun t4=>fun H Kb5=>zjC t0 t3 t4 H K Kb5) H Inv) : zoQ t0 t3 t4 H K:=
 lp1 (M:=zjB) zE2 t4 (by kernel_rfl) Inv n h0 round
theorem zE3 {t0 : AV} {H : zaa} {K : Kt} (h : HSc H → zge t0 H K) : ACalls tP zni [t0] H K:=
 zax (M:=zjB) Try.func114 (c:=zoP) (by kernel_rfl) (fun hs=>Eq.mpr (by kernel_rfl) (h hs))
def zFb (_ : Nat) : List Bool:=[]
noncomputable def zFc : Code:=Try.f116.body.getD .skip
def zvs (t0 : AV) (H : zaa) (K : Kt) : Prop:=
 zad .geq false t0 (.int .u8 97) fun t4=>
 zab t4 true H (fun K'=>K' t0 H) fun t6 H=>
 zab t4 true H (fun K'=>zad .leq false t6 (.int .u8 122) (K' · H)) fun t7 H=>
 zah t4 t7 (.bool false) fun t8=>
 K t8 H
theorem zFd {t0 : AV} {H : zaa} {K : Kt} (h : HSc H → zvs t0 H K) : ACalls tP ziC [t0] H K:=
 zax (M:=zFb) Try.func116 (c:=zFc) (by kernel_rfl) (fun hs=>Eq.mpr (by kernel_rfl) (h hs))
def zFe (_ : Nat) : List Bool:=[]
noncomputable def zFf : Code:=Try.f117.body.getD .skip
def zvt (t0 : AV) (H : zaa) (K : Kt) : Prop:=
 zad .geq false t0 (.int .u8 65) fun t4=>
 zab t4 true H (fun K'=>K' t0 H) fun t6 H=>
 zab t4 true H (fun K'=>zad .leq false t6 (.int .u8 90) (K' · H)) fun t7 H=>
 zah t4 t7 (.bool false) fun t8=>
 K t8 H
theorem zFg {t0 : AV} {H : zaa} {K : Kt} (h : HSc H → zvt t0 H K) : ACalls tP zg0 [t0] H K:=
 zax (M:=zFe) Try.func117 (c:=zFf) (by kernel_rfl) (fun hs=>Eq.mpr (by kernel_rfl) (h hs))
def zjG : Nat → List Bool
 | 2=>rl false [0,2,3,1,16]
 | _=>[]
noncomputable def zoU : Code:=Try.f118.body.getD .skip
noncomputable def zFm : List ResultVar:=Try.f118.results.toList
def zjH (t0 t1 t5 : AV) : List AV:=t0 :: t1 :: ux 3 (t5 :: ux 16 [])
def zFk : List Bool:=zjG 2
noncomputable def zFi : Code:=zan [1,1,0,0,0] zoU
def zFh (K : Kt) : AExit → List AV → zaa → Prop:=zao tP zjG [1,1,0,0] zoU (zau tP zFm K)
def zvv (t0 t1 t5 : AV) (H : zaa) (K : Kt) : Prop:=ALoop tP zFi (zFh K) (zjH t0 t1 t5) H
def zoT (t0 t1 t5 : AV) (H : zaa) (K : Kt) (Kb2 : Lt) : Prop:=
 zaj 0 t0 fun t8=>
 zad .lss false t5 t8 fun t9=>
 zab t9 true H (fun K'=>K' t1 H) fun t11 H=>
 zab t9 true H (fun K'=>K' t0 H) fun t12 H=>
 zab t9 true H (fun K'=>K' t5 H) fun t13 H=>
 zab t9 true H (fun K'=>zbM t12 t13 (K' · H)) fun t14 H=>
 zab t9 true H (fun K'=>aCallV tP t11 [t14] H K') fun t15 H=>
 zah t9 t15 (.bool false) fun t16=>
 zag t16
 (zad .add false t5 (.int .i64 1) fun t18=>
 Kb2 (zjH t0 t1 t18) H)
 (za2 0 0 t0 none (some t5) fun t21=>
 K t21 H)
def zvu (t0 t1 : AV) (H : zaa) (K : Kt) : Prop:=
 zvv t0 t1 (.int .i64 0) H K
theorem zFj {t0 t1 t5 : AV} {H : zaa} {K : Kt} (Inv : Nat → AV → zaa → Prop) (n : Nat) (h0 : HSc H → Inv n t5 H)
  (round : Rd1 (fun t5=>zjH t0 t1 t5) (fun t5=>fun H Kb2=>zoT t0 t1 t5 H K Kb2) H Inv) : zvv t0 t1 t5 H K:=
 lp1 (M:=zjG) zFk t5 (by kernel_rfl) Inv n h0 round
theorem zFl {t0 t1 : AV} {H : zaa} {K : Kt} (h : HSc H → zvu t0 t1 H K) : ACalls tP ziD [t0,t1] H K:=
 zax (M:=zjG) Try.func118 (c:=zoU) (by kernel_rfl) (fun hs=>Eq.mpr (by kernel_rfl) (h hs))
def zFn (_ : Nat) : List Bool:=[]
noncomputable def zFo : Code:=Try.f119.body.getD .skip
def zvw (t0 : AV) (H : zaa) (K : Kt) : Prop:=
 ACalls tP ziC [t0] H fun t4 H=>
 zab t4 false H (fun K'=>K' t0 H) fun t6 H=>
 zab t4 false H (fun K'=>ACalls tP zg0 [t6] H K') fun t7 H=>
 zah t4 (.bool true) t7 fun t8=>
 zab t8 false H (fun K'=>K' t0 H) fun t10 H=>
 zab t8 false H (fun K'=>ACalls tP zfa [t10] H K') fun t11 H=>
 zah t8 (.bool true) t11 fun t12=>
 zab t12 false H (fun K'=>K' t0 H) fun t14 H=>
 zab t12 false H (fun K'=>zad .eql false t14 (.int .u8 95) (K' · H)) fun t15 H=>
 zah t12 (.bool true) t15 fun t16=>
 K t16 H
theorem zFp {t0 : AV} {H : zaa} {K : Kt} (h : HSc H → zvw t0 H K) : ACalls tP zg1 [t0] H K:=
 zax (M:=zFn) Try.func119 (c:=zFo) (by kernel_rfl) (fun hs=>Eq.mpr (by kernel_rfl) (h hs))
def zFq (_ : Nat) : List Bool:=[]
noncomputable def zFr : Code:=Try.f120.body.getD .skip
def zbp (t4 : AV) (H : zaa) (K : Kt) : Prop:=
 zag t4
 (K (.bool true) H)
 (K (.bool false) H)
def zvx (t0 : AV) (H : zaa) (K : Kt) : Prop:=
 zad .eql false t0 (.str [97,114,114,97,121]) fun t5=>
 zag t5
 (zbp t5 H K)
 (zad .eql false t0 (.str [98,111,111,108]) fun t6=>
 zag t6
 (zbp t6 H K)
 (zad .eql false t0 (.str [99,97,116,99,104]) fun t7=>
 zag t7
 (zbp t7 H K)
 (zad .eql false t0 (.str [100,97,116,97]) fun t8=>
 zag t8
 (zbp t8 H K)
 (zad .eql false t0 (.str [101,108,115,101]) fun t9=>
 zag t9
 (zbp t9 H K)
 (zad .eql false t0 (.str [101,110,100]) fun t10=>
 zag t10
 (zbp t10 H K)
 (zad .eql false t0 (.str [102,97,108,115,101]) fun t11=>
 zag t11
 (zbp t11 H K)
 (zad .eql false t0 (.str [102,110]) fun t12=>
 zag t12
 (zbp t12 H K)
 (zad .eql false t0 (.str [102,117,110]) fun t13=>
 zag t13
 (zbp t13 H K)
 (zad .eql false t0 (.str [103,101,116]) fun t14=>
 zag t14
 (zbp t14 H K)
 (zad .eql false t0 (.str [105,102]) fun t15=>
 zag t15
 (zbp t15 H K)
 (zad .eql false t0 (.str [105,110]) fun t16=>
 zag t16
 (zbp t16 H K)
 (zad .eql false t0 (.str [105,110,116]) fun t17=>
 zag t17
 (zbp t17 H K)
 (zad .eql false t0 (.str [108,101,110]) fun t18=>
 zag t18
 (zbp t18 H K)
 (zad .eql false t0 (.str [108,101,116]) fun t19=>
 zag t19
 (zbp t19 H K)
 (zad .eql false t0 (.str [109,97,116,99,104]) fun t20=>
 zag t20
 (zbp t20 H K)
 (zad .eql false t0 (.str [110,101,119]) fun t21=>
 zag t21
 (zbp t21 H K)
 (zad .eql false t0 (.str [114,97,105,115,101]) fun t22=>
 zag t22
 (zbp t22 H K)
 (zad .eql false t0 (.str [114,101,97,100]) fun t23=>
 zag t23
 (zbp t23 H K)
 (zad .eql false t0 (.str [114,101,102]) fun t24=>
 zag t24
 (zbp t24 H K)
 (zad .eql false t0 (.str [115,101,116]) fun t25=>
 zag t25
 (zbp t25 H K)
 (zad .eql false t0 (.str [116,104,101,110]) fun t26=>
 zag t26
 (zbp t26 H K)
 (zad .eql false t0 (.str [116,105,99,107]) fun t27=>
 zag t27
 (zbp t27 H K)
 (zad .eql false t0 (.str [116,114,117,101]) fun t28=>
 zag t28
 (zbp t28 H K)
 (zad .eql false t0 (.str [116,114,121]) fun t29=>
 zag t29
 (zbp t29 H K)
 (zad .eql false t0 (.str [117,110,105,116]) fun t30=>
 zag t30
 (zbp t30 H K)
 (zad .eql false t0 (.str [119,105,116,104]) fun t31=>
 zag t31
 (zbp t31 H K)
 (zad .eql false t0 (.str [119,114,105,116,101]) fun t32=>
 zbp t32 H K)))))))))))))))))))))))))))
theorem zFs {t0 : AV} {H : zaa} {K : Kt} (h : HSc H → zvx t0 H K) : ACalls tP znj [t0] H K:=
 zax (M:=zFq) Try.func120 (c:=zFr) (by kernel_rfl) (fun hs=>Eq.mpr (by kernel_rfl) (h hs))
def zFt (_ : Nat) : List Bool:=[]
noncomputable def zFu : Code:=Try.f121.body.getD .skip
def zvy (t0 : AV) (H : zaa) (K : Kt) : Prop:=
 zad .geq false t0 (.int .u8 48) fun t4=>
 zab t4 true H (fun K'=>K' t0 H) fun t6 H=>
 zab t4 true H (fun K'=>zad .leq false t6 (.int .u8 57) (K' · H)) fun t7 H=>
 zah t4 t7 (.bool false) fun t8=>
 K t8 H
theorem zFv {t0 : AV} {H : zaa} {K : Kt} (h : HSc H → zvy t0 H K) : ACalls tP zfa [t0] H K:=
 zax (M:=zFt) Try.func121 (c:=zFu) (by kernel_rfl) (fun hs=>Eq.mpr (by kernel_rfl) (h hs))
def zjI : Nat → List Bool
 | 3=>rl false [0,1,2,1,2,2,13]
 | _=>[]
noncomputable def zoW : Code:=Try.f122.body.getD .skip
noncomputable def zFG : List ResultVar:=Try.f122.results.toList
def zjJ (t0 t3 t6 t7 : AV) : List AV:=t0 :: ux 2 (t3 :: ux 2 (t6 :: t7 :: ux 13 []))
def zFE : List Bool:=zjI 3
noncomputable def zFC : Code:=zan [1,1,0,1,0,0] zoW
def zFB (K : Kt) : AExit → List AV → zaa → Prop:=zao tP zjI [1,1,0,1,0] zoW (zau tP zFG K)
def zvB (t0 t3 t6 t7 : AV) (H : zaa) (K : Kt) : Prop:=ALoop tP zFC (zFB K) (zjJ t0 t3 t6 t7) H
def zoV (t0 t3 t6 t7 : AV) (H : zaa) (K : Kt) (Kb3 : Lt) : Prop:=
 zad .lss false t7 t6 fun t8=>
 zag t8
 (zad .mul false t3 (.int .i64 10) fun t11=>
 zbM t0 t7 fun t14=>
 zad .sub false t14 (.int .u8 48) fun t15=>
 zdb .i64 t15 fun t16=>
 zad .add false t11 t16 fun t17=>
 zad .gtr false t17 (.int .i64 1000000) fun t19=>
 zag t19
 (K (.bool false) H)
 (zad .add false t7 (.int .i64 1) fun t20=>
 Kb3 (zjJ t0 t17 t6 t20) H))
 (K (.bool true) H)
def zvA (t0 : AV) (H : zaa) (K : Kt) : Prop:=
 zaj 0 t0 fun t6=>
 zvB t0 (.int .i64 0) t6 (.int .i64 0) H K
theorem zFD {t0 t3 t6 t7 : AV} {H : zaa} {K : Kt} (Inv : Nat → AV → AV → zaa → Prop) (n : Nat) (h0 : HSc H → Inv n t3 t7 H)
  (round : Rd2 (fun t3=>fun t7=>zjJ t0 t3 t6 t7) (fun t3=>fun t7=>fun H Kb3=>zoV t0 t3 t6 t7 H K Kb3) H Inv) : zvB t0 t3 t6 t7 H K:=
 lp2 (M:=zjI) zFE t3 t7 (by kernel_rfl) Inv n h0 round
theorem zFF {t0 : AV} {H : zaa} {K : Kt} (h : HSc H → zvA t0 H K) : ACalls tP zg3 [t0] H K:=
 zax (M:=zjI) Try.func122 (c:=zoW) (by kernel_rfl) (fun hs=>Eq.mpr (by kernel_rfl) (h hs))
def zFH (_ : Nat) : List Bool:=[]
noncomputable def zFI : Code:=Try.f123.body.getD .skip
def zcw (t0 t16 : AV) (H : zaa) (K : Kt) : Prop:=
 zag t16
 (za2 0 0 t0 none (some (.int .i64 1)) fun t31=>
 K t31 H)
 (K (.str []) H)
def zjK (t0 : AV) (H : zaa) (K : Kt) : Prop:=
 za2 0 0 t0 none (some (.int .i64 1)) fun t15=>
 zad .eql false t15 (.str [40]) fun t17=>
 zag t17
 (zcw t0 t17 H K)
 (zad .eql false t15 (.str [41]) fun t18=>
 zag t18
 (zcw t0 t18 H K)
 (zad .eql false t15 (.str [44]) fun t19=>
 zag t19
 (zcw t0 t19 H K)
 (zad .eql false t15 (.str [61]) fun t20=>
 zag t20
 (zcw t0 t20 H K)
 (zad .eql false t15 (.str [124]) fun t21=>
 zag t21
 (zcw t0 t21 H K)
 (zad .eql false t15 (.str [43]) fun t22=>
 zag t22
 (zcw t0 t22 H K)
 (zad .eql false t15 (.str [45]) fun t23=>
 zag t23
 (zcw t0 t23 H K)
 (zad .eql false t15 (.str [42]) fun t24=>
 zag t24
 (zcw t0 t24 H K)
 (zad .eql false t15 (.str [47]) fun t25=>
 zag t25
 (zcw t0 t25 H K)
 (zad .eql false t15 (.str [37]) fun t26=>
 zag t26
 (zcw t0 t26 H K)
 (zad .eql false t15 (.str [60]) fun t27=>
 zag t27
 (zcw t0 t27 H K)
 (zad .eql false t15 (.str [59]) fun t28=>
 zag t28
 (zcw t0 t28 H K)
 (zad .eql false t15 (.str [95]) fun t29=>
 zcw t0 t29 H K))))))))))))
def zfn (t0 t8 : AV) (H : zaa) (K : Kt) : Prop:=
 zag t8
 (za2 0 0 t0 none (some (.int .i64 2)) fun t13=>
 K t13 H)
 (zjK t0 H K)
def zgf (t0 : AV) (H : zaa) (K : Kt) : Prop:=
 zaj 0 t0 fun t4=>
 zad .geq false t4 (.int .i64 2) fun t5=>
 zag t5
 (za2 0 0 t0 none (some (.int .i64 2)) fun t7=>
 zad .eql false t7 (.str [45,62]) fun t9=>
 zag t9
 (zfn t0 t9 H K)
 (zad .eql false t7 (.str [60,61]) fun t10=>
 zag t10
 (zfn t0 t10 H K)
 (zad .eql false t7 (.str [61,61]) fun t11=>
 zfn t0 t11 H K)))
 (zjK t0 H K)
theorem zFJ {t0 : AV} {H : zaa} {K : Kt} (h : HSc H → zgf t0 H K) : ACalls tP znk [t0] H K:=
 zax (M:=zFH) Try.func123 (c:=zFI) (by kernel_rfl) (fun hs=>Eq.mpr (by kernel_rfl) (h hs))
def zL1 (_ : Nat) : List Bool:=[]
noncomputable def zL2 : Code:=Try.f66.body.getD .skip
def zx1 (t0 : AV) (H : zaa) (K : Kt) : Prop:=
 ACalls tP znK [t0] H fun t8 H=>
 zbb t8 0 fun t9=>
 zbb t8 1 fun t10=>
 zbb t8 2 fun t11=>
 zad .eql false t11 (.int .i64 0) fun t13=>
 zab t13 true H (fun K'=>K' t9 H) fun t15 H=>
 zab t13 true H (fun K'=>zaj 1 t15 (K' · H)) fun t16 H=>
 zab t13 true H (fun K'=>zad .eql false t16 (.int .i64 2) (K' · H)) fun t17 H=>
 zah t13 t17 (.bool false) fun t18=>
 zab t18 true H (fun K'=>K' t9 H) fun t20 H=>
 zab t18 true H (fun K'=>zai 3 t20 (.int .i64 0) (K' · H)) fun t21 H=>
 zab t18 true H (fun K'=>zaf 0 t21 (K' · H)) fun t22 H=>
 zab t18 true H (fun K'=>zae false 1 t22 H (K' · H)) fun t23 H=>
 zab t18 true H (fun K'=>zad .eql false t23 (.int .i64 2) (K' · H)) fun t24 H=>
 zah t18 t24 (.bool false) fun t25=>
 zab t25 true H (fun K'=>K' t9 H) fun t27 H=>
 zab t25 true H (fun K'=>zai 3 t27 (.int .i64 0) (K' · H)) fun t28 H=>
 zab t25 true H (fun K'=>zaf 1 t28 (K' · H)) fun t29 H=>
 zab t25 true H (fun K'=>zae false 1 t29 H (K' · H)) fun t30 H=>
 zab t25 true H (fun K'=>K' t0 H) fun t31 H=>
 zab t25 true H (fun K'=>zad .eql false t30 t31 (K' · H)) fun t32 H=>
 zah t25 t32 (.bool false) fun t33=>
 K t33 H
theorem zL3 {t0 : AV} {H : zaa} {K : Kt} (h : HSc H → zx1 t0 H K) : ACalls tP ziM [t0] H K:=
 zax (M:=zL1) Try.func66 (c:=zL2) (by kernel_rfl) (fun hs=>Eq.mpr (by kernel_rfl) (h hs))
def zMV (_ : Nat) : List Bool:=[]
noncomputable def zMW : Code:=Try.f77.body.getD .skip
def zym (t0 : AV) (H : zaa) (K : Kt) : Prop:=
 ACalls tP znQ [t0] H fun t8 H=>
 zbb t8 0 fun t9=>
 zbb t8 1 fun t10=>
 zbb t8 2 fun t11=>
 zad .eql false t11 (.int .i64 0) fun t13=>
 zab t13 true H (fun K'=>K' t9 H) fun t15 H=>
 zab t13 true H (fun K'=>zaj 1 t15 (K' · H)) fun t16 H=>
 zab t13 true H (fun K'=>zad .eql false t16 (.int .i64 2) (K' · H)) fun t17 H=>
 zah t13 t17 (.bool false) fun t18=>
 zab t18 true H (fun K'=>K' t9 H) fun t20 H=>
 zab t18 true H (fun K'=>zai 3 t20 (.int .i64 0) (K' · H)) fun t21 H=>
 zab t18 true H (fun K'=>zaf 0 t21 (K' · H)) fun t22 H=>
 zab t18 true H (fun K'=>zae false 1 t22 H (K' · H)) fun t23 H=>
 zab t18 true H (fun K'=>zad .eql false t23 (.int .i64 2) (K' · H)) fun t24 H=>
 zah t18 t24 (.bool false) fun t25=>
 zab t25 true H (fun K'=>K' t9 H) fun t27 H=>
 zab t25 true H (fun K'=>zai 3 t27 (.int .i64 0) (K' · H)) fun t28 H=>
 zab t25 true H (fun K'=>zaf 1 t28 (K' · H)) fun t29 H=>
 zab t25 true H (fun K'=>zae false 1 t29 H (K' · H)) fun t30 H=>
 zab t25 true H (fun K'=>K' t0 H) fun t31 H=>
 zab t25 true H (fun K'=>zad .eql false t30 t31 (K' · H)) fun t32 H=>
 zah t25 t32 (.bool false) fun t33=>
 K t33 H
theorem zMX {t0 : AV} {H : zaa} {K : Kt} (h : HSc H → zym t0 H K) : ACalls tP ziP [t0] H K:=
 zax (M:=zMV) Try.func77 (c:=zMW) (by kernel_rfl) (fun hs=>Eq.mpr (by kernel_rfl) (h hs))
end Go.Proofs.Ytkdmpbhbmmhijaa
