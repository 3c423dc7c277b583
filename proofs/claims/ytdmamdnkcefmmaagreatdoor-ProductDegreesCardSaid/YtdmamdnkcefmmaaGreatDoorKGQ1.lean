import Derived.Test.YtdmamdnkcefmmaaGreatDoorKOD
import Derived.Test.YtdmamdnkcefmmaaGreatDoorVT
import Derived.Test.YtdmamdnkcefmmaaGreatDoorKNum
import Derived.Test.YtdmamdnkcefmmaaGreatDoorProg
import Derived.KernelRfl
import Derived.WalkKit
import Derived.BigCall
import Derived.Laws.Externs
import Derived.Laws.Entries
import Derived.Lib.Builder
import Derived.Lib.AppendStr
import Derived.Lib.UnsafeStr
import Derived.Test.YtdmamdnkcefmmaaGreatDoorKI7
import Derived.RegionTactic
import Derived.Test.YtdmamdnkcefmmaaGreatDoorKTW3
import Derived.Shelf.Spec.SlicesGrow
set_option linter.unusedSimpArgs false
set_option linter.unusedVariables false
set_option maxRecDepth 8000
namespace Go.Proofs.YtdmamdnkcefmmaaGreatDoor
open Go Go.Abs
mutual
def wrI:IT→List UInt8
 | .mk n ks=>UInt8.ofNat (48+n.toNat)::(if ks.length=0 then [] else 40::(zbb ks++[41]))
def zbb:List IT→List UInt8
 | []=>[]
 | k::ks=>wrI k++44::zbb ks
end
mutual
def Dig:IT→Prop
 | .mk n ks=>0≤n∧n≤9∧zcx ks
def zcx:List IT→Prop
 | []=>True
 | k::ks=>Dig k∧zcx ks
end
theorem ztd:∀ {ks:List IT},zcx ks→∀ k∈ks,Dig k
 | k::ks,h,x,hx=>by
  rw[zcx]at h
  rcases List.mem_cons.1 hx with rfl | hx
  ·exact h.1
  ·exact ztd h.2 x hx
theorem zmZ:∀ {ks:List IT},(∀ k∈ks,Dig k)→zcx ks
 | [],_=>by rw[zcx];trivial
 | k::ks,h=>by rw[zcx];exact⟨h k List.mem_cons_self,zmZ fun x hx=>h x (List.mem_cons_of_mem _ hx)⟩
theorem zCY {a b:Int} (ha:0≤a) (ha9:a≤9) (hb:0≤b) (hb9:b≤9) (h:UInt8.ofNat (48+a.toNat)=UInt8.ofNat (48+b.toNat)):a=b:=by
 have:=congrArg UInt8.toNat h
 rw[UInt8.toNat_ofNat_of_lt' (by show _<256;omega),UInt8.toNat_ofNat_of_lt' (by show _<256;omega)]at this
 omega
theorem zus {a:Int} (ha:0≤a) (ha9:a≤9):UInt8.ofNat (48+a.toNat)≠41:=by
 intro h
 have:=congrArg UInt8.toNat h
 rw[UInt8.toNat_ofNat_of_lt' (by show _<256;omega)]at this
 simp at this;omega
theorem zpM (k:IT) (s:List UInt8):∃ r,wrI k++s=UInt8.ofNat (48+(zaQ k).toNat)::r:=by
 obtain⟨n,ks⟩:=k
 rw[wrI]
 exact⟨_,rfl⟩
theorem zte {k:IT} (h:Dig k):0≤zaQ k∧zaQ k≤9:=by
 obtain⟨n,ks⟩:=k
 rw[Dig]at h
 exact⟨h.1,h.2.1⟩
mutual
theorem zxw:∀ (i j:IT) (s s':List UInt8),Dig i→Dig j→s.head?≠some 40→s'.head?≠some 40→wrI i++s=wrI j++s'→i=j∧s=s'
 | .mk n ks,.mk m ls,s,s',hi,hj,h1,h2,h=>by
  rw[Dig]at hi hj
  rw[wrI,wrI,List.cons_append,List.cons_append,List.cons.injEq]at h
  obtain rfl:=zCY hi.1 hi.2.1 hj.1 hj.2.1 h.1
  have h':=h.2
  by_cases hk:ks.length=0
  ·obtain rfl:=List.eq_nil_of_length_eq_zero hk
   by_cases hl:ls.length=0
   ·obtain rfl:=List.eq_nil_of_length_eq_zero hl
    simp at h'
    exact⟨rfl,h'⟩
   ·rw[if_pos (show ([]:List IT).length=0 from rfl),if_neg hl]at h'
    rw[List.nil_append]at h'
    rw[h']at h1
    simp at h1
  ·by_cases hl:ls.length=0
   ·obtain rfl:=List.eq_nil_of_length_eq_zero hl
    rw[if_neg hk,if_pos (show ([]:List IT).length=0 from rfl),List.nil_append]at h'
    rw[←h']at h2
    simp at h2
   ·rw[if_neg hk,if_neg hl,List.cons_append,List.cons_append,List.cons.injEq]at h'
    have h3:=h'.2
    simp only[List.append_assoc,List.cons_append,List.nil_append]at h3
    obtain⟨e1,e2⟩:=zxu ks ls s s' hi.2.2 hj.2.2 h3
    exact⟨by rw[e1],e2⟩
theorem zxu:∀ (ks ls:List IT) (s s':List UInt8),zcx ks→zcx ls→zbb ks++41::s=zbb ls++41::s'→ks=ls∧s=s'
 | [],[],s,s',_,_,h=>by
  rw[zbb,List.nil_append,List.nil_append]at h
  simp at h
  exact⟨rfl,h⟩
 | [],l::ls,s,s',_,hl,h=>by
  rw[zcx]at hl
  rw[zbb,zbb,List.append_assoc,List.nil_append,List.cons_append]at h
  obtain⟨r,hr⟩:=zpM l (44::(zbb ls++41::s'))
  rw[hr]at h
  have h0:=(List.cons.inj h).1
  have:=zte hl.1
  exact absurd h0.symm (zus this.1 this.2)
 | k::ks,[],s,s',hk,_,h=>by
  rw[zcx]at hk
  rw[zbb,zbb,List.append_assoc,List.nil_append,List.cons_append]at h
  obtain⟨r,hr⟩:=zpM k (44::(zbb ks++41::s))
  rw[hr]at h
  have h0:=(List.cons.inj h).1
  have:=zte hk.1
  exact absurd h0 (zus this.1 this.2)
 | k::ks,l::ls,s,s',hk,hl,h=>by
  rw[zcx]at hk hl
  rw[zbb,zbb,List.append_assoc,List.append_assoc,List.cons_append,List.cons_append]at h
  obtain⟨e1,e2⟩:=zxw k l (44::(zbb ks++41::s)) (44::(zbb ls++41::s')) hk.1 hl.1 (by simp) (by simp) h
  rw[List.cons.injEq]at e2
  obtain⟨e3,e4⟩:=zxu ks ls s s' hk.2 hl.2 e2.2
  exact⟨by rw[e1,e3],e4⟩
end
theorem zxx {i j:IT} (hi:Dig i) (hj:Dig j) (h:wrI i=wrI j):i=j:=
 (zxw i j [] [] hi hj (by simp) (by simp) (by rw[h])).1
theorem zCX {data:List Dat} (h8:∀ D∈data,D.cons.length≤8):∀ (m:Nat) (i:IT),i.nodes≤m→∀ t:VT,0≤rdV data i t→Dig i:=by
 intro m
 induction m with
 | zero=>intro i h;have:=i.nodes_pos;omega
 | succ m ih=>
  have hA:∀ (l:List IT) (ts:List VT),IT.nodesL l≤m→l.length=ts.length→0≤rdA data l ts 0→zcx l:=by
   intro l ts hm hl h
   refine zmZ fun k hk=>?_
   obtain⟨j,hj,rfl⟩:=List.getElem_of_mem hk
   have:=(zf1 (data:=data) l ts 0 (by omega) hl h).1 j hj (by omega)
   exact ih l[j] (by have:=zd8 hj;omega) ts[j] this
  intro i hm t h
  obtain⟨n,ks⟩:=i
  obtain⟨k,tn,tks⟩:=t
  simp only[IT.nodes]at hm
  rw[Dig]
  by_cases k6:k=6
  ·subst k6
   rw[rdV]at h
   simp only[VT.kind,VT.kids,if_true]at h
   by_cases hn:n=0
   ·by_cases hl:tks.length=ks.length
    ·simp[hn,hl]at h
     exact⟨by omega,by omega,hA ks tks (by omega) hl.symm h⟩
    ·simp[hn,hl]at h
   ·simp[hn]at h
  ·by_cases k7:k=7
   ·subst k7
    rw[rdV]at h
    simp only[VT.kind,k6,if_false,if_true]at h
    by_cases hc:0≤n∧n≤6∧ks.length=0
    ·obtain rfl:=List.eq_nil_of_length_eq_zero hc.2.2
     exact⟨hc.1,by omega,by rw[zcx];trivial⟩
    ·rw[if_neg hc]at h;omega
   ·by_cases k5:k=5
    ·subst k5
     rw[zjm]at h
     by_cases hc:n=0∧ks.length≤6
     ·rw[if_pos hc]at h
      refine⟨by omega,by omega,zmZ fun x hx=>?_⟩
      obtain⟨j,hj,rfl⟩:=List.getElem_of_mem hx
      have hn:=zd8 hj
      obtain⟨c,eks,he⟩:∃ c eks,ks[j]=.mk c eks:=⟨zaQ ks[j],zaD ks[j],by cases ks[j];rfl⟩
      obtain⟨ps,e1,e2,e3⟩:=zED h8 h hj he
      have hrE:0≤rdE data [ks[j]] (.mk 5 tn tks) 0:=by
       have h0:=h
       rw[zpk ks]at h0
       exact (zjk h8 (.mk 5 tn tks) (ks.map fun x=>[x]) 0 (by omega) (by omega) h0).1 [ks[j]] (List.mem_map.2 ⟨ks[j],List.getElem_mem hj,rfl⟩)
      rw[he]at hrE
      obtain⟨c0,c8,_⟩:=zhm hrE
      rw[he,Dig]
      rw[he]at hn
      simp only[IT.nodes]at hn
      exact⟨c0,by omega,hA eks ps (by omega) e2.symm e3.1⟩
     ·rw[if_neg hc]at h;omega
    ·rw[rdV]at h
     simp only[VT.kind,k6,k7,k5,if_false]at h
     by_cases hc:n=0∧ks.length=0
     ·obtain rfl:=List.eq_nil_of_length_eq_zero hc.2
      exact⟨by omega,by omega,by rw[zcx];trivial⟩
     ·rw[if_neg hc]at h;omega
def kvS:List (IT × Nat)→Nat→List (List UInt8 × AV)
 | [],_=>[]
 | p::s,k=>(wrI p.1,.int .i64 k)::kvS s (k+1)
theorem zuW {i:IT} (hi:Dig i):∀ (s:List (IT × Nat)) (k:Nat),(∀ p∈s,Dig p.1)→(∀ p∈s,p.1≠i)→zbD (kvS s k) (wrI i)=none∧∀ c,zct (kvS s k) (wrI i) (.int .i64 (k+s.length:Nat))=kvS (s++[(i,c)]) k
 | [],k,_,_=>by simp[kvS,zbD,zct]
 | p::s,k,h,hn=>by
  have hb:(wrI p.1 == wrI i)=false:=by
   simp only[beq_eq_false_iff_ne,ne_eq]
   intro he
   exact hn p (by simp) (zxx (h p (by simp)) hi he)
  obtain⟨h1,h2⟩:=zuW hi s (k+1) (fun q hq=>h q (by simp[hq])) (fun q hq=>hn q (by simp[hq]))
  refine⟨by simp[kvS,zbD,hb,h1],fun c=>?_⟩
  have:=h2 c
  rw[show k+1+s.length=k+(p::s).length by simp;omega]at this
  simp[kvS,zct,hb]at this ⊢
  exact this
theorem zuY {i:IT} (hi:Dig i):∀ (s:List (IT × Nat)) (k j:Nat) (hj:j<s.length),(∀ p∈s,Dig p.1)→(s.map Prod.fst).Nodup→s[j].1=i→zbD (kvS s k) (wrI i)=some (.int .i64 (k+j:Nat))
 | p::s,k,0,hj,h,hn,he=>by
  simp at he
  simp[kvS,zbD,he]
 | p::s,k,j+1,hj,h,hn,he=>by
  simp only[List.getElem_cons_succ]at he
  simp only[List.map_cons,List.nodup_cons]at hn
  have hb:(wrI p.1 == wrI i)=false:=by
   simp only[beq_eq_false_iff_ne,ne_eq]
   intro hh
   have:=zxx (h p (by simp)) hi hh
   exact hn.1 (by rw[this,←he];exact List.mem_map.2 ⟨_,List.getElem_mem (by simpa using hj),rfl⟩)
  have:=zuY hi s (k+1) j (by simpa using hj) (fun q hq=>h q (by simp[hq])) hn.2 he
  rw[show k+1+j=k+(j+1) by omega]at this
  simp[kvS,zbD,hb,this]
theorem zuV:∀ (s s':List (IT × Nat)) (k:Nat),s.map Prod.fst=s'.map Prod.fst→kvS s k=kvS s' k
 | [],[],_,_=>rfl
 | [],_::_,_,h=>by simp at h
 | _::_,[],_,h=>by simp at h
 | p::s,q::s',k,h=>by
  simp only[List.map_cons,List.cons.injEq]at h
  rw[kvS,kvS,h.1,zuV s s' (k+1) h.2]
theorem zDy (s:List (IT × Nat)) {j:Nat} (hj:j<s.length) (c k:Nat):kvS (s.set j (s[j].1,c)) k=kvS s k:=by
 refine zuV _ _ _ ?_
 rw[List.map_set]
 refine List.ext_getElem (by simp) fun n h1 h2=>?_
 rw[List.getElem_set]
 split
 ·rename_i h;subst h;simp
 ·rfl
theorem zuX {n:Nat}:∀ (s:List (IT × Nat)) (k:Nat),((kvS s k).all fun p=>p.2.scV n)=true
 | [],_=>rfl
 | p::s,k=>by
  rw[kvS,List.all_cons,zuX s (k+1),Bool.and_true]
  simp[AV.scV,AV.scA,AV.scB]
mutual
theorem zpN:∀ i:IT,(wrI i).length+1≤4*i.nodes
 | .mk n ks=>by
  have:=zjL ks
  rw[wrI]
  simp only[IT.nodes]
  split
  ·simp;omega
  ·rename_i h
   have hl:=IT.len_le ks
   simp;omega
theorem zjL:∀ ks:List IT,(zbb ks).length≤4*IT.nodesL ks
 | []=>by simp[zbb]
 | k::ks=>by
  have:=zpN k
  have:=zjL ks
  rw[zbb]
  simp only[IT.nodesL,List.length_append,List.length_cons]
  omega
end
end Go.Proofs.YtdmamdnkcefmmaaGreatDoor
namespace Go.Proofs.YtdmamdnkcefmmaaGreatDoor
open Go Go.RowKit
set_option maxHeartbeats 1000000 in
set_option maxRecDepth 100000 in
theorem zCP (b:Nat) (w:World) (h0:w.cell? ⟨b,0,none⟩=some (.pointer (some ⟨b,0,none⟩))) :
  Calls tP zgZ #[.pointer (some ⟨b,0,none⟩)] w fun e w'=>e=.returned (.tuple #[])∧w'=w:=by
 obtain⟨j,hj⟩:∃ j,tP.info? 112=some j:=Option.isSome_iff_exists.1 (by kernel_rfl)
 go_enter Tryz.func169,Tryz.ntmps169
 go_wp2
 rw[Lib.run_neq_ptr_same w _ Tryz.underlying109 hj]
 go_wp2
 go_end0
 exact⟨rfl,rfl⟩
set_option maxHeartbeats 1000000 in
set_option maxRecDepth 100000 in
theorem zCO (b:Nat) (w:World) (h0:w.cell? ⟨b,0,none⟩=some (.pointer none)) (hsh:w.shape? b=some (112,2)) (hfz:w.frozen? ⟨b,0,none⟩=false) :
  Calls tP zgZ #[.pointer (some ⟨b,0,none⟩)] w fun e w'=>e=.returned (.tuple #[])∧w'=w.setCell ⟨b,0,none⟩ (.pointer (some ⟨b,0,none⟩)):=by
 obtain⟨j,hj⟩:∃ j,tP.info? 112=some j:=Option.isSome_iff_exists.1 (by kernel_rfl)
 have hjs:j.size=2:=by
  have:(tP.info? 112).map (·.size)=some 2:=by kernel_rfl
  rw[hj]at this
  simpa using this
 go_enter Tryz.func169,Tryz.ntmps169
 go_wp2
 rw[Lib.run_to_unsafe w ⟨b,0,none⟩ Tryz.underlying109 Tryz.underlying256 hj (by rw[hjs];decide) hsh (Nat.zero_lt_succ 1)]
 simp only[Result.andThen]
 rw[Oper.upon_value]
 go_wp2
 rw[run_callFunc_extern Tryz.func214 (by kernel_rfl) (by kernel_rfl) (by kernel_rfl) (e:=Extern.AbiNoEscape.same) (by kernel_rfl)]
 rw[Lib.run_noEscape]
 simp only[Result.andThen]
 rw[Oper.upon_value]
 go_wp2
 rw[Lib.run_from_unsafe w ⟨b,0,none⟩ Tryz.underlying256 Tryz.underlying109 hj hsh (by kernel_rfl)]
 simp only[Result.andThen]
 rw[Oper.upon_value]
 go_wp2
 go_end0
 exact⟨rfl,rfl⟩
end Go.Proofs.YtdmamdnkcefmmaaGreatDoor
namespace Go.Proofs.YtdmamdnkcefmmaaGreatDoor
open Go Go.RowKit
set_option maxHeartbeats 2000000 in
set_option maxRecDepth 100000 in
theorem zGF (b:Nat) (s:ByteArray) (v v':Value) (w w1 w2:World)
  (hcc:Calls tP zgZ #[.pointer (some ⟨b,0,none⟩)] w fun e w'=>e=.returned (.tuple #[])∧w'=w1)
  (hb1:w1.heap[b]?=some (.cells #[.pointer (some ⟨b,0,none⟩),v] 112 (0,0)))
  (hr:∀ ty,(Builtin.append_ #[110,9] ty #[v,.string s]).run tP w1=.ok v' w2)
  (hb2:w2.heap[b]?=some (.cells #[.pointer (some ⟨b,0,none⟩),v] 112 (0,0))) (hv':∃ ao n cap,v'=.slice ao n cap) :
  Calls tP ziq #[.pointer (some ⟨b,0,none⟩),.string s] w fun e w'=>e=.returned (.tuple #[.int .i64 s.size,.nilIface])∧w'=w2.setCell ⟨b,1,none⟩ v':=by
 obtain⟨ao,n',cap,rfl⟩:=hv'
 have c1:w1.cell? ⟨b,1,none⟩=some v:=by rw[Lib.cell_of_heap hb1];rfl
 have d1:w2.cell? ⟨b,1,none⟩=some v:=by rw[Lib.cell_of_heap hb2];rfl
 have f1:w2.frozen? ⟨b,1,none⟩=false:=Lib.frozen_of_heap hb2 1
 go_enter Tryz.func126,Tryz.ntmps126
 go_wp2_with (go_at_call 169;refine hcc.mono ?_)
 rintro e w1' ⟨rfl,rfl⟩
 go_wp2_with (at_builtin;refine Go.Abs.wpList_append_str rfl _ _ 110 9 rfl rfl rfl hr ?_)
 go_wp2
 go_ret2
 exact⟨rfl,rfl⟩
end Go.Proofs.YtdmamdnkcefmmaaGreatDoor
namespace Go.Proofs.YtdmamdnkcefmmaaGreatDoor
open Go Go.RowKit Go.Abs
theorem zt5:∃ i,tP.info? 5=some i∧i.zero=some (.int .u8 0)∧i.size=1∧i.bytes=1:=by
 obtain⟨i,hi⟩:∃ i,tP.info? 5=some i:=Option.isSome_iff_exists.1 (by kernel_rfl)
 have h1:(tP.info? 5).map (·.size)=some 1:=by kernel_rfl
 have h2:(tP.info? 5).map (·.bytes)=some 1:=by kernel_rfl
 have h3:(tP.info? 5).bind (·.zero)=some (.int .u8 0):=by kernel_rfl
 rw[hi]at h1 h2 h3
 exact⟨i,hi,by simpa using h3,by simpa using h1,by simpa using h2⟩
theorem zuj {B:Nat} {w:World} {G:Gh} {H:zaa} (hH:HRel B w G H) {id b:Nat} {p c:AV} (hp:p=.nilp∨p=.ptr id 0) (h1:H[id]?=some (.bld 112 [p,c])) (hμ:G.μ[id]?=some (.blk b)) :
  ∃ w1 v,Calls tP zgZ #[.pointer (some ⟨b,0,none⟩)] w (fun e w'=>e=.returned (.tuple #[])∧w'=w1)∧Ext B w G w1 G∧HRel B w1 G (H.set id (.bld 112 [.ptr id 0,c])) ∧
   w1.heap[b]?=some (.cells #[.pointer (some ⟨b,0,none⟩),v] 112 (0,0))∧ARel w1 G v c:=by
 obtain⟨hB,hL,⟨vs⟩,hw,hc⟩:=hH.ok id _ _ h1 hμ
 match vs,hc with
 | [vp,v],⟨hvp,hv,_⟩=>
  have hvp':vp=.pointer none∨vp=.pointer (some ⟨b,0,none⟩):=by
   rcases hp with rfl | rfl
   ·exact .inl hvp
   ·obtain⟨b',k1,k2⟩:=hvp
    rw[hμ]at k1
    cases k1
    exact .inr k2
  have hstep:=hH.storeB (cs':=[.ptr id 0,c]) (vs':=#[.pointer (some ⟨b,0,none⟩),v]) h1 hμ hw ⟨⟨b,hμ,rfl⟩,hv,trivial⟩
  rcases hvp' with rfl | rfl
  ·refine⟨_,v,?_,hstep.1,hstep.2,setRow_heap w b _ _ _ _ hw,hstep.1.arel hv⟩
   refine (zCO b w (by rw[Lib.cell_of_heap hw];rfl) (by simp[World.shape?,hw]) (Lib.frozen_of_heap hw 0)).mono ?_
   rintro e w' ⟨rfl,rfl⟩
   refine⟨rfl,?_⟩
   rw[setCell_eq_setRow w b 0 _ _ _ _ hw]
   rfl
  ·refine⟨w,v,zCP b w (by rw[Lib.cell_of_heap hw];rfl),Ext.refl _ _ _,?_,hw,hv⟩
   refine hH.reCellB h1 fun us hus=>?_
   match us,hus with
   | [u1,u2],⟨k1,k2⟩=>
    refine⟨?_,k2⟩
    rcases hp with rfl | rfl
    ·cases hvp
    ·exact k1
theorem zBT {H:zaa} {id id2:Nat} {l s:List UInt8} {p:AV} (hp:p=.nilp∨p=.ptr id 0) (h1:H[id]?=some (.bld 112 [p,.sl (bcs l) (.own id2)])) (h2:H[id2]?=some (.perm 5 1 l.length))
  (hn:l.length+s.length≤140737488355328) {K:AV→zaa→Prop}
  (hK:K (.tup [.int .i64 s.length,.nili]) ((H.set id2 (.perm 5 1 (l.length+s.length))).set id (.bld 112 [.ptr id 0,.sl (bcs (l++s)) (.own id2)]))) :
  ACalls tP ziq [.ptr id 0,.str s] H K:=by
 intro B w G ⟨vs⟩ hH hv
 match vs,hv with
 | [v0,v1],⟨⟨b,hμ,hv0⟩,hv1,_⟩=>
  have hv1:v1=.string ⟨s.toArray⟩:=hv1
  subst hv0 hv1
  obtain⟨w1,v,hcc,hE1,hH1,hw1,hva⟩:=zuj hH hp h1 hμ
  obtain⟨hd,v',size,n',hμ2,hle,heq⟩:=hva
  have hne:id≠id2:=by
   rintro rfl
   rw[h1]at h2
   cases h2
  have h21:(H.set id (.bld 112 [.ptr id 0,.sl (bcs l) (.own id2)]))[id2]?=some (.perm 5 1 l.length):=by rw[List.getElem?_set_ne hne];exact h2
  have hok:=hH1.ok id2 _ _ h21 hμ2
  obtain⟨hs1,hn1,⟨xs,hown⟩,hL2⟩:=hok
  subst hs1 hn1
  obtain⟨rfl,hall⟩:=heq (zd0 l)
  have hbne:v.ownBlock≠some b:=fun h=>hne (hH1.dist id id2 _ _ b hμ hμ2 rfl h)
  have hblt:b<w1.heap.size:=hH1.lt id _ b hμ rfl
  obtain⟨i,hi,hz,hsz,hby⟩:=zt5
  have hmx:maxLen=9223372036854775807:=rfl
  have key:∃ v' w2 G2,(∀ ty,(Builtin.append_ #[110,9] ty #[v,.string ⟨s.toArray⟩]).run tP w1=.ok v' w2)∧Ext B w1 G w2 G2 ∧
    HRel B w2 G2 ((H.set id (.bld 112 [.ptr id 0,.sl (bcs l) (.own id2)])).set id2 (.perm 5 1 (l.length+s.length)))∧ARel w2 G2 v' (.sl (bcs (l++s)) (.own id2))∧w2.heap[b]?=w1.heap[b]?:=by
   by_cases hs:s=[]
   ·subst hs
    refine⟨v,w1,G,fun ty=>zEn Tryz.underlying110 Tryz.underlying9 hi hsz hown _ rfl,Ext.refl _ _ _,?_,?_,rfl⟩
    ·have:(H.set id (.bld 112 [.ptr id 0,.sl (bcs l) (.own id2)])).set id2 (.perm 5 1 (l.length+([]:List UInt8).length))=H.set id (.bld 112 [.ptr id 0,.sl (bcs l) (.own id2)]):=by
      apply List.ext_getElem?
      intro k
      by_cases hk:k=id2
      ·subst hk;rw[List.getElem?_set_self (List.getElem?_eq_some_iff.1 h21).1,h21];rfl
      ·rw[List.getElem?_set_ne (fun h=>hk h.symm)]
     rw[this]
     exact hH1
    ·rw[List.append_nil]
     exact⟨hd,v,1,_,hμ2,hle,heq⟩
   ·have hpos:0<s.length:=List.length_pos_iff.2 hs
    obtain⟨v',w2,hrun,hown',hcase⟩:=zEm (P:=tP) (ty:=110) (B:=B) Tryz.underlying110 Tryz.underlying9 hi hz hsz hby hown ⟨s.toArray⟩ (by simpa[ByteArray.size]using hpos) (by simp[ByteArray.size];omega) (by simpa[ByteArray.size]using hn) hH1.base
    have hss:(⟨s.toArray⟩:ByteArray).size=s.length:=rfl
    rw[hss]at hown'
    have hx:All2 (DRel w1 G.L) xs (bcs l).flatten:=zpO hown hd (zd0 l) (zeT l)
    obtain⟨G2,hE2,hH2,hT⟩:=zjc hH1 h21 hμ2 hown hown' hcase (zd0 s) hpos (zd0 l) (zeT l) (zeT s) hx (zCl s)
    refine⟨v',w2,G2,fun ty=>hrun,hE2,hH2,by rw[←ztX];exact hT,?_⟩
    rcases hcase with ⟨g,k1,_,k3⟩ | ⟨_,k3⟩
    ·exact k3.block b hblt (fun h=>hbne (by rw[k1,h]))
    ·exact k3.block b hblt (by simp)
  obtain⟨v',w2,G2,hrun,hE2,hH2,hva',hb2⟩:=key
  have hw2:=hb2.trans hw1
  have hμ':=(hE2.blk hμ)
  obtain⟨hE3,hH3⟩:=hH2.storeB (id:=id) (cs':=[.ptr id 0,.sl (bcs (l++s)) (.own id2)]) (vs':=#[.pointer (some ⟨b,0,none⟩),v']) (by rw[List.getElem?_set_ne (fun h=>hne h.symm)];exact List.getElem?_set_self (List.getElem?_eq_some_iff.1 h1).1) hμ' hw2 ⟨⟨b,hμ',rfl⟩,hva',trivial⟩
  refine (zGF b ⟨s.toArray⟩ v v' w w1 w2 hcc hw1 hrun hw2 ?_).mono ?_
  ·obtain⟨hd',_⟩:=hva'
   generalize bcs (l++s)=cs at hd'
   cases hd' with
   | slE a c=>exact⟨_,_,_,rfl⟩
   | sl=>exact⟨_,_,_,rfl⟩
  ·rintro e w' ⟨rfl,rfl⟩
   have hset:w2.setCell ⟨b,1,none⟩ v'=w2.setRow b #[.pointer (some ⟨b,0,none⟩),v']:=by
    rw[setCell_eq_setRow w2 b 1 _ _ _ _ hw2]
    rfl
   rw[hset]
   refine⟨_,_,_,G2,rfl,(hE1.trans hE2).trans hE3,?_,?_,hK⟩
   ·rw[List.set_comm _ _ hne,List.set_set]at hH3
    exact hH3
   ·exact⟨#[.int .i64 s.length,.nilIface],rfl,rfl,rfl,trivial⟩
end Go.Proofs.YtdmamdnkcefmmaaGreatDoor
namespace Go.Proofs.YtdmamdnkcefmmaaGreatDoor
open Go Go.RowKit
theorem zCw:tP.cellsOf 5=1:=by kernel_rfl
set_option maxHeartbeats 2000000 in
set_option maxRecDepth 100000 in
theorem zF3 {fr:Nat × Nat} (b g cap n:Nat) (p:Value) (cur:Array Value) (l:List UInt8) (w:World) (h0:l≠[]) (hbk:w.heap[b]?=some (.cells #[p,.slice (some ⟨g,0,none⟩) l.length cap] 112 (0,0)))
  (hg:w.heap[g]?=some (.cells cur 5 fr)) (hc1:l.length≤cap) (hc2:cap≤maxLen) (hcs:cur.size=cap)
  (hcell:∀ j x,l[j]?=some x→w.cell? ((⟨g,0,none⟩:Addr).add j)=some (.int .u8 x.toNat)) :
  Calls tP zha #[.pointer (some ⟨b,0,none⟩)] w fun e w'=>e=.returned (.string ⟨l.toArray⟩)∧w'=w.drew.freeze ⟨g,0,none⟩ l.length:=by
 have hl0:l.length≠0:=by simpa using h0
 have c1:w.drew.cell? ⟨b,1,none⟩=some (.slice (some ⟨g,0,none⟩) l.length cap):=by
  have:w.drew.heap[b]?=some (.cells #[p,.slice (some ⟨g,0,none⟩) l.length cap] 112 (0,0)):=hbk
  rw[Lib.cell_of_heap this];rfl
 have hSD:(Builtin.unsafeSliceData_ #[110] 174 #[.slice (some ⟨g,0,none⟩) l.length cap]).run tP w.drew=.ok (.pointer (some ⟨g,0,none⟩)) w.drew:=
  Lib.run_unsafeSliceData_row _ _ _ _ _ _ (by omega)
 have hUS:(Builtin.unsafeString_ #[174,3] 9 #[.pointer (some ⟨g,0,none⟩),.int .i64 l.length]).run tP w.drew=.ok (.string ⟨l.toArray⟩) (w.drew.freeze ⟨g,0,none⟩ l.length):=by
  refine Lib.run_unsafeString_row w.drew 174 3 9 5 Tryz.underlying174 zCw g cur.size (by have hg':w.drew.heap[g]?=some (.cells cur 5 fr):=hg;simp[World.shape?,hg']) l h0 (by omega) (by unfold maxLen at hc2;omega) ?_
  intro j x hx
  exact hcell j x hx
 go_enter Tryz.func76,Tryz.ntmps76
 go_wp2
 go_region
 all_goals (go_wp2;go_ret;exact⟨rfl,rfl⟩)
end Go.Proofs.YtdmamdnkcefmmaaGreatDoor
namespace Go.Proofs.YtdmamdnkcefmmaaGreatDoor
open Go Go.RowKit Go.Abs
theorem ztY {w:World} {L:Nat→Nat}:∀ {l:List UInt8} {xs:List Value},All2 (DRel w L) xs (bcs l).flatten→xs=l.map fun b=>Value.int .u8 b.toNat
 | [],[],_=>rfl
 | [],_::_,h=>h.elim
 | _::_,[],h=>h.elim
 | c::l,x::xs,⟨hx1,hx2⟩=>by
  cases hx1
  rw[List.map_cons,ztY (l:=l) hx2]
end Go.Proofs.YtdmamdnkcefmmaaGreatDoor
namespace Go.Proofs.YtdmamdnkcefmmaaGreatDoor
open Go Go.Abs
set_option maxRecDepth 100000
def zN4 (_:Nat):List Bool:=[]
noncomputable def zN5:Code:=Tryz.f240.body.getD .skip
def zrX (t0:AV) (H:zaa) (K:Kt):Prop:=
 zab .lss false t0 (.int .i64 10) fun t4=>
 zag t4
 (zab .add false t0 (.int .i64 1) fun t7=>
 zaN 0 0 (.str [48,49,50,51,52,53,54,55,56,57,97,98,99,100,101,102,103,104,105,106,107,108,109,110,111,112,113,114,115,116,117,118,119,120,121,122]) (some t0) (some t7) fun t8=>
 K t8 H)
 (zab .mul false t0 (.int .i64 2) fun t10=>
 zab .mul false t0 (.int .i64 2) fun t12=>
 zab .add false t12 (.int .i64 2) fun t13=>
 zaN 0 0 (.str [48,48,48,49,48,50,48,51,48,52,48,53,48,54,48,55,48,56,48,57,49,48,49,49,49,50,49,51,49,52,49,53,49,54,49,55,49,56,49,57,50,48,50,49,50,50,50,51,50,52,50,53,50,54,50,55,50,56,50,57,51,48,51,49,51,50,51,51,51,52,51,53,51,54,51,55,51,56,51,57,52,48,52,49,52,50,52,51,52,52,52,53,52,54,52,55,52,56,52,57,53,48,53,49,53,50,53,51,53,52,53,53,53,54,53,55,53,56,53,57,54,48,54,49,54,50,54,51,54,52,54,53,54,54,54,55,54,56,54,57,55,48,55,49,55,50,55,51,55,52,55,53,55,54,55,55,55,56,55,57,56,48,56,49,56,50,56,51,56,52,56,53,56,54,56,55,56,56,56,57,57,48,57,49,57,50,57,51,57,52,57,53,57,54,57,55,57,56,57,57]) (some t10) (some t13) fun t14=>
 K t14 H)
theorem zN6 {t0:AV} {H:zaa} {K:Kt} (h:HSc H→zrX t0 H K):ACalls tP zow [t0] H K:=
 zao (M:=zN4) Tryz.func240 (c:=zN5) (by kernel_rfl) (fun hs=>Eq.mpr (by kernel_rfl) (h hs))
def zIa (_:Nat):List Bool:=[]
noncomputable def zIb:Code:=Tryz.f127.body.getD .skip
def zH9 (t0:AV) (H:zaa) (K:Kt):Prop:=
 ACalls tP zvn [t0] H fun t4 H=>
 K t4 H
theorem zIc {t0:AV} {H:zaa} {K:Kt} (h:HSc H→zH9 t0 H K):ACalls tP zn0 [t0] H K:=
 zao (M:=zIa) Tryz.func127 (c:=zIb) (by kernel_rfl) (fun hs=>Eq.mpr (by kernel_rfl) (h hs))
def zLn (_:Nat):List Bool:=[]
noncomputable def zLo:Code:=Tryz.f170.body.getD .skip
def zLm (t0:AV) (H:zaa) (K:Kt):Prop:=
 ACalls tP zop [t0,(.int .i64 10)] H fun t4 H=>
 K t4 H
theorem zLp {t0:AV} {H:zaa} {K:Kt} (h:HSc H→zLm t0 H K):ACalls tP zvn [t0] H K:=
 zao (M:=zLn) Tryz.func170 (c:=zLo) (by kernel_rfl) (fun hs=>Eq.mpr (by kernel_rfl) (h hs))
end Go.Proofs.YtdmamdnkcefmmaaGreatDoor
namespace Go.Proofs.YtdmamdnkcefmmaaGreatDoor
open Go Go.RowKit Go.Abs
def small (n:Nat):List UInt8:=if n<10 then [48+UInt8.ofNat n] else [48+UInt8.ofNat (n / 10),48+UInt8.ofNat (n % 10)]
def digs:List UInt8:=[48,49,50,51,52,53,54,55,56,57,97,98,99,100,101,102,103,104,105,106,107,108,109,110,111,112,113,114,115,116,117,118,119,120,121,122]
def pairs:List UInt8:=(List.range 100).flatMap fun n=>[48+UInt8.ofNat (n / 10),48+UInt8.ofNat (n % 10)]
theorem zCZ:∀ n,n<10→(digs.take (n+1)).drop n=small n:=by decide
theorem zEp:∀ n,n<100→10≤n→(pairs.take (2*n+2)).drop (2*n)=small n:=by decide
theorem zFm (n:Nat) (hn:n<100) (H:zaa) (K:Kt) (hK:K (.str (small n)) H):ACalls tP zow [.int .i64 n] H K:=by
 refine zN6 fun hs=>?_
 by_cases h10:n<10
 ·have:(n:Int)<10:=by omega
  have e1:IntKind.i64.wrap ((n:Int)+1)=((n+1:Nat):Int):=by rw[zat (by omega) (by omega)];omega
  simp[zrX,this]
  rw[e1]
  refine⟨by omega,⟨by omega,by omega⟩,?_⟩
  have hK':K (.str ((digs.take (n+1)).drop n)) H:=by rw[zCZ n h10];exact hK
  rw[Int.toNat_natCast]
  exact hK'
 ·have:¬ (n:Int)<10:=by omega
  have e1:IntKind.i64.wrap ((n:Int)*2)=((2*n:Nat):Int):=by rw[zat (by omega) (by omega)];omega
  have e2:IntKind.i64.wrap (((2*n:Nat):Int)+2)=((2*n+2:Nat):Int):=by rw[zat (by omega) (by omega)];omega
  simp[zrX,this]
  rw[e1,e2]
  refine⟨by omega,by omega,⟨by omega,by omega⟩,?_⟩
  have hK':K (.str ((pairs.take (2*n+2)).drop (2*n))) H:=by rw[zEp n hn (by omega)];exact hK
  have hp:pairs=[48,48,48,49,48,50,48,51,48,52,48,53,48,54,48,55,48,56,48,57,49,48,49,49,49,50,49,51,49,52,49,53,49,54,49,55,49,56,49,57,50,48,50,49,50,50,50,51,50,52,50,53,50,54,50,55,50,56,50,57,51,48,51,49,51,50,51,51,51,52,51,53,51,54,51,55,51,56,51,57,52,48,52,49,52,50,52,51,52,52,52,53,52,54,52,55,52,56,52,57,53,48,53,49,53,50,53,51,53,52,53,53,53,54,53,55,53,56,53,57,54,48,54,49,54,50,54,51,54,52,54,53,54,54,54,55,54,56,54,57,55,48,55,49,55,50,55,51,55,52,55,53,55,54,55,55,55,56,55,57,56,48,56,49,56,50,56,51,56,52,56,53,56,54,56,55,56,56,56,57,57,48,57,49,57,50,57,51,57,52,57,53,57,54,57,55,57,56,57,57]:=by decide
  rw[hp]at hK'
  rw[Int.toNat_natCast,Int.toNat_natCast]
  exact hK'
theorem zDs (n:Nat) (hn:n<100) (w:World) (R:World→Prop) (s:ByteArray)
  (hs:Calls tP zow #[.int .i64 n] w fun e w'=>e=.returned (.string s)∧R w') :
  Calls tP zop #[.int .i64 n,.int .i64 10] w fun e w'=>e=.returned (.string s)∧R w':=by
 have a1:((0:Int)≤(n:Int)):=by omega
 have a2:((n:Int)<100):=by omega
 go_enter Tryz.func215,Tryz.ntmps215
 go_wp2_with (go_at_call 240;refine hs.mono ?_)
 rintro e w1 ⟨rfl,hR⟩
 go_wp2
 go_ret
 exact⟨rfl,hR⟩
theorem zDt (n:Nat) (hn:n<100) (H:zaa) (K:Kt) (hK:K (.str (small n)) H):ACalls tP zop [.int .i64 n,.int .i64 10] H K:=by
 intro B w G ⟨vs⟩ hH hv
 match vs,hv with
 | [v0,v1],⟨h0,h1,_⟩=>
  have h0:v0=.int .i64 n:=h0
  have h1:v1=.int .i64 10:=h1
  subst h0 h1
  have hs:=zFm n hn H (fun r H'=>r=.str (small n)∧H'=H) ⟨rfl,rfl⟩ B w G #[.int .i64 n] hH ⟨rfl,trivial⟩
  refine (zDs n hn w (fun w'=>∃ G',Ext B w G w' G'∧HRel B w' G' H) ⟨(small n).toArray⟩ (hs.mono ?_)).mono ?_
  ·rintro e w1 ⟨v,r,H',G',rfl,hE,hH',hT,rfl,rfl⟩
   have hT:v=.string ⟨(small n).toArray⟩:=hT
   exact⟨by rw[hT],G',hE,hH'⟩
  ·rintro e w1 ⟨rfl,G',hE,hH'⟩
   exact⟨_,.str (small n),_,G',rfl,hE,hH',rfl,hK⟩
theorem zBJ (n:Nat) (hn:n<100) (H:zaa) (K:Kt) (hK:K (.str (small n)) H):ACalls tP zn0 [.int .i64 n] H K:=
 zIc fun hs=>zLp fun hs=>zDt n hn _ _ hK
end Go.Proofs.YtdmamdnkcefmmaaGreatDoor
namespace Go.Proofs.YtdmamdnkcefmmaaGreatDoor
open Go Go.Abs
@[congr] theorem zTk {m:WM} {g:Bool} {H:zaa} {p:(AV→zaa→Prop)→Prop} {k:AV→zaa→Prop}:zdp m g H p k=zdp m g H p k:=rfl
def wb (H:zaa) (id id2:Nat) (l:List UInt8):zaa:=(H.set id2 (.perm 5 1 l.length)).set id (.bld 112 [.ptr id 0,.sl (bcs l) (.own id2)])
structure Wb (H:zaa) (id id2:Nat) (l:List UInt8):Prop where
 ne:id≠id2
 h1:∃ p,(p=.nilp∨p=.ptr id 0)∧H[id]?=some (.bld 112 [p,.sl (bcs l) (.own id2)])
 h2:H[id2]?=some (.perm 5 1 l.length)
section
variable {H J:zaa} {id id2:Nat} {l l' s:List UInt8}
theorem Wb.lt1 (h:Wb H id id2 l):id<H.length:=by obtain⟨p,_,h⟩:=h.h1;exact (List.getElem?_eq_some_iff.1 h).1
theorem Wb.lt2 (h:Wb H id id2 l):id2<H.length:=(List.getElem?_eq_some_iff.1 h.h2).1
@[simp] theorem zWF:(wb H id id2 l).length=H.length:=by simp[wb]
theorem zjK (hne:id≠id2):wb (wb H id id2 l) id id2 l'=wb H id id2 l':=by
 unfold wb
 rw[List.set_comm _ _ hne,List.set_set,List.set_set]
theorem Wb.app (h:Wb H id id2 l):Wb (H++J) id id2 l:=by
 obtain⟨p,hp,h1⟩:=h.h1
 exact⟨h.ne,⟨p,hp,by rw[List.getElem?_append_left h.lt1];exact h1⟩,by rw[List.getElem?_append_left h.lt2];exact h.h2⟩
theorem Wb.wb_app (h:Wb H id id2 l):wb (H++J) id id2 l'=wb H id id2 l'++J:=by
 unfold wb
 rw[List.set_append_left _ _ h.lt2,List.set_append_left _ _ (by simpa using h.lt1)]
theorem Wb.next (h:Wb H id id2 l):Wb (wb H id id2 l') id id2 l':=by
 refine⟨h.ne,⟨_,.inr rfl,?_⟩,?_⟩
 ·unfold wb;rw[List.getElem?_set_self (by simpa using h.lt1)]
 ·unfold wb;rw[List.getElem?_set_ne h.ne,List.getElem?_set_self h.lt2]
theorem Wb.hsc (h:Wb H id id2 l) (hs:HSc H):HSc (wb H id id2 l'):=by
 refine HSc.set (HSc.set hs rfl) ?_
 have:=h.lt1
 have:=h.lt2
 simp[AB.sc,AV.scA,AV.scB]
 try omega
theorem Ws (h:Wb H id id2 l) (hn:l.length+s.length≤140737488355328) {K:AV→zaa→Prop} (hK:K (.tup [.int .i64 s.length,.nili]) (wb H id id2 (l++s))) :
  ACalls tP ziq [.ptr id 0,.str s] H K:=by
 obtain⟨p,hp,h1⟩:=h.h1
 refine zBT hp h1 h.h2 hn ?_
 unfold wb at hK
 rwa [List.length_append]at hK
end
end Go.Proofs.YtdmamdnkcefmmaaGreatDoor
namespace Go.Abs
open Go Go.RowKit
variable {P:Program} {B:Nat} {w:World} {G:Gh} {H:zaa}
theorem HRel.toFrz (h:HRel B w G H) {id e n:Nat} (hn:0<n) (hH:H[id]?=some (.perm e 1 n)):HRel B w G (H.set id (.frz e 1 n)):=by
 refine⟨by simp[h.len],?_,h.dist,h.fresh,h.lt,h.base⟩
 intro i ab gi h1 h2
 by_cases hi:i=id
 ·subst hi
  rw[List.getElem?_set_self (List.getElem?_eq_some_iff.1 hH).1]at h1
  cases h1
  have hok:=h.ok i _ _ hH h2
  cases gi with
  | blk b=>exact hok.elim
  | gap=>exact hok.elim
  | own v s n'=>
   obtain⟨rfl,rfl,⟨xs,hxl,hx⟩,hL⟩:=hok
   rcases hx with ⟨_,h0⟩ | ⟨g,cap,cur,rfl,hBg,hg,hc1,hc2,hc3,hc4⟩
   ·omega
   ·exact⟨g,cap,cur,_,rfl,rfl,rfl,hg,hBg,hL g rfl,hc1,hc2,hc3⟩
 ·rw[List.getElem?_set_ne (fun h=>hi h.symm)]at h1
  exact h.ok i ab gi h1 h2
theorem ACalls.toFrz {f:FuncId} {args:List AV} {K:Kt} (h:ACalls P f args H fun r H'=>∃ id e n,0<n∧H'[id]?=some (.perm e 1 n)∧K r (H'.set id (.frz e 1 n))):ACalls P f args H K:=by
 intro B w G vs hH hv
 refine (h B w G vs hH hv).mono fun ex w' ⟨v,r,H',G',h1,h2,h3,h4,h5⟩=>?_
 obtain⟨id,e,n,hn,hid,hk⟩:=h5
 exact⟨v,r,_,G',h1,h2,h3.toFrz hn hid,h4,hk⟩
end Go.Abs
namespace Go.Proofs.YtdmamdnkcefmmaaGreatDoor
open Go Go.RowKit Go.Abs
theorem zBP {H:zaa} {id id2:Nat} {l:List UInt8} {p:AV} (h0:l≠[]) (h1:H[id]?=some (.bld 112 [p,.sl (bcs l) (.own id2)])) (h2:H[id2]?=some (.frz 5 1 l.length)) {K:AV→zaa→Prop}
  (hK:K (.str l) H):ACalls tP zha [.ptr id 0] H K:=by
 intro B w G ⟨vs⟩ hH hv
 match vs,hv with
 | [v0],⟨⟨b,hμ,hv0⟩,_⟩=>
  subst hv0
  obtain⟨hB,hL,⟨us⟩,hw,hc⟩:=hH.ok id _ _ h1 hμ
  match us,hc with
  | [vp,v],⟨hvp,⟨hd,v',size,n',hμ2,hle,heq⟩,_⟩=>
   obtain⟨g,cap,cur,fr,hs1,hn1,hv',k2,k3,k4,k5,k6,k7⟩:=hH.ok id2 _ _ h2 hμ2
   subst hs1 hn1
   obtain⟨rfl,hall⟩:=heq (zd0 l)
   have hdr:=Ext.drew B w G (w.drawn+1) (Nat.le_succ _)
   have hHd:=hH.drew (w.drawn+1) (Nat.le_succ _)
   have hne:bcs l≠[]:=fun h=>h0 (by simpa[bcs]using h)
   obtain⟨b',off,cap',zs,hv2,hzl,hzd,hzc,_⟩:=hd.flat hne (zeT l)
   rw[hv']at hv2
   simp only[Value.slice.injEq,Option.some.injEq,Addr.mk.injEq]at hv2
   obtain⟨⟨rfl,rfl,_⟩,_,rfl⟩:=hv2
   have hxs:zs=l.map fun b=>Value.int .u8 b.toNat:=ztY hzd
   subst hv'
   refine (zF3 b g cap l.length vp cur l w h0 hw k2 k5 k6 (by omega) ?_).mono ?_
   ·intro j x hj
    have:=hzc j (.int .u8 x.toNat) (by rw[hxs,List.getElem?_map,hj];rfl)
    by_cases h0j:j=0
    ·subst h0j;simpa[Addr.add]using this
    ·simpa[Addr.add,h0j]using this
   ·rintro e w' ⟨rfl,rfl⟩
    obtain⟨hE1,hH1⟩:=hHd.freezeG h2 hμ2 l.length
    exact⟨_,(.str l),_,G,rfl,hdr.trans hE1,hH1,rfl,hK⟩
end Go.Proofs.YtdmamdnkcefmmaaGreatDoor
namespace Go.Abs
open Go Go.RowKit
theorem wpList_append_any {P:Program} {w:World} {ops:Array Oper} {rest:List Oper} {o:Oper} {a:Act} {Q:Exit→Act→World→Prop} (hgd:o.guard=none) (sl x:Operand) (t u:TypeId)
  (ho:o.op=.call { callee:=.builtin .append,args:=#[sl,x],argTypes:=#[t,u] }) {v v' xv:Value} {w':World} (hs:a.eval sl=v) (hx:a.eval x=xv)
  (hr:∀ ty,(Builtin.append_ #[t,u] ty #[v,xv]).run P w=.ok v' w') (h:wpList P ops Q rest (a.put o.dst v') w'):wpList P ops Q (o::rest) a w:=by
 refine wpList_plain hgd fun K hK=>?_
 unfold Oper.wp execOp
 simp only[ho,resolve,invoke,builtin,Sem.run_bind,Sem.run_pure,Result.andThen_ok,List.map_toArray,List.map_cons,List.map_nil,hs,hx,hr]
 exact hK _ _ h
end Go.Abs
namespace Go.Proofs.YtdmamdnkcefmmaaGreatDoor
open Go Go.RowKit Go.Abs
set_option maxHeartbeats 2000000 in
set_option maxRecDepth 100000 in
theorem zGE (b:Nat) (c:UInt8) (v v':Value) (w w1 w2:World)
  (hcc:Calls tP zgZ #[.pointer (some ⟨b,0,none⟩)] w fun e w'=>e=.returned (.tuple #[])∧w'=w1)
  (hb1:w1.heap[b]?=some (.cells #[.pointer (some ⟨b,0,none⟩),v] 112 (0,0)))
  (hr:∀ ty,(Builtin.append_ #[110,110] ty #[v,.slice (some ⟨w1.heap.size,0,none⟩) 1 1]).run tP (w1.alloc (.cells #[.int .u8 c.toNat] 5))=.ok v' w2)
  (hb2:w2.heap[b]?=some (.cells #[.pointer (some ⟨b,0,none⟩),v] 112 (0,0))) (hv':∃ ao n cap,v'=.slice ao n cap) :
  Calls tP zfR #[.pointer (some ⟨b,0,none⟩),.int .u8 c.toNat] w fun e w'=>e=.returned .nilIface∧w'=w2.setCell ⟨b,1,none⟩ v':=by
 obtain⟨ao,n',cap,rfl⟩:=hv'
 have c1:w1.cell? ⟨b,1,none⟩=some v:=by rw[Lib.cell_of_heap hb1];rfl
 have d1:w2.cell? ⟨b,1,none⟩=some v:=by rw[Lib.cell_of_heap hb2];rfl
 have f1:w2.frozen? ⟨b,1,none⟩=false:=Lib.frozen_of_heap hb2 1
 go_enter Tryz.func128,Tryz.ntmps128
 go_wp2_with (go_at_call 169;refine hcc.mono ?_)
 rintro e w1' ⟨rfl,rfl⟩
 go_wp2_with (at_builtin;refine Go.Abs.wpList_append_any rfl _ _ 110 110 rfl rfl rfl hr ?_)
 go_wp2
 go_ret
 exact⟨rfl,rfl⟩
theorem zBS {H:zaa} {id id2:Nat} {l:List UInt8} {c:UInt8} {p:AV} (hp:p=.nilp∨p=.ptr id 0) (h1:H[id]?=some (.bld 112 [p,.sl (bcs l) (.own id2)])) (h2:H[id2]?=some (.perm 5 1 l.length))
  (hn:l.length+1≤140737488355328) {K:AV→zaa→Prop}
  (hK:K .nili ((H.set id2 (.perm 5 1 (l.length+1))).set id (.bld 112 [.ptr id 0,.sl (bcs (l++[c])) (.own id2)]))) :
  ACalls tP zfR [.ptr id 0,.int .u8 c.toNat] H K:=by
 intro B w G ⟨vs⟩ hH hv
 match vs,hv with
 | [v0,v1],⟨⟨b,hμ,hv0⟩,hv1,_⟩=>
  have hv1:v1=.int .u8 c.toNat:=hv1
  subst hv0 hv1
  obtain⟨w1,v,hcc,hE1,hH1,hw1,hva0⟩:=zuj hH hp h1 hμ
  obtain⟨hEa,hHa⟩:=hH1.other (.cells #[.int .u8 c.toNat] 5)
  have hva:=hEa.arel hva0
  obtain⟨W,hW⟩:∃ W,W=w1.alloc (.cells #[.int .u8 c.toNat] 5):=⟨_,rfl⟩
  rw[←hW]at hEa hHa hva
  obtain⟨hd,v',size,n',hμ2,hle,heq⟩:=hva
  have hne:id≠id2:=by
   rintro rfl
   rw[h1]at h2
   cases h2
  have h21:(H.set id (.bld 112 [.ptr id 0,.sl (bcs l) (.own id2)]))[id2]?=some (.perm 5 1 l.length):=by rw[List.getElem?_set_ne hne];exact h2
  have hok:=hHa.ok id2 _ _ h21 hμ2
  obtain⟨hs1,hn1,⟨xs,hown⟩,hL2⟩:=hok
  subst hs1 hn1
  obtain⟨rfl,hall⟩:=heq (zd0 l)
  have hbne:v.ownBlock≠some b:=fun h=>hne (hH1.dist id id2 _ _ b hμ hμ2 rfl h)
  have hblt:b<W.heap.size:=hHa.lt id _ b hμ rfl
  have hwb:W.heap[b]?=w1.heap[b]?:=by rw[hW];exact zcy (hH1.lt id _ b hμ rfl)
  obtain⟨i,hi,hz,hsz,hby⟩:=zt5
  have hmx:maxLen=9223372036854775807:=rfl
  have key:∃ v' w2 G2,(∀ ty,(Builtin.append_ #[110,110] ty #[v,.slice (some ⟨w1.heap.size,0,none⟩) 1 1]).run tP W=.ok v' w2)∧Ext B W G w2 G2 ∧
    HRel B w2 G2 ((H.set id (.bld 112 [.ptr id 0,.sl (bcs l) (.own id2)])).set id2 (.perm 5 1 (l.length+1)))∧ARel w2 G2 v' (.sl (bcs (l++[c])) (.own id2))∧w2.heap[b]?=W.heap[b]?:=by
   have hown0:W.ownsRow B 5 i.size v l.length xs:=by rw[hsz];exact hown
   obtain⟨v',w2,hrun,hown',hcase⟩:=zjb (P:=tP) (ty:=110) (t:=110) (B:=B) Tryz.underlying110 hi hz (by rw[hsz];rfl) hown0 ⟨w1.heap.size,0,none⟩ 1 1 [.int .u8 c.toNat] (by rw[hsz];rfl) (fun j u hu=>by
    have hj:j=0:=by
     have:=(List.getElem?_eq_some_iff.1 hu).1
     simp at this;omega
    subst hj
    simp at hu
    subst hu
    rw[hW]
    show (match (w1.alloc (.cells #[.int .u8 c.toNat] 5)).heap[w1.heap.size]? with | some (.cells c _ _)=>c[0]? | _=>none)=_
    rw[zda];rfl) (fun u hu=>by simp at hu;subst hu;rfl) (by omega) (by omega) (by rw[hby];omega) hHa.base
   rw[hsz]at hown'
   have hx:All2 (DRel W G.L) xs (bcs l).flatten:=zpO hown hd (zd0 l) (zeT l)
   obtain⟨G2,hE2,hH2,hT⟩:=zjc hHa h21 hμ2 hown hown' hcase (ys:=bcs [c]) (zd0 [c]) (by omega) (zd0 l) (zeT l) (zeT [c]) hx ⟨.int _ _,trivial⟩
   refine⟨v',w2,G2,fun ty=>hrun,hE2,hH2,by rw[←ztX];exact hT,?_⟩
   rcases hcase with ⟨g,k1,_,k3⟩ | ⟨_,k3⟩
   ·exact k3.block b hblt (fun h=>hbne (by rw[k1,h]))
   ·exact k3.block b hblt (by simp)
  obtain⟨v',w2,G2,hrun,hE2,hH2,hva',hb2⟩:=key
  have hw2:=hb2.trans (hwb.trans hw1)
  have hμ':=(hE2.blk hμ)
  obtain⟨hE3,hH3⟩:=hH2.storeB (id:=id) (cs':=[.ptr id 0,.sl (bcs (l++[c])) (.own id2)]) (vs':=#[.pointer (some ⟨b,0,none⟩),v']) (by rw[List.getElem?_set_ne (fun h=>hne h.symm)];exact List.getElem?_set_self (List.getElem?_eq_some_iff.1 h1).1) hμ' hw2 ⟨⟨b,hμ',rfl⟩,hva',trivial⟩
  rw[hW]at hrun
  refine (zGE b c v v' w w1 w2 hcc hw1 hrun hw2 ?_).mono ?_
  ·obtain⟨hd',_⟩:=hva'
   generalize bcs (l++[c])=cs at hd'
   cases hd' with
   | slE a c=>exact⟨_,_,_,rfl⟩
   | sl=>exact⟨_,_,_,rfl⟩
  ·rintro e w' ⟨rfl,rfl⟩
   have hset:w2.setCell ⟨b,1,none⟩ v'=w2.setRow b #[.pointer (some ⟨b,0,none⟩),v']:=by
    rw[setCell_eq_setRow w2 b 1 _ _ _ _ hw2]
    rfl
   rw[hset]
   refine⟨_,_,_,G2,rfl,((hE1.trans hEa).trans hE2).trans hE3,?_,?_,hK⟩
   ·rw[List.set_comm _ _ hne,List.set_set]at hH3
    exact hH3
   ·rfl
theorem Wy {H:zaa} {id id2:Nat} {l:List UInt8} {c:UInt8} (h:Wb H id id2 l) (hn:l.length+1≤1000000000) {K:AV→zaa→Prop} (hK:K .nili (wb H id id2 (l++[c]))) :
  ACalls tP zfR [.ptr id 0,.int .u8 c.toNat] H K:=by
 obtain⟨p,hp,h1⟩:=h.h1
 refine zBS hp h1 h.h2 (by omega) ?_
 unfold wb at hK
 rwa [List.length_append]at hK
end Go.Proofs.YtdmamdnkcefmmaaGreatDoor
namespace Go.Proofs.YtdmamdnkcefmmaaGreatDoor
open Go Go.Shelf Go.Abs
def zGK:Go.Shelf.Ren:=⟨fun | 4=>176 | n=>n,fun | 22=>26 | 25=>28 | n=>n,fun | n=>n⟩
theorem zGJ:Go.Proofs.Lays8.n4 tP zGK:={
 mixed:=by kernel_rfl
 f4:=⟨Tryz.f176.name,by decide,Tryz.func176.trans (congrArg some (by kernel_rfl))⟩
 t0:=Tryz.underlying0
 a0:=Tryz.isAgg0
 z0:=Tryz.sizeOf0
 v0:=Tryz.zeroValue0
 t3:=Tryz.underlying3
 a3:=Tryz.isAgg3
 z3:=Tryz.sizeOf3
 v3:=Tryz.zeroValue3
 t4:=Tryz.underlying4
 a4:=Tryz.isAgg4
 z4:=Tryz.sizeOf4
 v4:=Tryz.zeroValue4
 t9:=Tryz.underlying9
 a9:=Tryz.isAgg9
 z9:=Tryz.sizeOf9
 v9:=Tryz.zeroValue9
 t20:=Tryz.underlying20
 a20:=Tryz.isAgg20
 z20:=Tryz.sizeOf20
 v20:=Tryz.zeroValue20
 t22:=Tryz.underlying26
 a22:=Tryz.isAgg26
 z22:=Tryz.sizeOf26
 v22:=Tryz.zeroValue26 }
def zGO:Go.Shelf.Ren:=⟨fun | 4=>141 | n=>n,fun | 22=>31 | 25=>55 | n=>n,fun | n=>n⟩
theorem zGN:Go.Proofs.Lays8.n4 tP zGO:={
 mixed:=by kernel_rfl
 f4:=⟨Tryz.f141.name,by decide,Tryz.func141.trans (congrArg some (by kernel_rfl))⟩
 t0:=Tryz.underlying0
 a0:=Tryz.isAgg0
 z0:=Tryz.sizeOf0
 v0:=Tryz.zeroValue0
 t3:=Tryz.underlying3
 a3:=Tryz.isAgg3
 z3:=Tryz.sizeOf3
 v3:=Tryz.zeroValue3
 t4:=Tryz.underlying4
 a4:=Tryz.isAgg4
 z4:=Tryz.sizeOf4
 v4:=Tryz.zeroValue4
 t9:=Tryz.underlying9
 a9:=Tryz.isAgg9
 z9:=Tryz.sizeOf9
 v9:=Tryz.zeroValue9
 t20:=Tryz.underlying20
 a20:=Tryz.isAgg20
 z20:=Tryz.sizeOf20
 v20:=Tryz.zeroValue20
 t22:=Tryz.underlying31
 a22:=Tryz.isAgg31
 z22:=Tryz.sizeOf31
 v22:=Tryz.zeroValue31 }
end Go.Proofs.YtdmamdnkcefmmaaGreatDoor
namespace Go.Proofs.YtdmamdnkcefmmaaGreatDoor
open Go Go.Abs
set_option maxRecDepth 100000
def zfp:Nat→List Bool
 | 3=>rl false [0,1,2,1,5,3,24]
 | 11=>rl false [6,1,18,3,8]
 | _=>[]
noncomputable def zhC:Code:=Tryz.f134.body.getD .skip
noncomputable def zye:List ResultVar:=Tryz.f134.results.toList
def zkh (t0 t3 t9 t10 t11:AV):List AV:=t0::ux 2 (t3::ux 5 (t9::t10::t11::ux 24 []))
def zIG:List Bool:=zfp 3
noncomputable def zIC:Code:=zaq [1,1,0,1,0,0] zhC
def zIA (K:Kt):AExit→List AV→zaa→Prop:=zar tP zfp [1,1,0,1,0] zhC (zax tP zye K)
def zyd (t0 t3 t9 t10 t11:AV) (H:zaa) (K:Kt):Prop:=ALoop tP zIC (zIA K) (zkh t0 t3 t9 t10 t11) H
def zyb (t0 t3 t9 t10 t11:AV) (H:zaa) (K:Kt) (Kb3:Lt):Prop:=
 zab .add false t11 (.int .i64 1) fun t22=>
 Kb3 (zkh t0 t3 t9 t10 t22) H
def zya (t0 t3 t9 t10 t11:AV) (H:zaa) (K:Kt) (Kb3:Lt):Prop:=
 zyb t0 t3 t9 t10 t11 H K Kb3
def zkg (t6 t25 t26 t27:AV):List AV:=ux 6 (t6::ux 18 (t25::t26::t27::ux 8 []))
def zIF:List Bool:=zfp 11
noncomputable def zIB:Code:=zaq [1,1,1,1,0,1,0,0] zhC
def zIz (K:Kt):AExit→List AV→zaa→Prop:=zar tP zfp [1,1,1,1,0,1,0] zhC (zax tP zye K)
def zyc (t6 t25 t26 t27:AV) (H:zaa) (K:Kt):Prop:=ALoop tP zIB (zIz K) (zkg t6 t25 t26 t27) H
def zqj (t6 t25 t26 t27:AV) (H:zaa) (K:Kt) (Kb11:Lt):Prop:=
 zab .lss false t27 t26 fun t28=>
 zag t28
 (zai 1 t25 t27 fun t29=>
 zae false 1 t29 H fun t30=>
 zaw zbJ 2 32 t6 t30 H fun t33 H=>
 zab .add false t27 (.int .i64 1) fun t34=>
 Kb11 (zkg t33 t25 t26 t34) H)
 (K t6 H)
def zqk (t0 t3 t9 t10 t11:AV) (H:zaa) (K:Kt) (Kb3:Lt):Prop:=
 zab .lss false t11 t10 fun t12=>
 zag t12
 (zai 1 t9 t11 fun t13=>
 zae false 1 t13 H fun t14=>
 zah 1 t14 fun t17=>
 zab .add false t3 t17 fun t18=>
 zab .lss false t18 (.int .i64 0) fun t20=>
 zag t20
 (False)
 (zya t0 t18 t9 t10 t11 H K Kb3))
 (ACalls tP zvp [.snil,t3] H fun t24 H=>
 zah 1 t0 fun t26=>
 zyc t24 t0 t26 (.int .i64 0) H K)
def zx9 (t0:AV) (H:zaa) (K:Kt):Prop:=
 zah 1 t0 fun t10=>
 zyd t0 (.int .i64 0) t0 t10 (.int .i64 0) H K
theorem zID {t6 t25 t26 t27:AV} {H:zaa} {K:Kt} (Inv:Nat→AV→AV→zaa→Prop) (n:Nat) (h0:HSc H→Inv n t6 t27 H)
  (round:Rd2 (fun t6=>fun t27=>zkg t6 t25 t26 t27) (fun t6=>fun t27=>fun H Kb11=>zqj t6 t25 t26 t27 H K Kb11) H Inv):zyc t6 t25 t26 t27 H K:=
 lp2 (M:=zfp) zIF t6 t27 (by kernel_rfl) Inv n h0 round
theorem zIE {t0 t3 t9 t10 t11:AV} {H:zaa} {K:Kt} (Inv:Nat→AV→AV→zaa→Prop) (n:Nat) (h0:HSc H→Inv n t3 t11 H)
  (round:Rd2 (fun t3=>fun t11=>zkh t0 t3 t9 t10 t11) (fun t3=>fun t11=>fun H Kb3=>zqk t0 t3 t9 t10 t11 H K Kb3) H Inv):zyd t0 t3 t9 t10 t11 H K:=
 lp2 (M:=zfp) zIG t3 t11 (by kernel_rfl) Inv n h0 round
theorem zIH {t0:AV} {H:zaa} {K:Kt} (h:HSc H→zx9 t0 H K):ACalls tP zn5 [t0] H K:=
 zao (M:=zfp) Tryz.func134 (c:=zhC) (by kernel_rfl) (fun hs=>Eq.mpr (by kernel_rfl) (h hs))
def zfD:Nat→List Bool
 | 3=>rl false [0,1,2,1,5,3,24]
 | 11=>rl false [6,1,18,3,8]
 | _=>[]
noncomputable def zhW:Code:=Tryz.f87.body.getD .skip
noncomputable def zBo:List ResultVar:=Tryz.f87.results.toList
def zmK (t0 t3 t9 t10 t11:AV):List AV:=t0::ux 2 (t3::ux 5 (t9::t10::t11::ux 24 []))
def zRU:List Bool:=zfD 3
noncomputable def zRQ:Code:=zaq [1,1,0,1,0,0] zhW
def zRO (K:Kt):AExit→List AV→zaa→Prop:=zar tP zfD [1,1,0,1,0] zhW (zax tP zBo K)
def zBn (t0 t3 t9 t10 t11:AV) (H:zaa) (K:Kt):Prop:=ALoop tP zRQ (zRO K) (zmK t0 t3 t9 t10 t11) H
def zBl (t0 t3 t9 t10 t11:AV) (H:zaa) (K:Kt) (Kb3:Lt):Prop:=
 zab .add false t11 (.int .i64 1) fun t22=>
 Kb3 (zmK t0 t3 t9 t10 t22) H
def zBk (t0 t3 t9 t10 t11:AV) (H:zaa) (K:Kt) (Kb3:Lt):Prop:=
 zBl t0 t3 t9 t10 t11 H K Kb3
def zmJ (t6 t25 t26 t27:AV):List AV:=ux 6 (t6::ux 18 (t25::t26::t27::ux 8 []))
def zRT:List Bool:=zfD 11
noncomputable def zRP:Code:=zaq [1,1,1,1,0,1,0,0] zhW
def zRN (K:Kt):AExit→List AV→zaa→Prop:=zar tP zfD [1,1,1,1,0,1,0] zhW (zax tP zBo K)
def zBm (t6 t25 t26 t27:AV) (H:zaa) (K:Kt):Prop:=ALoop tP zRP (zRN K) (zmJ t6 t25 t26 t27) H
def zsV (t6 t25 t26 t27:AV) (H:zaa) (K:Kt) (Kb11:Lt):Prop:=
 zab .lss false t27 t26 fun t28=>
 zag t28
 (zai 1 t25 t27 fun t29=>
 zae false 1 t29 H fun t30=>
 zaw zaB 5 88 t6 t30 H fun t33 H=>
 zab .add false t27 (.int .i64 1) fun t34=>
 Kb11 (zmJ t33 t25 t26 t34) H)
 (K t6 H)
def zsW (t0 t3 t9 t10 t11:AV) (H:zaa) (K:Kt) (Kb3:Lt):Prop:=
 zab .lss false t11 t10 fun t12=>
 zag t12
 (zai 1 t9 t11 fun t13=>
 zae false 1 t13 H fun t14=>
 zah 1 t14 fun t17=>
 zab .add false t3 t17 fun t18=>
 zab .lss false t18 (.int .i64 0) fun t20=>
 zag t20
 (False)
 (zBk t0 t18 t9 t10 t11 H K Kb3))
 (ACalls tP zvm [.snil,t3] H fun t24 H=>
 zah 1 t0 fun t26=>
 zBm t24 t0 t26 (.int .i64 0) H K)
def zBj (t0:AV) (H:zaa) (K:Kt):Prop:=
 zah 1 t0 fun t10=>
 zBn t0 (.int .i64 0) t0 t10 (.int .i64 0) H K
theorem zRR {t6 t25 t26 t27:AV} {H:zaa} {K:Kt} (Inv:Nat→AV→AV→zaa→Prop) (n:Nat) (h0:HSc H→Inv n t6 t27 H)
  (round:Rd2 (fun t6=>fun t27=>zmJ t6 t25 t26 t27) (fun t6=>fun t27=>fun H Kb11=>zsV t6 t25 t26 t27 H K Kb11) H Inv):zBm t6 t25 t26 t27 H K:=
 lp2 (M:=zfD) zRT t6 t27 (by kernel_rfl) Inv n h0 round
theorem zRS {t0 t3 t9 t10 t11:AV} {H:zaa} {K:Kt} (Inv:Nat→AV→AV→zaa→Prop) (n:Nat) (h0:HSc H→Inv n t3 t11 H)
  (round:Rd2 (fun t3=>fun t11=>zmK t0 t3 t9 t10 t11) (fun t3=>fun t11=>fun H Kb3=>zsW t0 t3 t9 t10 t11 H K Kb3) H Inv):zBn t0 t3 t9 t10 t11 H K:=
 lp2 (M:=zfD) zRU t3 t11 (by kernel_rfl) Inv n h0 round
theorem zRV {t0:AV} {H:zaa} {K:Kt} (h:HSc H→zBj t0 H K):ACalls tP zoP [t0] H K:=
 zao (M:=zfD) Tryz.func87 (c:=zhW) (by kernel_rfl) (fun hs=>Eq.mpr (by kernel_rfl) (h hs))
def zPg (_:Nat):List Bool:=[]
noncomputable def zPh:Code:=Tryz.f41.body.getD .skip
def zAt (t0 t1:AV) (H:zaa) (K:Kt):Prop:=
 zav t1 H fun t3 H=>
 zae true 3 t3 H fun t6=>
 zdF H fun t7 H=>
 zas [.snil,(.int .i64 0),(.int .i64 0),.snil,.unk,.snil] [(0,1),(1,3),(4,1),(5,1)] [(0,t0),(1,t6),(2,t7)] fun t8=>
 zav t8 H fun t9 H=>
 K t9 H
theorem zPi {t0 t1:AV} {H:zaa} {K:Kt} (h:HSc H→zAt t0 t1 H K):ACalls tP zoF [t0,t1] H K:=
 zao (M:=zPg) Tryz.func41 (c:=zPh) (by kernel_rfl) (fun hs=>Eq.mpr (by kernel_rfl) (h hs))
def zl1:Nat→List Bool
 | 1=>rl false [0,1,8,3,55]
 | 400007=>rl false [0,1]
 | _=>[]
noncomputable def zsg:Code:=Tryz.f42.body.getD .skip
noncomputable def zPv:List ResultVar:=Tryz.f42.results.toList
def zhO (t0 t9 t10 t11:AV):List AV:=t0::ux 8 (t9::t10::t11::ux 55 [])
def zPt:List Bool:=zl1 1
noncomputable def zPr:Code:=zaq [1,0,0] zsg
def zPq (K:Kt):AExit→List AV→zaa→Prop:=zar tP zl1 [1,0] zsg (zax tP zPv K)
def zAw (t0 t9 t10 t11:AV) (H:zaa) (K:Kt):Prop:=ALoop tP zPr (zPq K) (zhO t0 t9 t10 t11) H
def zsh (t0 t9 t10 t11:AV) (H:zaa) (K:Kt) (Kb1:Lt):Prop:=
 zab .add false t11 (.int .i64 1) fun t66=>
 Kb1 (zhO t0 t9 t10 t66) H
def zl2 (t0 t9 t10 t11:AV) (H:zaa) (K:Kt) (Kb1:Lt):Prop:=
 zsh t0 t9 t10 t11 H K Kb1
def zsf (t0 t9 t10 t11:AV) (H:zaa) (K:Kt) (Kb1:Lt):Prop:=
 zab .lss false t11 t10 fun t12=>
 zag t12
 (zai 5 t9 t11 fun t13=>
 zae true 5 t13 H fun t14=>
 zay [(.int .i64 0),.snil,(.bool false),.snil,.snil] H fun t5 H=>
 zan 5 t5 t14 H fun H=>
 zm7 112 [.nilp,.snil] H fun t6 H=>
 zaf 0 t5 fun t15=>
 zae true 2 t15 H fun t16=>
 ACalls tP ziX [t6,t16] H fun t17 H=>
 zad H (fun K'=>K' t0 H) fun t19=>
 zad H (fun K'=>za2 t19 (K' · H)) fun t20=>
 zad H (fun K'=>zaf 4 t20 (K' · H)) fun t21=>
 zad H (fun K'=>zal false 1 t21 H (K' · H)) fun t22=>
 zaF H (fun H K'=>ACalls tP zha [t6] H K') fun t23=>
 zad H (fun K'=>zdq (.int .i64 0) true t22 t23 H (K' · H)) fun t24=>
 zad H (fun K'=>K' t24 H) fun t18=>
 zad H (fun K'=>zaz t18 0 (K' · H)) fun t25=>
 zad H (fun K'=>zaz t18 1 (K' · H)) fun t26=>
 zad H (fun K'=>K' t25 H) fun t7=>
 zad H (fun K'=>K' t26 H) fun t8=>
 zag t8
 (zad H (fun K'=>K' t0 H) fun t28=>
 zad H (fun K'=>za2 t28 (K' · H)) fun t29=>
 zad H (fun K'=>zaf 5 t29 (K' · H)) fun t30=>
 zad H (fun K'=>zae false 1 t30 H (K' · H)) fun t31=>
 zad H (fun K'=>K' t7 H) fun t32=>
 zad H (fun K'=>K' t0 H) fun t33=>
 zad H (fun K'=>za2 t33 (K' · H)) fun t34=>
 zad H (fun K'=>zaf 5 t34 (K' · H)) fun t35=>
 zad H (fun K'=>zae false 1 t35 H (K' · H)) fun t36=>
 zad H (fun K'=>K' t7 H) fun t37=>
 zad H (fun K'=>zai 5 t36 t37 (K' · H)) fun t38=>
 zad H (fun K'=>zaf 2 t38 (K' · H)) fun t39=>
 zad H (fun K'=>zae true 3 t39 H (K' · H)) fun t40=>
 zad H (fun K'=>zaf 2 t5 (K' · H)) fun t41=>
 zad H (fun K'=>zae true 3 t41 H (K' · H)) fun t42=>
 zaF H (fun H K'=>ACalls tP zoL [t40,t42] H K') fun t43=>
 zad H (fun K'=>zai 5 t31 t32 (K' · H)) fun t44=>
 zad H (fun K'=>zaf 2 t44 (K' · H)) fun t45=>
 zan 3 t45 t43 H fun H=>
 zl2 t0 t9 t10 t11 H K Kb1)
 (zad H (fun K'=>K' t0 H) fun t46=>
 zad H (fun K'=>za2 t46 (K' · H)) fun t47=>
 zad H (fun K'=>zaf 4 t47 (K' · H)) fun t48=>
 zad H (fun K'=>zal false 1 t48 H (K' · H)) fun t49=>
 zaF H (fun H K'=>ACalls tP zha [t6] H K') fun t50=>
 zad H (fun K'=>K' t0 H) fun t51=>
 zad H (fun K'=>za2 t51 (K' · H)) fun t52=>
 zad H (fun K'=>zaf 5 t52 (K' · H)) fun t53=>
 zad H (fun K'=>zal false 1 t53 H (K' · H)) fun t54=>
 zad H (fun K'=>zah 1 t54 (K' · H)) fun t55=>
 zcG t49 t50 t55 H fun H=>
 zad H (fun K'=>K' t0 H) fun t56=>
 zad H (fun K'=>K' t0 H) fun t57=>
 zad H (fun K'=>za2 t57 (K' · H)) fun t58=>
 zad H (fun K'=>zaf 5 t58 (K' · H)) fun t59=>
 zad H (fun K'=>zal false 1 t59 H (K' · H)) fun t60=>
 zad H (fun K'=>zal true 5 t5 H (K' · H)) fun t61=>
 zad H (fun K'=>zau 5 [(.int .i64 0),.snil,(.bool false),.snil,.snil] 1 [(0,t61)] (K' · H)) fun t62=>
 zaw zaB 5 88 t60 t62 H fun t63 H=>
 zad H (fun K'=>za2 t56 (K' · H)) fun t64=>
 zad H (fun K'=>zaf 5 t64 (K' · H)) fun t65=>
 zan 1 t65 t63 H fun H=>
 zl2 t0 t9 t10 t11 H K Kb1))
 (zaC [] (K · H))
def zAv (t0 t1:AV) (H:zaa) (K:Kt):Prop:=
 zah 1 t1 fun t10=>
 zAw t0 t1 t10 (.int .i64 0) H K
theorem zPs {t0 t9 t10 t11:AV} {H:zaa} {K:Kt} (Inv:Nat→AV→zaa→Prop) (n:Nat) (h0:HSc H→Inv n t11 H)
  (round:Rd1 (fun t11=>zhO t0 t9 t10 t11) (fun t11=>fun H Kb1=>zsf t0 t9 t10 t11 H K Kb1) H Inv):zAw t0 t9 t10 t11 H K:=
 lp1 (M:=zl1) zPt t11 (by kernel_rfl) Inv n h0 round
theorem zPu {t0 t1:AV} {H:zaa} {K:Kt} (h:HSc H→zAv t0 t1 H K):ACalls tP zoG [t0,t1] H K:=
 zao (M:=zl1) Tryz.func42 (c:=zsg) (by kernel_rfl) (fun hs=>Eq.mpr (by kernel_rfl) (h hs))
def zfB:Nat→List Bool
 | 4=>rl false [0,1,3,2,9,3,50]
 | 14=>rl false [4,1,52,3,8]
 | _=>[]
noncomputable def zhR:Code:=Tryz.f44.body.getD .skip
noncomputable def zAA:List ResultVar:=Tryz.f44.results.toList
def zmc (t0 t4 t5 t15 t16 t17:AV):List AV:=t0::ux 3 (t4::t5::ux 9 (t15::t16::t17::ux 50 []))
def zPQ:List Bool:=zfB 4
noncomputable def zPM:Code:=zaq [1,1,1,0,1,0,0] zhR
def zPK (K:Kt):AExit→List AV→zaa→Prop:=zar tP zfB [1,1,1,0,1,0] zhR (zax tP zAA K)
def zmd (t0 t4 t5 t15 t16 t17:AV) (H:zaa) (K:Kt):Prop:=ALoop tP zPM (zPK K) (zmc t0 t4 t5 t15 t16 t17) H
def zAy (t0 t4 t5 t15 t16 t17:AV) (H:zaa) (K:Kt) (Kb4:Lt):Prop:=
 zab .add false t17 (.int .i64 1) fun t54=>
 Kb4 (zmc t0 t4 t5 t15 t16 t54) H
def zso (t0 t4 t5 t15 t16 t17:AV) (H:zaa) (K:Kt) (Kb4:Lt):Prop:=
 zAy t0 t4 t5 t15 t16 t17 H K Kb4
def zmb (t4 t57 t58 t59:AV):List AV:=ux 4 (t4::ux 52 (t57::t58::t59::ux 8 []))
def zPP:List Bool:=zfB 14
noncomputable def zPL:Code:=zaq [1,1,1,1,1,0,1,0,0] zhR
def zPJ (K:Kt):AExit→List AV→zaa→Prop:=zar tP zfB [1,1,1,1,1,0,1,0] zhR (zax tP zAA K)
def zAz (t4 t57 t58 t59:AV) (H:zaa) (K:Kt):Prop:=ALoop tP zPL (zPJ K) (zmb t4 t57 t58 t59) H
def zsn (t4 t57 t58 t59:AV) (H:zaa) (K:Kt) (Kb14:Lt):Prop:=
 zab .lss false t59 t58 fun t60=>
 zag t60
 (zai 1 t57 t59 fun t61=>
 zae false 1 t61 H fun t62=>
 ACalls tP zvs [t62,(.fn zi1 [])] H fun t64 H=>
 zab .add false t59 (.int .i64 1) fun t65=>
 Kb14 (zmb t4 t57 t58 t65) H)
 (ACalls tP zoP [t4] H fun t67 H=>
 zaC [t67,(.int .i64 0)] (K · H))
def zma (t0 t4 t5 t15 t16 t17:AV) (H:zaa) (K:Kt) (Kb4:Lt):Prop:=
 zab .lss false t17 t16 fun t18=>
 zag t18
 (zai 5 t15 t17 fun t19=>
 zae true 5 t19 H fun t20=>
 zay [(.int .i64 0),.snil,(.bool false),.snil,.snil] H fun t7 H=>
 zan 5 t7 t20 H fun H=>
 zaf 2 t7 fun t21=>
 zae true 3 t21 H fun t22=>
 ACalls tP ziZ [t22] H fun t23 H=>
 zab .neq false t23 (.int .i64 0) fun t24=>
 zag t24
 (zad H (fun K'=>K' t0 H) fun t25=>
 zad H (fun K'=>za2 t25 (K' · H)) fun t26=>
 zad H (fun K'=>zaf 0 t26 (K' · H)) fun t27=>
 zad H (fun K'=>zal false 1 t27 H (K' · H)) fun t28=>
 zad H (fun K'=>K' t0 H) fun t29=>
 zad H (fun K'=>za2 t29 (K' · H)) fun t30=>
 zad H (fun K'=>zaf 1 t30 (K' · H)) fun t31=>
 zad H (fun K'=>zal true 3 t31 H (K' · H)) fun t32=>
 zad H (fun K'=>zaf 0 t7 (K' · H)) fun t33=>
 zad H (fun K'=>zal true 2 t33 H (K' · H)) fun t34=>
 zaF H (fun H K'=>ACalls tP zg7 [t28,t32,t34] H K') fun t35=>
 zad H (fun K'=>K' t35 H) fun t8=>
 zad H (fun K'=>K' t4 H) fun t36=>
 zad H (fun K'=>K' t8 H) fun t37=>
 zad H (fun K'=>K' t4 H) fun t38=>
 zad H (fun K'=>K' t8 H) fun t39=>
 zad H (fun K'=>zai 1 t38 t39 (K' · H)) fun t40=>
 zad H (fun K'=>zal false 1 t40 H (K' · H)) fun t41=>
 zad H (fun K'=>zaf 0 t7 (K' · H)) fun t42=>
 zad H (fun K'=>zal true 2 t42 H (K' · H)) fun t43=>
 zaF H (fun H K'=>ACalls tP zi0 [t43] H K') fun t44=>
 zad H (fun K'=>zaf 2 t7 (K' · H)) fun t45=>
 zad H (fun K'=>zal true 3 t45 H (K' · H)) fun t46=>
 zaF H (fun H K'=>ACalls tP zoO [t46] H K') fun t47=>
 zad H (fun K'=>zas [(.int .i64 0),.snil,(.bool false),.snil,.snil] [(0,2),(2,3)] [(0,t44),(1,t47)] (K' · H)) fun t48=>
 zad H (fun K'=>zau 5 [(.int .i64 0),.snil,(.bool false),.snil,.snil] 1 [(0,t48)] (K' · H)) fun t49=>
 zaw zaB 5 88 t41 t49 H fun t50 H=>
 zad H (fun K'=>zai 1 t36 t37 (K' · H)) fun t51=>
 zan 1 t51 t50 H fun H=>
 zab .add false t5 (.int .i64 1) fun t53=>
 zso t0 t4 t53 t15 t16 t17 H K Kb4)
 (zso t0 t4 t5 t15 t16 t17 H K Kb4))
 (zab .gtr false t5 (.int .i64 1000) fun t56=>
 zag t56
 (zaC [.snil,(.int .i64 9)] (K · H))
 (zah 1 t4 fun t58=>
 zAz t4 t4 t58 (.int .i64 0) H K))
def zAx (t0:AV) (H:zaa) (K:Kt):Prop:=
 zbh 24 [.snil] (.int .i64 7) (.int .i64 7) H fun t11 H=>
 za2 t0 fun t13=>
 zaf 5 t13 fun t14=>
 zae false 1 t14 H fun t15=>
 zah 1 t15 fun t16=>
 zmd t0 t11 (.int .i64 0) t15 t16 (.int .i64 0) H K
theorem zPN {t4 t57 t58 t59:AV} {H:zaa} {K:Kt} (Inv:Nat→AV→zaa→Prop) (n:Nat) (h0:HSc H→Inv n t59 H)
  (round:Rd1 (fun t59=>zmb t4 t57 t58 t59) (fun t59=>fun H Kb14=>zsn t4 t57 t58 t59 H K Kb14) H Inv):zAz t4 t57 t58 t59 H K:=
 lp1 (M:=zfB) zPP t59 (by kernel_rfl) Inv n h0 round
theorem zPO {t0 t4 t5 t15 t16 t17:AV} {H:zaa} {K:Kt} (Inv:Nat→AV→AV→zaa→Prop) (n:Nat) (h0:HSc H→Inv n t5 t17 H)
  (round:Rd2 (fun t5=>fun t17=>zmc t0 t4 t5 t15 t16 t17) (fun t5=>fun t17=>fun H Kb4=>zma t0 t4 t5 t15 t16 t17 H K Kb4) H Inv):zmd t0 t4 t5 t15 t16 t17 H K:=
 lp2 (M:=zfB) zPQ t5 t17 (by kernel_rfl) Inv n h0 round
theorem zPR {t0:AV} {H:zaa} {K:Kt} (h:HSc H→zAx t0 H K):ACalls tP zoH [t0] H K:=
 zao (M:=zfB) Tryz.func44 (c:=zhR) (by kernel_rfl) (fun hs=>Eq.mpr (by kernel_rfl) (h hs))
def zmy:Nat→List Bool
 | 5=>rl false [0,1,17,3,11]
 | _=>[]
noncomputable def zsJ:Code:=Tryz.f75.body.getD .skip
noncomputable def zQ5:List ResultVar:=Tryz.f75.results.toList
def zmz (t0 t18 t19 t20:AV):List AV:=t0::ux 17 (t18::t19::t20::ux 11 [])
def zQ3:List Bool:=zmy 5
noncomputable def zQ1:Code:=zaq [1,1,1,0,1,0,1,0,0] zsJ
def zQ0 (K:Kt):AExit→List AV→zaa→Prop:=zar tP zmy [1,1,1,0,1,0,1,0] zsJ (zax tP zQ5 K)
def zA2 (t0 t18 t19 t20:AV) (H:zaa) (K:Kt):Prop:=ALoop tP zQ1 (zQ0 K) (zmz t0 t18 t19 t20) H
def zsI (t0 t18 t19 t20:AV) (H:zaa) (K:Kt) (Kb5:Lt):Prop:=
 zab .lss false t20 t19 fun t21=>
 zag t21
 (zai 2 t18 t20 fun t22=>
 zae true 2 t22 H fun t23=>
 zay [(.int .i64 0),.snil] H fun t5 H=>
 zan 2 t5 t23 H fun H=>
 zae true 2 t5 H fun t25=>
 ACalls tP ziX [t0,t25] H fun t26 H=>
 ACalls tP zfR [t0,(.int .u8 44)] H fun t28 H=>
 zab .add false t20 (.int .i64 1) fun t29=>
 Kb5 (zmz t0 t18 t19 t29) H)
 (ACalls tP zfR [t0,(.int .u8 41)] H fun t31 H=>
 zaC [] (K · H))
def zA1 (t0 t1:AV) (H:zaa) (K:Kt):Prop:=
 zav t1 H fun t3 H=>
 zaf 0 t3 fun t7=>
 zae false 1 t7 H fun t8=>
 ACalls tP zn0 [t8] H fun t9 H=>
 ACalls tP ziq [t0,t9] H fun t10 H=>
 zaf 1 t3 fun t11=>
 zae false 1 t11 H fun t12=>
 zah 1 t12 fun t13=>
 zab .gtr false t13 (.int .i64 0) fun t14=>
 zag t14
 (ACalls tP zfR [t0,(.int .u8 40)] H fun t16 H=>
 zaf 1 t3 fun t17=>
 zae false 1 t17 H fun t18=>
 zah 1 t18 fun t19=>
 zA2 t0 t18 t19 (.int .i64 0) H K)
 (zaC [] (K · H))
theorem zQ2 {t0 t18 t19 t20:AV} {H:zaa} {K:Kt} (Inv:Nat→AV→zaa→Prop) (n:Nat) (h0:HSc H→Inv n t20 H)
  (round:Rd1 (fun t20=>zmz t0 t18 t19 t20) (fun t20=>fun H Kb5=>zsI t0 t18 t19 t20 H K Kb5) H Inv):zA2 t0 t18 t19 t20 H K:=
 lp1 (M:=zmy) zQ3 t20 (by kernel_rfl) Inv n h0 round
theorem zQ4 {t0 t1:AV} {H:zaa} {K:Kt} (h:HSc H→zA1 t0 t1 H K):ACalls tP ziX [t0,t1] H K:=
 zao (M:=zmy) Tryz.func75 (c:=zsJ) (by kernel_rfl) (fun hs=>Eq.mpr (by kernel_rfl) (h hs))
def zmG:Nat→List Bool
 | 3=>rl false [2,2,6,3,12]
 | _=>[]
noncomputable def zsU:Code:=Tryz.f82.body.getD .skip
noncomputable def zRB:List ResultVar:=Tryz.f82.results.toList
def zmH (t2 t3 t10 t11 t12:AV):List AV:=ux 2 (t2::t3::ux 6 (t10::t11::t12::ux 12 []))
def zRz:List Bool:=zmG 3
noncomputable def zRx:Code:=zaq [1,1,0,1,0,0] zsU
def zRw (K:Kt):AExit→List AV→zaa→Prop:=zar tP zmG [1,1,0,1,0] zsU (zax tP zRB K)
def zmI (t2 t3 t10 t11 t12:AV) (H:zaa) (K:Kt):Prop:=ALoop tP zRx (zRw K) (zmH t2 t3 t10 t11 t12) H
def zsT (t2 t3 t10 t11 t12:AV) (H:zaa) (K:Kt) (Kb3:Lt):Prop:=
 zab .lss false t12 t11 fun t13=>
 zag t13
 (zai 2 t10 t12 fun t14=>
 zae true 2 t14 H fun t15=>
 zay [(.int .i64 0),.snil] H fun t5 H=>
 zan 2 t5 t15 H fun H=>
 zad H (fun K'=>zaf 1 t3 (K' · H)) fun t16=>
 zad H (fun K'=>zal false 1 t16 H (K' · H)) fun t17=>
 zad H (fun K'=>zal true 2 t5 H (K' · H)) fun t18=>
 zaF H (fun H K'=>ACalls tP zi0 [t18] H K') fun t19=>
 zad H (fun K'=>zau 2 [(.int .i64 0),.snil] 1 [(0,t19)] (K' · H)) fun t20=>
 zaw zbJ 2 32 t17 t20 H fun t21 H=>
 zad H (fun K'=>zaf 1 t3 (K' · H)) fun t22=>
 zan 1 t22 t21 H fun H=>
 zab .add false t12 (.int .i64 1) fun t23=>
 Kb3 (zmH t2 t3 t10 t11 t23) H)
 (zae true 2 t3 H fun t24=>
 zan 2 t2 t24 H fun H=>
 zae true 2 t2 H fun r0=>
 K r0 H)
def zBf (t0:AV) (H:zaa) (K:Kt):Prop:=
 zav t0 H fun t1 H=>
 zay [(.int .i64 0),.snil] H fun t2 H=>
 zaf 0 t1 fun t6=>
 zae false 1 t6 H fun t7=>
 zas [(.int .i64 0),.snil] [(0,1),(1,1)] [(0,t7)] fun t8=>
 zay [(.int .i64 0),.snil] H fun t3 H=>
 zan 2 t3 t8 H fun H=>
 zaf 1 t1 fun t9=>
 zae false 1 t9 H fun t10=>
 zah 1 t10 fun t11=>
 zmI t2 t3 t10 t11 (.int .i64 0) H K
theorem zRy {t2 t3 t10 t11 t12:AV} {H:zaa} {K:Kt} (Inv:Nat→AV→zaa→Prop) (n:Nat) (h0:HSc H→Inv n t12 H)
  (round:Rd1 (fun t12=>zmH t2 t3 t10 t11 t12) (fun t12=>fun H Kb3=>zsT t2 t3 t10 t11 t12 H K Kb3) H Inv):zmI t2 t3 t10 t11 t12 H K:=
 lp1 (M:=zmG) zRz t12 (by kernel_rfl) Inv n h0 round
theorem zRA {t0:AV} {H:zaa} {K:Kt} (h:HSc H→zBf t0 H K):ACalls tP zi0 [t0] H K:=
 zao (M:=zmG) Tryz.func82 (c:=zsU) (by kernel_rfl) (fun hs=>Eq.mpr (by kernel_rfl) (h hs))
def zRD (_:Nat):List Bool:=[]
noncomputable def zRE:Code:=Tryz.f83.body.getD .skip
def zBg (t0:AV) (H:zaa) (K:Kt):Prop:=
 zav t0 H fun t1 H=>
 zay [(.bool false),.snil,.snil] H fun t2 H=>
 zae true 3 t1 H fun t3=>
 ACalls tP zd7 [t3] H fun t4 H=>
 ACalls tP zeA [t4] H fun t5 H=>
 zan 3 t2 t5 H fun H=>
 zae true 3 t2 H fun r0=>
 K r0 H
theorem zRF {t0:AV} {H:zaa} {K:Kt} (h:HSc H→zBg t0 H K):ACalls tP zoO [t0] H K:=
 zao (M:=zRD) Tryz.func83 (c:=zRE) (by kernel_rfl) (fun hs=>Eq.mpr (by kernel_rfl) (h hs))
def zRH (_:Nat):List Bool:=[]
noncomputable def zRI:Code:=Tryz.f85.body.getD .skip
def zBh (t0 t1:AV) (H:zaa) (K:Kt):Prop:=
 zav t0 H fun t2 H=>
 zav t1 H fun t3 H=>
 zaf 0 t2 fun t5=>
 zae true 2 t5 H fun t6=>
 zaf 0 t3 fun t7=>
 zae true 2 t7 H fun t8=>
 ACalls tP zfX [t6,t8] H fun t9 H=>
 K t9 H
theorem zRJ {t0 t1:AV} {H:zaa} {K:Kt} (h:HSc H→zBh t0 t1 H K):ACalls tP zi1 [t0,t1] H K:=
 zao (M:=zRH) Tryz.func85 (c:=zRI) (by kernel_rfl) (fun hs=>Eq.mpr (by kernel_rfl) (h hs))
def zRj (_:Nat):List Bool:=[]
noncomputable def zRk:Code:=Tryz.f79.body.getD .skip
def zBb (t0 t1:AV) (H:zaa) (K:Kt):Prop:=
 zab .lss false t0 (.int .i64 0) fun t7=>
 zac t7 false H (fun K'=>K' t0 H) fun t9 H=>
 zac t7 false H (fun K'=>zab .gtr false t9 (.int .i64 16) (K' · H)) fun t10 H=>
 zaj t7 (.bool true) t10 fun t11=>
 zac t11 false H (fun K'=>K' t1 H) fun t13 H=>
 zac t11 false H (fun K'=>zab .lss false t13 (.int .i64 0) (K' · H)) fun t14 H=>
 zaj t11 (.bool true) t14 fun t15=>
 zac t15 false H (fun K'=>K' t1 H) fun t17 H=>
 zac t15 false H (fun K'=>zab .gtr false t17 (.int .i64 16) (K' · H)) fun t18 H=>
 zaj t15 (.bool true) t18 fun t19=>
 zag t19
 (zaC [.snil,(.bool false)] (K · H))
 (ACalls tP zn3 [t0,t1] H fun t22 H=>
 zaC [t22,(.bool true)] (K · H))
theorem zRl {t0 t1:AV} {H:zaa} {K:Kt} (h:HSc H→zBb t0 t1 H K):ACalls tP zoM [t0,t1] H K:=
 zao (M:=zRj) Tryz.func79 (c:=zRk) (by kernel_rfl) (fun hs=>Eq.mpr (by kernel_rfl) (h hs))
def zkc:Nat→List Bool
 | 3=>rl false [0,2,3,2,28]
 | _=>[]
noncomputable def zqf:Code:=Tryz.f131.body.getD .skip
noncomputable def zIo:List ResultVar:=Tryz.f131.results.toList
def zkd (t0 t1 t5 t6:AV):List AV:=t0::t1::ux 3 (t5::t6::ux 28 [])
def zIm:List Bool:=zkc 3
noncomputable def zIk:Code:=zaq [1,1,0,1,0,0] zqf
def zIj (K:Kt):AExit→List AV→zaa→Prop:=zar tP zkc [1,1,0,1,0] zqf (zax tP zIo K)
def zx5 (t0 t1 t5 t6:AV) (H:zaa) (K:Kt):Prop:=ALoop tP zIk (zIj K) (zkd t0 t1 t5 t6) H
def zqe (t0 t1 t5 t6:AV) (H:zaa) (K:Kt) (Kb3:Lt):Prop:=
 zab .add false t0 t1 fun t18=>
 zab .leq false t6 t18 fun t19=>
 zag t19
 (ACalls tP ziA [t6,t0] H fun t26 H=>
 zab .sub false t6 t1 fun t30=>
 ACalls tP ziA [t0,t30] H fun t31 H=>
 ACalls tP zfb [t26,t31] H fun t32 H=>
 zai 3 t5 t6 fun t33=>
 zan 3 t33 t32 H fun H=>
 zab .add false t6 (.int .i64 1) fun t21=>
 Kb3 (zkd t0 t1 t5 t21) H)
 (K t5 H)
def zx4 (t0 t1:AV) (H:zaa) (K:Kt):Prop:=
 zab .add false t0 t1 fun t9=>
 zab .add false t9 (.int .i64 1) fun t10=>
 ACalls tP zok [t10] H fun t11 H=>
 zeO t0 t1 fun t14=>
 zx5 t0 t1 t11 t14 H K
theorem zIl {t0 t1 t5 t6:AV} {H:zaa} {K:Kt} (Inv:Nat→AV→zaa→Prop) (n:Nat) (h0:HSc H→Inv n t6 H)
  (round:Rd1 (fun t6=>zkd t0 t1 t5 t6) (fun t6=>fun H Kb3=>zqe t0 t1 t5 t6 H K Kb3) H Inv):zx5 t0 t1 t5 t6 H K:=
 lp1 (M:=zkc) zIm t6 (by kernel_rfl) Inv n h0 round
theorem zIn {t0 t1:AV} {H:zaa} {K:Kt} (h:HSc H→zx4 t0 t1 H K):ACalls tP zn3 [t0,t1] H K:=
 zao (M:=zkc) Tryz.func131 (c:=zqf) (by kernel_rfl) (fun hs=>Eq.mpr (by kernel_rfl) (h hs))
def zle:Nat→List Bool
 | 3=>rl false [3,1,4,2,8]
 | _=>[]
noncomputable def zrg:Code:=Tryz.f174.body.getD .skip
noncomputable def zLI:List ResultVar:=Tryz.f174.results.toList
def zlf (t3 t8 t9:AV):List AV:=ux 3 (t3::ux 4 (t8::t9::ux 8 []))
def zLG:List Bool:=zle 3
noncomputable def zLE:Code:=zaq [1,1,0,1,0,0] zrg
def zLD (K:Kt):AExit→List AV→zaa→Prop:=zar tP zle [1,1,0,1,0] zrg (zax tP zLI K)
def zzm (t3 t8 t9:AV) (H:zaa) (K:Kt):Prop:=ALoop tP zLE (zLD K) (zlf t3 t8 t9) H
def zrf (t3 t8 t9:AV) (H:zaa) (K:Kt) (Kb3:Lt):Prop:=
 zab .lss false t9 t8 fun t10=>
 zag t10
 (ACalls tP zde [(.int .i64 0)] H fun t14 H=>
 zai 3 t3 t9 fun t15=>
 zan 3 t15 t14 H fun H=>
 zab .add false t9 (.int .i64 1) fun t16=>
 Kb3 (zlf t3 t8 t16) H)
 (K t3 H)
def zzl (t0:AV) (H:zaa) (K:Kt):Prop:=
 zbh 56 [(.bool false),.snil,.snil] t0 t0 H fun t6 H=>
 zah 1 t6 fun t8=>
 zzm t6 t8 (.int .i64 0) H K
theorem zLF {t3 t8 t9:AV} {H:zaa} {K:Kt} (Inv:Nat→AV→zaa→Prop) (n:Nat) (h0:HSc H→Inv n t9 H)
  (round:Rd1 (fun t9=>zlf t3 t8 t9) (fun t9=>fun H Kb3=>zrf t3 t8 t9 H K Kb3) H Inv):zzm t3 t8 t9 H K:=
 lp1 (M:=zle) zLG t9 (by kernel_rfl) Inv n h0 round
theorem zLH {t0:AV} {H:zaa} {K:Kt} (h:HSc H→zzl t0 H K):ACalls tP zok [t0] H K:=
 zao (M:=zle) Tryz.func174 (c:=zrg) (by kernel_rfl) (fun hs=>Eq.mpr (by kernel_rfl) (h hs))
def zki:Nat→List Bool
 | 4=>rl false [7,1,1,1,13,3,15]
 | _=>[]
noncomputable def zql:Code:=Tryz.f135.body.getD .skip
noncomputable def zIN:List ResultVar:=Tryz.f135.results.toList
def zkk (t7 t9 t23 t24 t25:AV):List AV:=ux 7 (t7::ux 1 (t9::ux 13 (t23::t24::t25::ux 15 [])))
def zIL:List Bool:=zki 4
noncomputable def zIJ:Code:=zaq [1,1,1,0,1,0,0] zql
def zII (K:Kt):AExit→List AV→zaa→Prop:=zar tP zki [1,1,1,0,1,0] zql (zax tP zIN K)
def zkm (t7 t9 t23 t24 t25:AV) (H:zaa) (K:Kt):Prop:=ALoop tP zIJ (zII K) (zkk t7 t9 t23 t24 t25) H
def zyg (t7 t9 t23 t24 t25:AV) (H:zaa) (K:Kt) (Kb4:Lt):Prop:=
 zab .add false t25 (.int .i64 1) fun t39=>
 Kb4 (zkk t7 t9 t23 t24 t39) H
def zkl (t7 t9 t23 t24 t25:AV) (H:zaa) (K:Kt) (Kb4:Lt):Prop:=
 zyg t7 t9 t23 t24 t25 H K Kb4
def zkj (t7 t9 t23 t24 t25:AV) (H:zaa) (K:Kt) (Kb4:Lt):Prop:=
 zab .lss false t25 t24 fun t26=>
 zag t26
 (zai 1 t23 t25 fun t28=>
 zae false 1 t28 H fun t29=>
 aUn .not t29 fun t31=>
 zag t31
 (zai 3 t7 t25 fun t35=>
 zae true 3 t35 H fun t36=>
 zau 3 [(.int .i64 0),(.int .i64 0),.snil] 1 [(0,t36)] fun t37=>
 zaw zaV 3 40 t9 t37 H fun t38 H=>
 zkl t7 t38 t23 t24 t25 H K Kb4)
 (zkl t7 t9 t23 t24 t25 H K Kb4))
 (K t9 H)
def zyf (t0 t1 t2:AV) (H:zaa) (K:Kt):Prop:=
 zav t1 H fun t4 H=>
 zae true 3 t4 H fun t14=>
 ACalls tP ziy [t0,t14,t2] H fun t16 H=>
 zaz t16 0 fun t17=>
 zaz t16 1 fun t18=>
 zaf 1 t4 fun t20=>
 zae false 1 t20 H fun t21=>
 ACalls tP ze7 [t0,t21,t2] H fun t23 H=>
 zah 1 t23 fun t24=>
 zkm t17 .snil t23 t24 (.int .i64 0) H K
theorem zIK {t7 t9 t23 t24 t25:AV} {H:zaa} {K:Kt} (Inv:Nat→AV→AV→zaa→Prop) (n:Nat) (h0:HSc H→Inv n t9 t25 H)
  (round:Rd2 (fun t9=>fun t25=>zkk t7 t9 t23 t24 t25) (fun t9=>fun t25=>fun H Kb4=>zkj t7 t9 t23 t24 t25 H K Kb4) H Inv):zkm t7 t9 t23 t24 t25 H K:=
 lp2 (M:=zki) zIL t9 t25 (by kernel_rfl) Inv n h0 round
theorem zIM {t0 t1 t2:AV} {H:zaa} {K:Kt} (h:HSc H→zyf t0 t1 t2 H K):ACalls tP zn6 [t0,t1,t2] H K:=
 zao (M:=zki) Tryz.func135 (c:=zql) (by kernel_rfl) (fun hs=>Eq.mpr (by kernel_rfl) (h hs))
end Go.Proofs.YtdmamdnkcefmmaaGreatDoor
