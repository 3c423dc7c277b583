import Derived.Test.YtdmamdnkcefmmaaGreatDoorKQH
import Derived.Test.YtdmamdnkcefmmaaGreatDoorKNum
import Derived.Test.YtdmamdnkcefmmaaGreatDoorProg
import Derived.KernelRfl
import Derived.Test.YtdmamdnkcefmmaaGreatDoorVO
import Derived.Deep.Slices
import Derived.DataReads
set_option linter.unusedSimpArgs false
set_option linter.unusedVariables false
set_option maxRecDepth 100000
namespace Go.Proofs.YtdmamdnkcefmmaaGreatDoor
theorem zpm(dU:List Dat)(f:Nat)(t:VT)(i j:IT):∀p∈zbE dU f t i j,0<p.2:=by
 cases f with
 |zero=>rw[zbE];simp
 |succ f=>
  rw[zbE];split
  ·exact zg6 _ _ (by simp)
  ·split
   ·exact zg6 _ _ (by simp)
   ·split
    ·exact zg6 _ _ (by simp)
    ·simp
def mpL(dU:List Dat)(t:VT)(i j:IT):List (IT×Nat):=zbJ dU t (zbE dU (i.nodes+j.nodes) t i j) 7
section
variable {dU:List Dat} {t:VT} {i j k:IT}
theorem zeY(h8:∀D∈dU,D.cons.length≤8){f a b:Nat}(hf:i.nodes+j.nodes≤f)(hi:rdV dU i t=a)(hj:rdV dU j t=b)(h6:a+b≤6):zah (λ_=>1) (zaA dU f t i j)≤Dl a b:=(zwk h8 f).1 t i j a b hf hi hj h6
theorem zfv(hf:za8 dU t=true)(hi:0≤rdV dU i t)(hj:0≤rdV dU j t)(h6:rdV dU i t+rdV dU j t≤6)(g:IT→Nat):zah g (mpL dU t i j)=zah g (zaA dU (i.nodes+j.nodes) t i j):=by have h8:=zcD hf;obtain⟨R1,_⟩:=(zep h8 (i.nodes+j.nodes)).1 t i j (aa _) hi hj h6;have h1:zaM g (zbJ dU t (zbE dU (i.nodes+j.nodes) t i j) 7)=zaM g (zbE dU (i.nodes+j.nodes) t i j):=zql (λp hp=>by have:=R1 p hp;omega) g;rw[←(zd8 dU (i.nodes+j.nodes)).1 t i j g,zbS,zbS]at h1;exact h1
theorem zgj(hf:za8 dU t=true){a b:Nat}(hi:rdV dU i t=a)(hj:rdV dU j t=b)(h4:a+b≤4):Wt dU t (i.nodes+j.nodes) (a+b:Nat) (mpL dU t i j):=by
 have h8:=zcD hf;have hs:=zfv (dU:=dU) (t:=t) (i:=i) (j:=j) hf (by omega) (by omega) (by omega) (λ_=>1);have hp:=zpo (dU:=dU) (t:=t) (i:=i) (j:=j) (aa _) (by omega) (by omega);obtain⟨P1,P2,P3,P4⟩:=zem h8 (f:=i.nodes+j.nodes) (t:=t) (i:=i) (j:=j) (aa _) (by omega) (by omega) (by omega);obtain⟨L1,L2⟩:=zG3 (dU:=dU) (t:=t) (i:=i) (j:=j) hf (by omega) (by omega) (by omega);refine⟨?_,by omega,λp hp=>?_⟩
 ·cases hc:mpL dU t i j with
  |nil=>rw[hc,zc4]at hs;omega
  |cons p s=>simp
 ·have:=L1 p hp;omega
theorem zgI{B:Nat}{D:Int}(h0:0≤rdV dU k t)(hD:rdV dU k t≤D)(hB:k.nodes≤B):Wt dU t B D [(k,1)]:=⟨by simp,by simp,λp hp=>by simp at hp;subst hp;exact⟨hB,Nat.one_pos,h0,hD⟩⟩
theorem zzz{B:Nat}{D:Int}(h0:0≤rdV dU k t)(hD:rdV dU k t≤D)(hB:k.nodes≤B)(h1:0≤rdV dU i t)(po:rdV dU i t≤D)(ny:i.nodes≤B):Wt dU t B D [(i,1),(k,1)]:=⟨by simp,by simp,λp hp=>by
 simp at hp;rcases hp with rfl|rfl
 ·exact⟨ny,Nat.one_pos,h1,po⟩
 ·exact⟨hB,Nat.one_pos,h0,hD⟩⟩
theorem zqR{α:Type}{g:α→Nat}{M:Nat}:∀ {s:List (α × Nat)},(∀ p∈s,g p.1≤M)→zah g s≤zah (λ_=>1) s*M
 |[],_=>by simp
 |p::s,h=>by have h1:=bp p.2 (h p (by simp));have h2:=zqR (g:=g) (M:=M) (s:=s) λq hq=>h q (by simp[hq]);rw[zaW,zaW,aZ,bv];omega
theorem zx3(hf:za8 dU t=true){a b c:Nat}(hi:rdV dU i t=a)(hj:rdV dU j t=b)(hk:rdV dU k t=c)(h4:a+b+c≤4)(g:IT→Nat):
  zah g (zaZ dU t (canL dU t (mpL dU t i j)) (canL dU t [(k,1)]))=zah (λu=>zah g (zaA dU (i.nodes+j.nodes+k.nodes) t u k)) (zaA dU (i.nodes+j.nodes+k.nodes) t i j):=by
 have h8:=zcD hf;have hw:=zgj hf hi hj (by omega);have jl:=zgI (dU:=dU) (t:=t) (k:=k) (B:=k.nodes) (D:=c) (by omega) (by omega) (aa _);rw[zki,hw.canL_sum (by omega),zfv hf (by omega) (by omega) (by omega),zhs h8 (by omega) (by omega) (aa (i.nodes+j.nodes)) (dF _ k.nodes)];obtain⟨P1,P2,P3,P4⟩:=zem h8 (f:=i.nodes+j.nodes) (t:=t) (i:=i) (j:=j) (aa _) (by omega) (by omega) (by omega);refine zik λp hp=>?_;obtain⟨p1,p2,p3,p4,p5,p6,p7⟩:=P1 p hp;rw[jl.canL_sum (by omega),zfJ];rw[zhs (f':=i.nodes+j.nodes+k.nodes) h8 p3 (by omega) (aa (p.1.nodes+k.nodes)) (by omega)]
theorem zx5(hf:za8 dU t=true){a b c:Nat}(hi:rdV dU i t=a)(hj:rdV dU j t=b)(hk:rdV dU k t=c)(h4:a+b+c≤4)(g:IT→Nat):
  zah g (zaZ dU t (canL dU t [(i,1)]) (canL dU t (mpL dU t j k)))=zah (λu=>zah g (zaA dU (i.nodes+j.nodes+k.nodes) t i u)) (zaA dU (i.nodes+j.nodes+k.nodes) t j k):=by
 have h8:=zcD hf;have hw:=zgj hf hj hk (by omega);have jl:=zgI (dU:=dU) (t:=t) (k:=i) (B:=i.nodes) (D:=a) (by omega) (by omega) (aa _);rw[zki,jl.canL_sum (by omega),zfJ,hw.canL_sum (by omega),zfv hf (by omega) (by omega) (by omega),zhs (f':=i.nodes+j.nodes+k.nodes) h8 (by omega) (by omega) (aa (j.nodes+k.nodes)) (by omega)];obtain⟨P1,P2,P3,P4⟩:=zem h8 (f:=j.nodes+k.nodes) (t:=t) (i:=j) (j:=k) (aa _) (by omega) (by omega) (by omega);refine zik λp hp=>?_;obtain⟨p1,p2,p3,p4,p5,p6,p7⟩:=P1 p hp;rw[zhs (f':=i.nodes+j.nodes+k.nodes) h8 (by omega) p3 (aa (i.nodes+p.1.nodes)) (by omega)]
theorem zHz(hf:za8 dU t=true){a b c:Nat}(hi:rdV dU i t=a)(hj:rdV dU j t=b)(hk:rdV dU k t=c)(h4:a+b+c≤4):
  canL dU t (zaZ dU t (canL dU t (mpL dU t i j)) (canL dU t [(k,1)]))=canL dU t (zaZ dU t (canL dU t [(i,1)]) (canL dU t (mpL dU t j k))):=
 zvY λg=>by rw[zx3 hf hi hj hk h4,zx5 hf hi hj hk h4];exact(zvL (zcD hf) _).1 t i j k (aa _) (by omega) (by omega) (by omega) (by omega) g
theorem dl2:∀a b c:Fin 5,a.1+b.1+c.1≤4→Dl a.1 b.1*Dl (a.1+b.1) c.1≤1000∧Dl b.1 c.1*Dl a.1 (b.1+c.1)≤1000∧Dl a.1 b.1+Dl c.1 b.1≤1000∧Dl a.1 b.1+Dl b.1 c.1≤1000:=by decide +kernel
theorem zx4(hf:za8 dU t=true){a b c:Nat}(hi:rdV dU i t=a)(hj:rdV dU j t=b)(hk:rdV dU k t=c)(h4:a+b+c≤4):zah (λ_=>1) (zaZ dU t (canL dU t (mpL dU t i j)) (canL dU t [(k,1)]))≤1000:=by have h8:=zcD hf;rw[zx3 hf hi hj hk h4];obtain⟨P1,P2,P3,P4⟩:=zem h8 (f:=i.nodes+j.nodes+k.nodes) (t:=t) (i:=i) (j:=j) (by omega) (by omega) (by omega) (by omega);have h1:=zeY (dU:=dU) (t:=t) (i:=i) (j:=j) (f:=i.nodes+j.nodes+k.nodes) h8 (by omega) hi hj (by omega);refine ar (zqR (M:=Dl (a+b) c) λp hp=>?_) (ar (au _ h1) (dl2 ⟨a,by omega⟩ ⟨b,by omega⟩ ⟨c,by omega⟩ h4).1);obtain⟨p1,p2,p3,p4,p5,p6,p7⟩:=P1 p hp;obtain⟨d,hd⟩:∃d:Nat,rdV dU p.1 t=d:=⟨(rdV dU p.1 t).toNat,by omega⟩;have nV:p.1.nodes≤i.nodes+j.nodes:=p7;exact ar (zeY h8 (by omega) hd hk (by omega)) (zgX d (by omega) c (by omega) (a+b) (by omega) c (by omega) (by omega) (aa _) (by omega))
theorem zHB(hf:za8 dU t=true){a b c:Nat}(hi:rdV dU i t=a)(hj:rdV dU j t=b)(hk:rdV dU k t=c)(h4:a+b+c≤4):zah (λ_=>1) (zaZ dU t (canL dU t [(i,1)]) (canL dU t (mpL dU t j k)))≤1000:=by have h8:=zcD hf;rw[zx5 hf hi hj hk h4];obtain⟨P1,P2,P3,P4⟩:=zem h8 (f:=i.nodes+j.nodes+k.nodes) (t:=t) (i:=j) (j:=k) (by omega) (by omega) (by omega) (by omega);have h1:=zeY (dU:=dU) (t:=t) (i:=j) (j:=k) (f:=i.nodes+j.nodes+k.nodes) h8 (by omega) hj hk (by omega);refine ar (zqR (M:=Dl a (b+c)) λp hp=>?_) (ar (au _ h1) (dl2 ⟨a,by omega⟩ ⟨b,by omega⟩ ⟨c,by omega⟩ h4).2.1);obtain⟨p1,p2,p3,p4,p5,p6,p7⟩:=P1 p hp;obtain⟨d,hd⟩:∃d:Nat,rdV dU p.1 t=d:=⟨(rdV dU p.1 t).toNat,by omega⟩;have nV:p.1.nodes≤j.nodes+k.nodes:=p7;exact ar (zeY h8 (by omega) hi hd (by omega)) (zgX a (by omega) d (by omega) a (by omega) (b+c) (by omega) (aa _) (by omega) (by omega))
theorem zx6(hf:za8 dU t=true){a b c:Nat}(hi:rdV dU i t=a)(hj:rdV dU j t=b)(hk:rdV dU k t=c)(h4:a+b+c≤4)(g:IT→Nat):
  zah g (zaZ dU t (canL dU t [(i,1),(k,1)]) (canL dU t [(j,1)]))=zah g (zaA dU (i.nodes+j.nodes) t i j)+zah g (zaA dU (k.nodes+j.nodes) t k j):=by
 have h1:=zzz (dU:=dU) (t:=t) (k:=k) (i:=i) (B:=i.nodes+k.nodes) (D:=(a+c:Nat)) (by omega) (by omega) (by omega) (by omega) (by omega) (by omega);have h2:=zgI (dU:=dU) (t:=t) (k:=j) (B:=j.nodes) (D:=b) (by omega) (by omega) (aa _);rw[zki,h1.canL_sum (by omega)];simp only[zaW,zc4,cB,Nat.add_zero,h2.canL_sum (by omega:(b:Int)≤6)]
theorem zHA(hf:za8 dU t=true){a b c:Nat}(hi:rdV dU i t=a)(hj:rdV dU j t=b)(hk:rdV dU k t=c)(h4:a+b+c≤4):
  canL dU t (zaZ dU t (canL dU t [(i,1),(k,1)]) (canL dU t [(j,1)]))=canL dU t (mpL dU t i j++mpL dU t j k):=
 zvY λg=>by rw[zx6 hf hi hj hk h4,zdj,zfv hf (by omega) (by omega) (by omega),zfv hf (by omega) (by omega) (by omega),(zoL dU (k.nodes+j.nodes)).1 t k j g,cF k.nodes]
theorem zx7(hf:za8 dU t=true){a b c:Nat}(hi:rdV dU i t=a)(hj:rdV dU j t=b)(hk:rdV dU k t=c)(h4:a+b+c≤4):zah (λ_=>1) (zaZ dU t (canL dU t [(i,1),(k,1)]) (canL dU t [(j,1)]))≤1000:=by have h8:=zcD hf;rw[zx6 hf hi hj hk h4];have h1:=zeY (dU:=dU) (t:=t) (i:=i) (j:=j) (f:=i.nodes+j.nodes) h8 (by omega) hi hj (by omega);have h2:=zeY (dU:=dU) (t:=t) (i:=k) (j:=j) (f:=k.nodes+j.nodes) h8 (by omega) hk hj (by omega);have h3:=(dl2 ⟨a,by omega⟩ ⟨b,by omega⟩ ⟨c,by omega⟩ h4).2.2.1;simp only at h3;omega
theorem zHC(hf:za8 dU t=true){a b c:Nat}(hi:rdV dU i t=a)(hj:rdV dU j t=b)(hk:rdV dU k t=c)(h4:a+b+c≤4):Wt dU t (i.nodes+j.nodes+k.nodes) (a+b+c:Nat) (mpL dU t i j++mpL dU t j k):=by
 have h8:=zcD hf;have w1:=zgj hf hi hj (by omega);have w2:=zgj hf hj hk (by omega);have h1:=zeY (dU:=dU) (t:=t) (i:=i) (j:=j) (f:=i.nodes+j.nodes) h8 (by omega) hi hj (by omega);have h2:=zeY (dU:=dU) (t:=t) (i:=j) (j:=k) (f:=j.nodes+k.nodes) h8 (by omega) hj hk (by omega);have h3:=(dl2 ⟨a,by omega⟩ ⟨b,by omega⟩ ⟨c,by omega⟩ h4).2.2.2;simp only at h3;refine⟨by have:=w1.ne;simp;omega,?_,λp hp=>?_⟩
 ·rw[zdj,zfv hf (by omega) (by omega) (by omega),zfv hf (by omega) (by omega) (by omega)];omega
 ·rcases aX.1 hp with hp | hp
  ·exact(w1.mono (B':=i.nodes+j.nodes+k.nodes) (D':=(a+b+c:Nat)) (by omega) (by omega)).mem p hp
  ·exact(w2.mono (B':=i.nodes+j.nodes+k.nodes) (D':=(a+b+c:Nat)) (by omega) (by omega)).mem p hp
theorem zGr(hf:za8 dU t=true):mpL dU t j i=mpL dU t i j:=by unfold mpL;rw[cF j.nodes];congr 1;refine zhc (zji _ _ _ _ _) (zji _ _ _ _ _) (zpm _ _ _ _ _) (zpm _ _ _ _ _) λg=>?_;have h1:=(zd8 dU (i.nodes+j.nodes)).1 t i j g;have h2:=(zd8 dU (i.nodes+j.nodes)).1 t j i g;rw[zbS,zbS]at h1 h2;rw[←h1,←h2];exact(zoL dU _).1 t j i g
theorem zGs(hf:za8 dU t=true)(hi:0≤rdV dU i t)(h6:rdV dU i t≤6):mpL dU t i (zaX t)=[(i,1)]:=by
 have h:=(zxb (dU:=dU) ((zaX t).nodes+i.nodes) t i (aa _) hi).2;have e:zbE dU (i.nodes+(zaX t).nodes) t i (zaX t)=[(i,1)]:=by rw[cF];refine zhc (zji _ _ _ _ _) (dx _ _) (zpm _ _ _ _ _) (by simp) λg=>?_;have h1:=(zd8 dU ((zaX t).nodes+i.nodes)).1 t i (zaX t) g;rw[zbS,zbS,h]at h1;exact h1.symm
 unfold mpL;rw[e,zG2 hi h6]
end
theorem zFN{dU:List Dat}{t:VT}{i:IT}(h:¬zbq dU t i<0):za8 dU t=true:=by
 by_cases hf:za8 dU t=true
 ·exact hf
 ·exact absurd (by unfold zbq;rw[ap hf];omega) h
section
variable (t0 t1 t2 t3 t4:AV) (H:zaa) (K:Kt)
def zVo(_:Nat):List Bool:=[]
noncomputable def zVp:=Tryz.f9.body.getD .skip
def zq7:=zaw t1 H λt6 H=>zaw t2 H λt7 H=>zaw t3 H λt8 H=>zaw t4 H λt9 H=>zae true 3 t6 H λt32=>ACalls tP zqf [t0,t32] H λt33 H=>aUn .not t33 λt34=>zac t34 false H (λK'=>zae true 2 t7 H (K' · H)) λt36 H=>zac t34 false H (λK'=>ACalls tP zh2 [t36] H K') λt37 H=>zac t34 false H (λK'=>aUn .not t37 (K' · H)) λt38 H=>zak t34 (.bool true) t38 λt39=>zac t39 false H (λK'=>zae true 2 t8 H (K' · H)) λt41 H=>zac t39 false H (λK'=>ACalls tP zh2 [t41] H K') λt42 H=>zac t39 false H (λK'=>aUn .not t42 (K' · H)) λt43 H=>zak t39 (.bool true) t43 λt44=>zac t44 false H (λK'=>zae true 2 t9 H (K' · H)) λt46 H=>zac t44 false H (λK'=>ACalls tP zh2 [t46] H K') λt47 H=>zac t44 false H (λK'=>aUn .not t47 (K' · H)) λt48 H=>zak t44 (.bool true) t48 λt49=>zag t49 (K (.bool true) H) (apm H t0 λt50=>apu H (zal true 3 t6 H) λt51=>apu H (zal true 2 t7 H) λt52=>zaJ H (λH K'=>ACalls tP zhN [t50,t51,t52] H K') λt53=>apm H t0 λt54=>apu H (zal true 3 t6 H) λt55=>apu H (zal true 2 t8 H) λt56=>zaJ H (λH K'=>ACalls tP zhN [t54,t55,t56] H K') λt57=>apm H t0 λt58=>apu H (zal true 3 t6 H) λt59=>apu H (zal true 2 t9 H) λt60=>zaJ H (λH K'=>ACalls tP zhN [t58,t59,t60] H K') λt61=>apm H t53 λt11=>apm H t57 λt12=>apm H t61 λt13=>zad .lss false t11 (.int .i64 0) λt63=>zac t63 false H (λK'=>K' t12 H) λt65 H=>zac t63 false H (λK'=>zad .lss false t65 (.int .i64 0) (K' · H)) λt66 H=>zak t63 (.bool true) t66 λt67=>zac t67 false H (λK'=>K' t13 H) λt69 H=>zac t67 false H (λK'=>zad .lss false t69 (.int .i64 0) (K' · H)) λt70 H=>zak t67 (.bool true) t70 λt71=>zac t71 false H (λK'=>K' t11 H) λt73 H=>zac t71 false H (λK'=>K' t12 H) λt74 H=>zac t71 false H (λK'=>zad .add false t73 t74 (K' · H)) λt75 H=>zac t71 false H (λK'=>K' t13 H) λt76 H=>zac t71 false H (λK'=>zad .add false t75 t76 (K' · H)) λt77 H=>zac t71 false H (λK'=>zad .gtr false t77 (.int .i64 4) (K' · H)) λt78 H=>zak t71 (.bool true) t78 λt79=>zag t79 (K (.bool true) H) (ACalls tP zjP [(.int .i64 1)] H λt80 H=>zaz [(.bool false),.snil,.snil] H λt14 H=>zao 3 t14 t80 H λH=>zae true 3 t6 H λt83=>zae true 2 t7 H λt84=>zae true 2 t8 H λt85=>ACalls tP zeZ [t0,t83,t84,t85] H λt86 H=>zay t86 0 λt87=>zay t86 1 λt88=>zae true 3 t6 H λt91=>zae true 2 t8 H λt92=>zae true 2 t7 H λt93=>ACalls tP zeZ [t0,t91,t92,t93] H λt94 H=>zay t94 0 λt95=>zay t94 1 λt96=>zae true 3 t6 H λt99=>zae true 2 t8 H λt100=>zae true 2 t9 H λt101=>ACalls tP zeZ [t0,t99,t100,t101] H λt102 H=>zay t102 0 λt103=>zay t102 1 λt104=>apm H t0 λt106=>apu H (zal true 3 t6 H) λt107=>apu H (zal true 2 t7 H) λt108=>apu H (zal true 3 t6 H) λt109=>zaJ H (λH K'=>ACalls tP zjO [t109] H K') λt110=>zaJ H (λH K'=>ACalls tP zeZ [t106,t107,t108,t110] H K') λt111=>apm H t111 λt105=>apu H (zay t105 0) λt112=>apu H (zay t105 1) λt113=>apm H t112 λt21=>apm H t113 λt22=>zae true 3 t6 H λt116=>zae true 2 t9 H λt118=>zae true 3 t14 H λt119=>zar [(.int .i64 0),.snil,(.bool false),.snil,.snil] [(0,2),(2,3)] [(0,t118),(1,t119)] λt120=>zau 5 [(.int .i64 0),.snil,(.bool false),.snil,.snil] 1 [(0,t120)] λt121=>ACalls tP zhS [t0,t116,t87,t121] H λt122 H=>zay t122 0 λt123=>zay t122 1 λt124=>zae true 3 t6 H λt127=>zae true 2 t7 H λt128=>zae true 3 t14 H λt129=>zar [(.int .i64 0),.snil,(.bool false),.snil,.snil] [(0,2),(2,3)] [(0,t128),(1,t129)] λt130=>zau 5 [(.int .i64 0),.snil,(.bool false),.snil,.snil] 1 [(0,t130)] λt131=>ACalls tP zhS [t0,t127,t131,t103] H λt133 H=>zay t133 0 λt134=>zay t133 1 λt135=>zae true 3 t6 H λt138=>zae true 2 t7 H λt139=>zae true 3 t14 H λt140=>zar [(.int .i64 0),.snil,(.bool false),.snil,.snil] [(0,2),(2,3)] [(0,t139),(1,t140)] λt141=>zae true 2 t9 H λt142=>zae true 3 t14 H λt143=>zar [(.int .i64 0),.snil,(.bool false),.snil,.snil] [(0,2),(2,3)] [(0,t142),(1,t143)] λt144=>zau 5 [(.int .i64 0),.snil,(.bool false),.snil,.snil] 2 [(0,t141),(1,t144)] λt145=>zae true 2 t8 H λt146=>zae true 3 t14 H λt147=>zar [(.int .i64 0),.snil,(.bool false),.snil,.snil] [(0,2),(2,3)] [(0,t146),(1,t147)] λt148=>zau 5 [(.int .i64 0),.snil,(.bool false),.snil,.snil] 1 [(0,t148)] λt149=>ACalls tP zhS [t0,t138,t145,t149] H λt150 H=>zay t150 0 λt151=>zay t150 1 λt152=>apm H t0 λt154=>apu H (zal true 3 t6 H) λt155=>apm H t87 λt156=>zax zaC 5 88 .snil t156 H λt157 H=>apm H t103 λt158=>zax zaC 5 88 t157 t158 H λt159 H=>zaJ H (λH K'=>ACalls tP zp4 [t154,t155,t159] H K') λt160=>apm H t160 λt153=>apu H (zay t153 0) λt161=>apu H (zay t153 1) λt162=>apm H t161 λt29=>apm H t162 λt30=>zad .neq false t88 t96 λt165=>zac t165 false H (λK'=>K' t88 H) λt167 H=>zac t165 false H (λK'=>zad .eql false t167 (.int .i64 0) (K' · H)) λt168 H=>zac t165 false H (λK'=>K' t168 H) λt169 H=>zac t169 true H (λK'=>K' t87 H) λt170 H=>zac t169 true H (λK'=>K' t95 H) λt171 H=>zac t169 true H (λK'=>ACalls tP zhH [t170,t171] H K') λt172 H=>zac t169 true H (λK'=>aUn .not t172 (K' · H)) λt173 H=>zac t165 false H (λK'=>zak t169 t173 (.bool false) (K' · H)) λt174 H=>zak t165 (.bool true) t174 λt175=>zag t175 (K (.bool false) H) (zad .neq false t88 (.int .i64 0) λt177=>zac t177 false H (λK'=>K' t104 H) λt179 H=>zac t177 false H (λK'=>zad .neq false t179 (.int .i64 0) (K' · H)) λt180 H=>zak t177 (.bool true) t180 λt181=>zac t181 false H (λK'=>K' t124 H) λt183 H=>zac t181 false H (λK'=>zad .neq false t183 (.int .i64 0) (K' · H)) λt184 H=>zak t181 (.bool true) t184 λt185=>zac t185 false H (λK'=>K' t135 H) λt187 H=>zac t185 false H (λK'=>zad .neq false t187 (.int .i64 0) (K' · H)) λt188 H=>zak t185 (.bool true) t188 λt189=>zac t189 false H (λK'=>K' t152 H) λt191 H=>zac t189 false H (λK'=>zad .neq false t191 (.int .i64 0) (K' · H)) λt192 H=>zak t189 (.bool true) t192 λt193=>zac t193 false H (λK'=>K' t30 H) λt195 H=>zac t193 false H (λK'=>zad .neq false t195 (.int .i64 0) (K' · H)) λt196 H=>zak t193 (.bool true) t196 λt197=>zag t197 (ACalls tP zjq [] H λt198 H=>K t198 H) (apm H t22 λt199=>apu H (zad .eql false t199 (.int .i64 0)) λt200=>apm H t200 λt201=>zac t201 true H (λK'=>zab H (λK''=>K'' t21 H) (K' · H)) λt202 H=>zac t201 true H (λK'=>zab H (λK''=>zai 1 t202 (K'' · H)) (K' · H)) λt203 H=>zac t201 true H (λK'=>zab H (λK''=>zad .eql false t203 (.int .i64 1) (K'' · H)) (K' · H)) λt204 H=>apu H (zak t201 t204 (.bool false)) λt205=>apm H t205 λt206=>zac t206 true H (λK'=>zab H (λK''=>K'' t21 H) (K' · H)) λt207 H=>zac t206 true H (λK'=>zab H (λK''=>zaj 5 t207 (.int .i64 0) (K'' · H)) (K' · H)) λt208 H=>zac t206 true H (λK'=>zab H (λK''=>zaf 0 t208 (K'' · H)) (K' · H)) λt209 H=>zac t206 true H (λK'=>zab H (λK''=>zal true 2 t209 H (K'' · H)) (K' · H)) λt210 H=>zac t206 true H (λK'=>zab H (λK''=>zal true 2 t7 H (K'' · H)) (K' · H)) λt211 H=>zac t206 true H (λK'=>zaJ H (λH K''=>ACalls tP zgq [t210,t211] H K'') (K' · H)) λt212 H=>apu H (zak t206 t212 (.bool false)) λt213=>apm H t213 λt214=>zac t214 true H (λK'=>zab H (λK''=>K'' t21 H) (K' · H)) λt215 H=>zac t214 true H (λK'=>zab H (λK''=>zaj 5 t215 (.int .i64 0) (K'' · H)) (K' · H)) λt216 H=>zac t214 true H (λK'=>zab H (λK''=>zaf 2 t216 (K'' · H)) (K' · H)) λt217 H=>zac t214 true H (λK'=>zab H (λK''=>zal true 3 t217 H (K'' · H)) (K' · H)) λt218 H=>zac t214 true H (λK'=>zab H (λK''=>zal true 3 t14 H (K'' · H)) (K' · H)) λt219 H=>zac t214 true H (λK'=>zaJ H (λH K''=>ACalls tP zhL [t218,t219] H K'') (K' · H)) λt220 H=>apu H (zak t214 t220 (.bool false)) λt221=>apm H t221 λt222=>zac t222 true H (λK'=>zab H (λK''=>K'' t123 H) (K' · H)) λt223 H=>zac t222 true H (λK'=>zab H (λK''=>K'' t134 H) (K' · H)) λt224 H=>zac t222 true H (λK'=>zaJ H (λH K''=>ACalls tP zhH [t223,t224] H K'') (K' · H)) λt225 H=>apu H (zak t222 t225 (.bool false)) λt226=>apm H t226 λt227=>zac t227 true H (λK'=>zab H (λK''=>K'' t151 H) (K' · H)) λt228 H=>zac t227 true H (λK'=>zab H (λK''=>K'' t29 H) (K' · H)) λt229 H=>zac t227 true H (λK'=>zaJ H (λH K''=>ACalls tP zhH [t228,t229] H K'') (K' · H)) λt230 H=>apu H (zak t227 t230 (.bool false)) λt231=>apm H t231 λt232=>zac t232 true H (λK'=>zaJ H (λH K''=>ACalls tP zjq [] H K'') (K' · H)) λt233 H=>apu H (zak t232 t233 (.bool false)) λt234=>apm H t234 λt10=>K t10 H))))
variable {t0 t1 t2 t3 t4} {H} {K}
theorem zVq(h:HSc H→zq7 t0 t1 t2 t3 t4 H K):ACalls tP zqc [t0,t1,t2,t3,t4] H K:=
 acb zVo Tryz.func9 zVp h
end
theorem zgi{dU:List Dat}{t:VT}{B:Nat}{D:Int}{l:List (IT×Nat)}(h:Wt dU t B D l)(hB:B≤1000):(∀p∈l,p.1.nodes≤1000000∧Sm (p.2:Int))∧l.length≤1000000:=
 ⟨λp hp=>⟨by have:=h.mem p hp;omega,zcP (aQ (h.le p hp) (by decide))⟩,by have:=h.len;omega⟩
theorem zgZ{v:IT}{K:AV→Prop}(h:K (.agg (tmC (v,1)))):zar [.int .i64 0,.snil,.bool false,.snil,.snil] [(0,2),(2,3)] [(0,.agg v.cs),(1,.agg (zam (1:Int)))] K:=by have m6:List.drop 5 (v.cs++[AV.bool false,.snil,.snil])=[]:=a7 (by simp);have lC:∀x∈v.cs,x.known=true:=ak.1 (IT.cs_known v);have m7:∀x∈zam (1:Int),x.known=true:=ak.1 (zfC _);simp[zar,zaL,m6];exact h
theorem zop{p:IT×Nat}{K:AV→Prop}(h:K (.sl (zaD [p]) .full)):zau 5 [.int .i64 0,.snil,.bool false,.snil,.snil] 1 [(0,.agg (tmC p))] K:=by have f8:plain ([.int .i64 0,.snil,.bool false,.snil,.snil]:List AV)=some [.int .i64 0,.sl [] .none,.bool false,.sl [] .none,.sl [] .none]:=rfl;simp[zau,zaU,zgw,f8];exact h
theorem zEn{p q:IT×Nat}{K:AV→Prop}(h:K (.sl (zaD [p,q]) .full)):zau 5 [.int .i64 0,.snil,.bool false,.snil,.snil] 2 [(0,.agg (tmC p)),(1,.agg (tmC q))] K:=by have f8:plain ([.int .i64 0,.snil,.bool false,.snil,.snil]:List AV)=some [.int .i64 0,.sl [] .none,.bool false,.sl [] .none,.sl [] .none]:=rfl;simp[zau,zaU,zgw,f8];exact h
theorem zEJ{a b:List (IT × Nat)}{H:zaa}{K:Kt}(ha:a.length≤1000)(hb:b.length≤1000)(h:K (.sl (zaD (a++b)) (.own H.length)) (H++[.perm zaC 5 (a.length+b.length)])):
  zax zaC 5 88 .snil (.sl (zaD a) .none) H λv H'=>zax zaC 5 88 v (.sl (zaD b) .none) H' K:=by
 have h5:∀(s:List (IT×Nat)) (c:List AV),c∈zaD s→c.length=5:=λs c hc=>by obtain⟨q,_,rfl⟩:=aC.1 hc;simp
 have ml:zaD a++zaD b=zaD (a++b):=by simp[zaD]
 have eI:(H++[AB.perm zaC 5 a.length]).set H.length (.perm zaC 5 (a.length+b.length))=H++[.perm zaC 5 (a.length+b.length)]:=by simp[aj]
 simp only[zax,zaO,zaK];refine⟨h5 _,⟨by rw[ze8];omega,by rw[ze8];omega⟩,h5 _,by simp,⟨by rw[ze8,ze8];omega,by rw[ze8,ze8];omega⟩,?_⟩;rw[ze8,ze8,ml,eI];exact h
set_option maxHeartbeats 1000000 in
theorem zEd(dU:List Dat)(d8:dU.length≤9223372036854775807)(t:VT)(i j k:IT)(H:zaa)(K:Kt)(hK:K (.bool true) H):
  ACalls tP zqc [.sl (dU.map Dat.cs) .none,.agg t.cs,.agg i.cs,.agg j.cs,.agg k.cs] H K:=by
 refine ACalls.out (zVq λhs=>?_);have hO:∀J,Out H.length K (.bool true) (H++J):=λJ=>Out.bool rfl (aa _) hs hK;obtain⟨x,y,z,ei,hx,hy,hz⟩:=zbh t;obtain⟨x2,y2,eK,e8,kM⟩:=zde i;obtain⟨x3,y3,fM,fC,pN⟩:=zde j;obtain⟨x4,y4,lW,hx4,hy4⟩:=zde k;simp[zq7,ei,eK,fM,lW,ae];rw[←ei];refine zVU dU d8 t _ _ λb0 fA=>?_;cases b0 with
 |false=>simp;exact hO _
 |true=>
 obtain⟨hk,ht⟩:=fA rfl;simp[ae];rw[←eK];refine zu2 i _ _ λb1 fR=>?_;cases b1 with
 |false=>simp;exact hO _
 |true=>
 have hi:=fR rfl;simp[ae];rw[←fM];refine zu2 j _ _ λb2 fq=>?_;cases b2 with
 |false=>simp;exact hO _
 |true=>
 have hj:=fq rfl;simp[ae];rw[←lW];refine zu2 k _ _ λb3 pj=>?_;cases b3 with
 |false=>simp;exact hO _
 |true=>
 have gC:=pj rfl;simp[ei,eK,fM,lW,ae];rw[←ei,←eK,←fM,←lW];refine zaH (.int .i64 (zbq dU t i)) (λJ=>ztq dU hk t (by omega) i (by omega) _ _ ⟨rfl,rfl⟩) ?_;refine zaH (.int .i64 (zbq dU t j)) (λJ=>ztq dU hk t (by omega) j (by omega) _ _ ⟨rfl,rfl⟩) ?_;refine zaH (.int .i64 (zbq dU t k)) (λJ=>ztq dU hk t (by omega) k (by omega) _ _ ⟨rfl,rfl⟩) ?_;by_cases g1:zbq dU t i<0
 ·simp[g1];exact hO _
 by_cases g2:zbq dU t j<0
 ·simp[g1,g2];exact hO _
 by_cases g3:zbq dU t k<0
 ·simp[g1,g2,g3];exact hO _
 have hf:=zFN g1;have h8:=zcD hf;rw[zdb hf]at g1 g2 g3;rw[zdb hf,zdb hf,zdb hf];have r1:=zgA (h8:=h8) i t;have r2:=zgA (h8:=h8) j t;have r3:=zgA (h8:=h8) k t;obtain⟨a,ha⟩:∃a:Nat,rdV dU i t=a:=⟨(rdV dU i t).toNat,by omega⟩;obtain⟨b,hb⟩:∃b:Nat,rdV dU j t=b:=⟨(rdV dU j t).toNat,by omega⟩;obtain⟨c,hc⟩:∃c:Nat,rdV dU k t=c:=⟨(rdV dU k t).toNat,by omega⟩;have wab:IntKind.i64.wrap (rdV dU i t+rdV dU j t)=rdV dU i t+rdV dU j t:=zav (by omega) (by omega);have wabc:IntKind.i64.wrap (rdV dU i t+rdV dU j t+rdV dU k t)=rdV dU i t+rdV dU j t+rdV dU k t:=zav (by omega) (by omega);by_cases g4:4<rdV dU i t+rdV dU j t+rdV dU k t
 ·simp[g1,g2,g3,g4,wab,wabc];exact hO _
 simp[g1,g2,g3,g4,wab,wabc];have h4:a+b+c≤4:=by omega
 refine zCA 1 (by omega) _ _ ?_;have hzn:=zzC t;have m1:=zhE (dU:=dU) (t:=t) (i:=i) (j:=j) hf (by omega) (by omega) (by omega);have m2:=zhE (dU:=dU) (t:=t) (i:=j) (j:=i) hf (by omega) (by omega) (by omega);have m3:=zhE (dU:=dU) (t:=t) (i:=j) (j:=k) hf (by omega) (by omega) (by omega);have zd:=zzD (dU:=dU) t;have m4:=zhE (dU:=dU) (t:=t) (i:=i) (j:=zaX t) hf (by omega) (by omega) (by omega);have c2:=zGr (dU:=dU) (t:=t) (i:=i) (j:=j) hf;have c4:=zGs (dU:=dU) (t:=t) (i:=i) hf (by omega) (by omega);change zdf dU t i j=.tup [.sl (zaD (mpL dU t i j)) .none,.int .i64 0]at m1;change zdf dU t j i=.tup [.sl (zaD (mpL dU t j i)) .none,.int .i64 0]at m2;change zdf dU t j k=.tup [.sl (zaD (mpL dU t j k)) .none,.int .i64 0]at m3;change zdf dU t i (zaX t)=.tup [.sl (zaD (mpL dU t i (zaX t))) .none,.int .i64 0]at m4;rw[c2]at m2;rw[c4]at m4;obtain⟨A,hA⟩:∃A,A=H++[AB.cells t.cs,.cells i.cs,.cells j.cs,.cells k.cs,.cells (zam (1:Int))]:=⟨_,rfl⟩;have a0:A[H.length]?=some (.cells t.cs):=by rw[hA];simp[List.getElem?_append]
 have a1:A[H.length+1]?=some (.cells i.cs):=by rw[hA];simp[List.getElem?_append]
 have a2:A[H.length+2]?=some (.cells j.cs):=by rw[hA];simp[List.getElem?_append]
 have a3:A[H.length+3]?=some (.cells k.cs):=by rw[hA];simp[List.getElem?_append]
 have a4:A[H.length+4]?=some (.cells (zam (1:Int))):=by rw[hA];simp[List.getElem?_append]
 have hOA:∀J,Out H.length K (.bool true) (A++J):=λJ=>by rw[hA,aw];exact hO _
 have iC:List.take 3 t.cs=t.cs:=am (by obtain⟨a,b,c⟩:=t;simp[VT.cs]);have fX:t.cs.length=3:=by obtain⟨a,b,c⟩:=t;rfl
 have q2:∀v:IT,List.take 2 v.cs=v.cs:=λv=>am (by simp);have r3':List.take 3 (zam (1:Int))=zam 1:=rfl;simp;rw[←hA];have S:∀P:Prop,P→P:=λ_ h=>h;refine zk5 hk t ht i j (by omega) (by omega) _ _ ?_;rw[m1];simp[a0,a1,a2,a3,a4,iC,fX,q2,r3'];refine zk5 hk t ht j i (by omega) (by omega) _ _ ?_;rw[m2];simp[a0,a1,a2,a3,a4,iC,fX,q2,r3'];refine zk5 hk t ht j k (by omega) (by omega) _ _ ?_;rw[m3];simp[a0,a1,a2,a3,a4,iC,fX,q2,r3'];refine zaH (.agg (zaX t).cs) (λJ=>zSj _ t (aa _) (by omega) _ _ ⟨rfl,rfl⟩) ?_;refine zaH (.tup [.sl (zaD [(i,1)]) .none,.int .i64 0]) (λJ=>zzS hk t ht i (zaX t) (by omega) _ _ ⟨by rw[m4],rfl⟩) ?_;simp[a0,a1,a2,a3,a4,iC,fX,q2,r3'];have w1:=zgj (dU:=dU) (t:=t) (i:=i) (j:=j) hf ha hb (by omega);have w3:=zgj (dU:=dU) (t:=t) (i:=j) (j:=k) hf hb hc (by omega);have v1:=zgI (dU:=dU) (t:=t) (k:=i) (B:=i.nodes) (D:=a) (by omega) (by omega) (aa _);have v2:=zgI (dU:=dU) (t:=t) (k:=j) (B:=j.nodes) (D:=b) (by omega) (by omega) (aa _);have v3:=zgI (dU:=dU) (t:=t) (k:=k) (B:=k.nodes) (D:=c) (by omega) (by omega) (aa _);have v4:=zzz (dU:=dU) (t:=t) (k:=k) (i:=i) (B:=i.nodes+k.nodes) (D:=(a+c:Nat)) (by omega) (by omega) (by omega) (by omega) (by omega) (by omega);have w5:=zHC (dU:=dU) (t:=t) (i:=i) (j:=j) (k:=k) hf ha hb hc h4;refine zgZ (zop ?_);refine ACalls.wk (args':=[.sl (dU.map Dat.cs) .none,.agg t.cs,.sl (zaD (mpL dU t i j)) .none,.sl (zaD [(k,1)]) .none]) (ztO hk t ht hf (by omega) (by omega) (by omega) (by omega) _ _ w1 v3 (zx4 hf ha hb hc h4) _ _ ?_) ⟨.rfl',.rfl',.rfl',.atom (.sl _ _),trivial⟩;simp[a0,a1,a2,a3,a4,iC,fX,q2,r3'];refine zgZ (zop ?_);refine ACalls.wk (args':=[.sl (dU.map Dat.cs) .none,.agg t.cs,.sl (zaD [(i,1)]) .none,.sl (zaD (mpL dU t j k)) .none]) (ztO hk t ht hf (by omega) (by omega) (by omega) (by omega) _ _ v1 w3 (zHB hf ha hb hc h4) _ _ ?_) ⟨.rfl',.rfl',.atom (.sl _ _),.rfl',trivial⟩;simp[a0,a1,a2,a3,a4,iC,fX,q2,r3'];refine zgZ ?_;try simp[a0,a1,a2,a3,a4,iC,fX,q2,r3']
 refine zgZ (zEn ?_);try simp[a0,a1,a2,a3,a4,iC,fX,q2,r3']
 refine zgZ (zop ?_);refine ACalls.wk (args':=[.sl (dU.map Dat.cs) .none,.agg t.cs,.sl (zaD [(i,1),(k,1)]) .none,.sl (zaD [(j,1)]) .none]) (ztO hk t ht hf (by omega) (by omega) (by omega) (by omega) _ _ v4 v2 (zx7 hf ha hb hc h4) _ _ ?_) ⟨.rfl',.rfl',.atom (.sl _ _),.atom (.sl _ _),trivial⟩;simp[a0,a1,a2,a3,a4,iC,fX,q2,r3'];refine zEJ w1.len w3.len ?_;refine zaH (.tup [.sl (zaD (canL dU t (mpL dU t i j++mpL dU t j k))) .none,.int .i64 0]) (λJ=>ACalls.wk (args':=[.sl (dU.map Dat.cs) .none,.agg t.cs,.sl (zaD (mpL dU t i j++mpL dU t j k)) .none]) (zSn hk t ht hf (by omega) (by omega) _ w5 _ _ ⟨rfl,rfl⟩) ⟨.rfl',.rfl',.atom (.sl _ _),trivial⟩) ?_;have x1:=(zqv h8 (w1.canL (by omega)) (v3.canL (by omega)) (by omega) (zx4 hf ha hb hc h4)).canL (by omega);have x2:=(zqv h8 (v4.canL (by omega)) (v2.canL (by omega)) (by omega) (zx7 hf ha hb hc h4)).canL (by omega);rw[←zHz hf ha hb hc h4,←zHA hf ha hb hc h4];generalize canL dU t (zaZ dU t (canL dU t (mpL dU t i j)) (canL dU t [(k,1)]))=X1 at *;generalize canL dU t (zaZ dU t (canL dU t [(i,1),(k,1)]) (canL dU t [(j,1)]))=X2 at *;simp;refine zrU (mpL dU t i j) (zgi w1 (by omega)).1 (zgi w1 (by omega)).2 _ _ ?_;simp[zco,zcz,zcQ,zbj a0,zbj a1,zbj a2,zbj a3,zbj a4,q2,r3'];refine zaH (.bool true) (λJ=>zCs _ i (aa _) (by omega) _ _ ⟨rfl,rfl⟩) ?_;simp[zco,zcz,zcQ,zbj a0,zbj a1,zbj a2,zbj a3,zbj a4,q2,r3'];refine zaH (.bool true) (λJ=>ztf (1:Int) (zcP (n:=1) (by decide)) _ _ ⟨rfl,rfl⟩) ?_;simp;refine zaH (.bool true) (λJ=>zrU X1 (zgi x1 (by omega)).1 (zgi x1 (by omega)).2 _ _ ⟨rfl,rfl⟩) ?_;simp;refine zaH (.bool true) (λJ=>zrU X2 (zgi x2 (by omega)).1 (zgi x2 (by omega)).2 _ _ ⟨rfl,rfl⟩) ?_;simp;refine zaH (.bool true) (λJ=>zEV _ _ ⟨rfl,rfl⟩) ?_;exact hOA _
section
open Go.RowKit

def zbM(P:Program):Nat→TypeId→List AV→Prop
 |0,_,_=>False
 | n+1,t,asx=>match P.underlying t with
  |some .bool=>∃b,asx=[.bool b]
  |some (.int k)=>∃m,asx=[.int k m]∧(Lit.int k m).wf=true
  |some .string=>∃s,asx=[.str s]∧s.length≤maxLen
  |some (.slice e)=>∃es,asx=[.sl es .none]∧es.length≤maxLen∧∀c∈es,zbM P n e c
  |some (.struct fs)=>asx.length=P.cellsOf t∧∀f∈fs.toList,zbM P n f.type ((asx.drop f.offset).take (P.cellsOf f.type))
  |_=>False

def ze7(P:Program):List Field→Nat→Nat→Bool
 |[],at_,n=>at_ == n
 |f::fs,at_,n=>f.offset == at_ && ze7 P fs (at_+P.cellsOf f.type) n
def zic(P:Program)(S:List TypeId):Bool:=
 S.all λt=>match P.underlying t with
  |some .bool|some (.int _)|some .string=>P.cellsOf t == 1
  |some (.slice e)=>S.contains e && decide (0<P.cellsOf e) && P.cellsOf t == 1
  |some (.struct fs)=>fs.toList.all (λf=>S.contains f.type) && ze7 P fs.toList 0 (P.cellsOf t)
  |_=>false

section
variable {Hh:Type} {enc:TypeId×Value→Hh} {P:Program} {w:World} {base:Nat} {spare:Nat→Bool} {kU:Bool}

theorem zyY{R:Value→AV→Prop}{cs:List Value}:∀ (fs:List Field) (at_ n:Nat) (T:Field→List AV→Prop),ze7 P fs at_ n=true→cs.length=n →
  (∀f∈fs,∃asx,All2 R ((cs.drop f.offset).take (P.cellsOf f.type)) asx∧T f asx)→at_≤n →
  ∃asx,All2 R (cs.drop at_) asx∧∀f∈fs,T f ((asx.drop (f.offset-at_)).take (P.cellsOf f.type))∧at_≤f.offset
 |[],at_,n,T,ht,hl,hf,eH=>by simp[ze7]at ht;subst ht;refine⟨[],?_,by simp⟩;rw[bK (by omega)];trivial
 |f::fs,at_,n,T,ht,hl,hf,eH=>by
  simp only[ze7,ai,a6]at ht;obtain⟨h1,h2⟩:=ht;have hbound:∀(fs:List Field) (k n:Nat),ze7 P fs k n=true→k≤n:=by
   intro fs;induction fs with
   |nil=>intro k n h;simp[ze7]at h;omega
   |cons g gs ih=>intro k n h;simp only[ze7,ai]at h;have:=ih _ _ h.2;omega
  have hb:=hbound fs _ _ h2;obtain⟨as0,md,hT0⟩:=hf f (by simp);obtain⟨as1,ha1,hT1⟩:=zyY fs (at_+P.cellsOf f.type) n T h2 hl (λg hg=>hf g (by simp[hg])) hb;have iS:as0.length=P.cellsOf f.type:=by have:=md.length;rw[aW,cX]at this;omega
  refine⟨as0++as1,?_,?_⟩
  ·have:cs.drop at_=(cs.drop f.offset).take (P.cellsOf f.type)++cs.drop (at_+P.cellsOf f.type):=by rw[h1,←cS,aT]
   rw[this];exact md.append ha1
  ·intro g hg;rcases aS.1 hg with rfl | hg
   ·rw[h1,cT,br,←iS,cy];exact⟨hT0,aa _⟩
   ·obtain⟨k1,k2⟩:=hT1 g hg;refine⟨?_,by omega⟩;have:(as0++as1).drop (g.offset-at_)=as1.drop (g.offset-(at_+P.cellsOf f.type)):=by rw[cZ,bK (by omega),List.nil_append];congr 1;omega
    rw[this];exact k1

theorem zi6{a:Addr}{n:Nat}{cs:List Value}(h:w.cells? base a n=some cs):cs.length=n∧∀j v,cs[j]?=some v→w.cell? (a.add j)=some v:=by
 unfold World.cells? at h;split at h
 ·have h1:=mapM_some_length h;refine⟨by simpa using h1,λj v hj=>?_⟩;have hjn:j<n:=by have:=(List.getElem?_eq_some_iff.1 hj).1;simp at h1;omega
  have:=mapM_some_get h j j (by simp[hjn]);rw[this];exact hj
 ·cases h

theorem zGj{b o:Nat}{v:Value}(h:w.cell? ⟨b,o,none⟩=some v):o<zcr w b:=by
 unfold World.cell? at h;unfold zcr;split at h
 ·rename_i c t fr hb;simp only[hb];simp at h;exact(Array.getElem?_eq_some_iff.1 h).1
 ·cases h

theorem zy5{S:List TypeId}(hS:zic P S=true):∀ (n:Nat) (t:TypeId) (cs:List Value) (x:DataW Hh × List MemPlace),t∈S→DataW.trod enc P w base spare kU n t cs=some x →
  ∃asx,All2 (DRel w (zcr w)) cs asx∧zbM P n t asx:=by
 intro n;induction n with
 |zero=>intro t cs x _ h;simp[DataW.trod]at h
 |succ n ih=>
  intro t cs x ht h;have hp:=ak.1 hS t ht;unfold zbM;cases hu:P.underlying t with
  |none=>simp[hu]at hp
  |some d=>
   rw[hu]at hp;cases d <;> simp only[]at hp <;> try (cases hp;done)
   case bool=>obtain⟨b,rfl,_⟩:=DataW.trod_bool hu h;exact⟨[.bool b],⟨.bool b,trivial⟩,b,rfl⟩
   case int k=>obtain⟨m,rfl,_,hw⟩:=DataW.trod_int hu h;exact⟨[.int k m],⟨.int k m,trivial⟩,m,rfl,hw⟩
   case string=>
    obtain⟨s,rfl,_,hw⟩:=DataW.trod_string hu h;have hs:(⟨s.data.toList.toArray⟩:ByteArray)=s:=by simp
    refine⟨[.str s.data.toList],⟨?_,trivial⟩,s.data.toList,rfl,by rw[Array.length_toList];exact hw⟩;have:=DRel.str (w:=w) (L:=zcr w) s.data.toList;rwa [hs]at this
   case slice e=>
    simp only[ai,aR]at hp;obtain⟨⟨he,ga⟩,_⟩:=hp;have he:e∈S:=by simpa using he
    rcases DataW.trod_slice hu h with ⟨rfl,_⟩|⟨a,len,cap,elems,rest,n',hn,rfl,_,hb,hl,hm,d8,gP,_⟩
    ·exact⟨[.sl [] .none],⟨.slE _ _,trivial⟩,[],rfl,by simp,by simp⟩
    ·obtain rfl:n=n':=by omega
     have eR:∀i,i<len→∃cs asx,w.cells? base (a.add (i*P.cellsOf e)) (P.cellsOf e)=some cs∧All2 (DRel w (zcr w)) cs asx∧zbM P n e asx:=by
      intro i hi;have h1:=gP i hi;rw[List.getElem?_eq_getElem (by omega)]at h1;cases hc:w.cells? base (a.add (i*P.cellsOf e)) (P.cellsOf e) with
      |none=>rw[hc]at h1;cases h1
      |some cs=>rw[hc]at h1;obtain⟨asx,h2,h3⟩:=ih e cs _ he h1;exact⟨cs,asx,rfl,h2,h3⟩
     by_cases h0:len=0
     ·subst h0;exact⟨[.sl [] .none],⟨.slE _ _,trivial⟩,[],rfl,by simp,by simp⟩
     ·-- the address is a plain one
      have hspot:a.spot=none:=by obtain⟨cs,asx,h1,h2,_⟩:=eR 0 (by omega);obtain⟨h3,h4⟩:=zi6 h1;have h5:=h4 0 cs[0] (by simp);have:=World.cell?_spot h5;simpa[Addr.add]using this
      obtain⟨b,off,sp⟩:=a;simp only at hspot;subst hspot;obtain⟨f,hf⟩:∃f:Nat→List Value×List AV,∀i,i<len→w.cells? base ((⟨b,off,none⟩:Addr).add (i*P.cellsOf e)) (P.cellsOf e)=some (f i).1∧All2 (DRel w (zcr w)) (f i).1 (f i).2∧zbM P n e (f i).2:=
       Deep.choose_lt (p:=λi (y:List Value × List AV)=>w.cells? base ((⟨b,off,none⟩:Addr).add (i*P.cellsOf e)) (P.cellsOf e)=some y.1∧All2 (DRel w (zcr w)) y.1 y.2∧zbM P n e y.2)
        (λi hi=>by obtain⟨cs,asx,h1,h2,h3⟩:=eR i hi;exact⟨(cs,asx),h1,h2,h3⟩)
      have er:∀i,i<len→∀j v,(f i).1[j]?=some v→w.cell? ⟨b,off+i*P.cellsOf e+j,none⟩=some v:=by intro i hi j v hj;have:=(zi6 (hf i hi).1).2 j v hj;rw[add_lit,add_lit]at this;exact this
      have iA:∀i,i<len→(f i).2.length=P.cellsOf e:=λi hi=>by rw[←(hf i hi).2.1.length];exact(zi6 (hf i hi).1).1
      refine⟨[.sl ((List.range len).map λi=>(f i).2) .none],⟨?_,trivial⟩,_,rfl,by simp;omega,?_⟩
      ·have:=DRel.sl (w:=w) (L:=zcr w) b off cap (P.cellsOf e) ((List.range len).map λi=>(f i).2) (λi j=>(f i).1.getD j undef) (by simp;exact h0) (by simpa using hl) ?_ ?_ ?_ ?_
       ·simpa using this
       ·-- the last cell is there
        have hi:len-1<len:=by omega
        have hj:P.cellsOf e-1<(f (len-1)).1.length:=by rw[(zi6 (hf _ hi).1).1];omega
        have:=zGj (er (len-1) hi (P.cellsOf e-1) _ (List.getElem?_eq_getElem hj));have kf:(len-1)*P.cellsOf e+P.cellsOf e=len*P.cellsOf e:=by rw[←cp];congr 1;omega
        simp;omega
       ·intro i hi;simp at hi;simpa using iA i hi
       ·intro i j hi hj;simp at hi hj;have eN:j<(f i).1.length:=by rw[(hf i hi).2.1.length];exact hj
        simp only[List.getD_eq_getElem?_getD,List.getElem?_eq_getElem eN,Option.getD_some];exact er i hi j _ (List.getElem?_eq_getElem eN)
       ·intro i j hi hj;simp at hi hj;have eN:j<(f i).1.length:=by rw[(hf i hi).2.1.length];exact hj
        obtain⟨c,h1,h2⟩:=(hf i hi).2.1.get' (List.getElem?_eq_getElem eN);simp only[List.getD_eq_getElem?_getD,List.getElem?_eq_getElem eN,Option.getD_some,bU,bV];have:(f i).2[j]=c:=by rw[List.getElem?_eq_getElem hj]at h1;exact dc h1
        rw[this];exact h2
      ·intro c hc;obtain⟨i,hi,rfl⟩:=aC.1 hc;exact(hf i (by simpa using hi)).2.2
   case struct fs=>
    simp only[ai]at hp;obtain⟨ke,htile⟩:=hp;obtain⟨xs,n',hn,_,fd,fN,eR⟩:=DataW.trod_struct hu h;obtain rfl:n=n':=by omega
    obtain⟨asx,h1,h2⟩:=zyY (P:=P) (R:=DRel w (zcr w)) (cs:=cs) fs.toList 0 (P.cellsOf t) (λf asx=>zbM P n f.type asx) htile fd (λf hf=>by
     obtain⟨i,hi⟩:=aM.1 hf;have gG:fs[i]?=some f:=by simpa using hi
     have h3:=eR i f gG;have d7:i<xs.length:=by rw[fN];exact(Array.getElem?_eq_some_iff.1 gG).1
     rw[List.getElem?_eq_getElem d7]at h3;exact ih f.type _ _ (by simpa using List.all_eq_true.1 ke f hf) h3) (bu _)
    rw[br]at h1;refine⟨asx,h1,by rw[←h1.length];exact fd,λf hf=>?_⟩;simpa using(h2 f hf).1
end

theorem zke{Hh:Type}{enc:TypeId×Value→Hh}{P:Program}{w:World}{base:Nat}{spare:Nat→Bool}{kU:Bool}{S:List TypeId}(hS:zic P S=true){t:TypeId}(ht:t∈S){cs:Array Value}{d:DataW Hh}{p:List MemPlace}(h:DataW.Trod enc P w base spare kU t (.agg cs) d p):∃n asx,zbM P n t asx∧TRel w (G0 w) (.agg cs) (.agg asx):=by
 obtain⟨n,hn⟩:=h;obtain⟨asx,h1,h2⟩:=zy5 hS n t _ _ ht hn;exact⟨n,asx,h2,cs,rfl,h1.mono λ_ _ hd=>ARel.of_b (DRel.toB (G:=G0 w) hd)⟩
theorem zHc{Hh:Type}{enc:TypeId×Value→Hh}{P:Program}{w:World}{base:Nat}{spare:Nat→Bool}{kU:Bool}{S:List TypeId}(hS:zic P S=true){t:TypeId}(ht:t∈S){v:Value}{d:DataW Hh}{p:List MemPlace}(hv:v.cells=#[v])(h:DataW.Trod enc P w base spare kU t v d p):∃n a,zbM P n t [a]∧TRel w (G0 w) v a:=by
 obtain⟨n,hn⟩:=h;obtain⟨asx,h1,h2⟩:=zy5 hS n t _ _ ht hn;rw[hv]at h1
 match asx,h1,h2 with
 |[a],h1,h2=>exact⟨n,a,h2,TRel.of_v (VRel.of_a (ARel.of_b (DRel.toB (G:=G0 w) h1.1)))⟩
section
variable {P:Program} {n:Nat} {t:TypeId} {l:List AV}
theorem zkE{k:IntKind}(hu:P.underlying t=some (.int k))(h:zbM P n t l):∃m,l=[.int k m]∧(Lit.int k m).wf=true:=by
 cases n with
 |zero=>exact h.elim
 |succ n=>unfold zbM at h;rw[hu]at h;exact h
theorem zzg(hu:P.underlying t=some .string)(h:zbM P n t l):∃s,l=[.str s]∧s.length≤maxLen:=by
 cases n with
 |zero=>exact h.elim
 |succ n=>unfold zbM at h;rw[hu]at h;exact h
theorem zip{e:TypeId}(hu:P.underlying t=some (.slice e))(h:zbM P n t l):∃es n',n'<n∧l=[.sl es .none]∧es.length≤maxLen∧∀c∈es,zbM P n' e c:=by
 cases n with
 |zero=>exact h.elim
 |succ n=>unfold zbM at h;rw[hu]at h;obtain⟨es,h1,h2,h3⟩:=h;exact⟨es,n,by omega,h1,h2,h3⟩
theorem zkF{fs:Array Field}(hu:P.underlying t=some (.struct fs))(h:zbM P n t l):∃n',n'<n∧l.length=P.cellsOf t∧∀f∈fs.toList,zbM P n' f.type ((l.drop f.offset).take (P.cellsOf f.type)):=by
 cases n with
 |zero=>exact h.elim
 |succ n=>unfold zbM at h;rw[hu]at h;exact⟨n,by omega,h⟩
theorem zgf{α:Type}{cs:α→List AV}:∀ {es:List (List AV)},(∀ c∈es,∃ x,c=cs x)→∃ xs:List α,es=xs.map cs
 |[],_=>⟨[],rfl⟩
 |e::es,h=>by obtain⟨x,hx⟩:=h e (by simp);obtain⟨xs,jY⟩:=zgf (es:=es) (λc hc=>h c (by simp[hc]));exact⟨x::xs,by simp[hx,jY]⟩
end
end
end Go.Proofs.YtdmamdnkcefmmaaGreatDoor
