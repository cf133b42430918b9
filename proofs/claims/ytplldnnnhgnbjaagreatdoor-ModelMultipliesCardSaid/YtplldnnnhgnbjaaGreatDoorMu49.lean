/- packed -/
import Derived.Test.YtplldnnnhgnbjaaGreatDoorMu48
import Derived.Test.YtplldnnnhgnbjaaGreatDoorMu46
import Derived.Test.YtplldnnnhgnbjaaGreatDoorMu47
namespace Go.Proofs.YtplldnnnhgnbjaaGreatDoor
open Go.RowKit Go.Maps
theorem own_own{w:World}{b b' s s' n n' k:Nat}{e e':TypeId}{v v':Value}{xs xs':List Value}(h:w.ownsRow b e s v n xs)(h':w.ownsRow b' e' s' v' n' xs')(he:e≠e')(hk:v.ownBlock=some k):v'.ownBlock≠some k:=fun hk'=>by
 rcases h.2 with ⟨rfl,_⟩|⟨g,cap,cur,rfl,_,hc,_⟩
 ·simp[Value.ownBlock]at hk
 ·simp[Value.ownBlock]at hk
  rcases h'.2 with ⟨rfl,_⟩|⟨g',cap',cur',rfl,_,hc',_⟩
  ·simp[Value.ownBlock]at hk'
  ·simp[Value.ownBlock]at hk'
   subst hk hk'
   rw[hc]at hc'
   injection hc' with hc'
   injection hc' with _ h9
   exact he h9
structure MulI(w1:World)(n1 n2 m1 m2:Nat)(us1 us2 ws1 ws2:List Value)(a1 a2 a3 c1 c2 c3 b10 b60 st:Bool)(t10 t42 t46 t50 t51 t55 t59 t60 vA vC:Value)(g:Nat)(W:World):Prop where
 ext:Ext w1 W
 a:a1=true→W.ownsRow w1.heap.size 49 3 vA (if a3 then n1+n2 else if a2 then n1 else 0) (if a3 then us1++us2 else if a2 then us1 else [])
 a42:a1=true→a2=false→t42=vA
 a46:a2=true→a3=false→t46=vA
 a50:a3=true→t50=vA
 c:c1=true→W.ownsRow w1.heap.size 53 5 vC (if c3 then m1+m2 else if c2 then m1 else 0) (if c3 then ws1++ws2 else if c2 then ws1 else [])
 c51:c1=true→c2=false→t51=vC
 c55:c2=true→c3=false→t55=vC
 c59:c3=true→t59=vC
 x10:b10=true→t10=.pointer (some ⟨g,0,none⟩)∧w1.heap.size≤g∧∃x y,Bk W g 46 [x,y]∧(st=true→x=vA∧y=vC)
 x60:b60=true→t60=.agg #[vA,vC]
section
variable {w1 W W':World} {n1 n2 m1 m2 g:Nat} {us1 us2 ws1 ws2:List Value} {a1 a2 a3 c1 c2 c3 b10 b60 st:Bool} {t10 t42 t46 t50 t51 t55 t59 t60 vA vC v':Value}
theorem MulI.start{x10 x42 x46 x50 x51 x55 x59 x60 vA vC:Value}{g:Nat}:MulI w1 n1 n2 m1 m2 us1 us2 ws1 ws2 false false false false false false false false false x10 x42 x46 x50 x51 x55 x59 x60 vA vC g w1.drew :=
 ⟨(Ext.refl _).drew,nofun,nofun,nofun,nofun,nofun,nofun,nofun,nofun,nofun,nofun⟩
theorem MulI.mkA(h:MulI w1 n1 n2 m1 m2 us1 us2 ws1 ws2 false false false c1 c2 c3 b10 false false t10 t42 t46 t50 t51 t55 t59 t60 vA vC g W) :
  MulI w1 n1 n2 m1 m2 us1 us2 ws1 ws2 true false false c1 c2 c3 b10 false false t10 (.slice (some ⟨W.heap.size,0,none⟩) 0 0) t46 t50 t51 t55 t59 t60 (.slice (some ⟨W.heap.size,0,none⟩) 0 0) vC g (W.alloc (.cells #[] 49)) :=
 ⟨h.ext.alloc _,fun _=>World.ownsRow_made W #[] 0 h.ext.size (jn _) rfl,fun _ _=>rfl,nofun,nofun,fun hc=>own_ext' (h.c hc) ((Ext.refl W).alloc _),h.c51,h.c55,h.c59,fun hb=>let ⟨e,k1,x,y,k2,_⟩:=h.x10 hb;⟨e,k1,x,y,k2.alloc _,nofun⟩,nofun⟩
theorem MulI.mkC(h:MulI w1 n1 n2 m1 m2 us1 us2 ws1 ws2 a1 a2 a3 false false false b10 false false t10 t42 t46 t50 t51 t55 t59 t60 vA vC g W) :
  MulI w1 n1 n2 m1 m2 us1 us2 ws1 ws2 a1 a2 a3 true false false b10 false false t10 t42 t46 t50 (.slice (some ⟨W.heap.size,0,none⟩) 0 0) t55 t59 t60 vA (.slice (some ⟨W.heap.size,0,none⟩) 0 0) g (W.alloc (.cells #[] 53)) :=
 ⟨h.ext.alloc _,fun ha=>own_ext' (h.a ha) ((Ext.refl W).alloc _),h.a42,h.a46,h.a50,fun _=>World.ownsRow_made W #[] 0 h.ext.size (jn _) rfl,fun _ _=>rfl,nofun,nofun,fun hb=>let ⟨e,k1,x,y,k2,_⟩:=h.x10 hb;⟨e,k1,x,y,k2.alloc _,nofun⟩,nofun⟩
theorem MulI.appA(h:MulI w1 n1 n2 m1 m2 us1 us2 ws1 ws2 true false false c1 c2 c3 b10 false false t10 t42 t46 t50 t51 t55 t59 t60 vA vC g W)(hr:W'.ownsRow w1.heap.size 49 3 v' (0+n1) ([]++us1))(hg:W.grownBy W' vA.ownBlock) :
  MulI w1 n1 n2 m1 m2 us1 us2 ws1 ws2 true true false c1 c2 c3 b10 false false t10 t42 v' t50 t51 t55 t59 t60 v' vC g W' :=
 ⟨h.ext.grown hg (fun k hk=>own_ge (h.a rfl) hk),fun _=>by rw[jW,jX]at hr;exact hr,nofun,fun _ _=>rfl,nofun,fun hc=>own_fr (h.c hc) (grown_fr hg) (fun k hk e=>own_own (h.a rfl) (h.c hc) (by decide) e hk),h.c51,h.c55,h.c59,fun hb=>let ⟨e,k1,x,y,k2,_⟩:=h.x10 hb;⟨e,k1,x,y,k2.fr (grown_fr hg) (fun e=>own_bk (h.a rfl) k2 (by decide) e rfl),nofun⟩,nofun⟩
theorem MulI.appA2(h:MulI w1 n1 n2 m1 m2 us1 us2 ws1 ws2 true true false c1 c2 c3 b10 false false t10 t42 t46 t50 t51 t55 t59 t60 vA vC g W)(hr:W'.ownsRow w1.heap.size 49 3 v' (n1+n2) (us1++us2))(hg:W.grownBy W' vA.ownBlock) :
  MulI w1 n1 n2 m1 m2 us1 us2 ws1 ws2 true true true c1 c2 c3 b10 false false t10 t42 t46 v' t51 t55 t59 t60 v' vC g W' :=
 ⟨h.ext.grown hg (fun k hk=>own_ge (h.a rfl) hk),fun _=>hr,nofun,nofun,fun _=>rfl,fun hc=>own_fr (h.c hc) (grown_fr hg) (fun k hk e=>own_own (h.a rfl) (h.c hc) (by decide) e hk),h.c51,h.c55,h.c59,fun hb=>let ⟨e,k1,x,y,k2,_⟩:=h.x10 hb;⟨e,k1,x,y,k2.fr (grown_fr hg) (fun e=>own_bk (h.a rfl) k2 (by decide) e rfl),nofun⟩,nofun⟩
theorem MulI.appC(h:MulI w1 n1 n2 m1 m2 us1 us2 ws1 ws2 a1 a2 a3 true false false b10 false false t10 t42 t46 t50 t51 t55 t59 t60 vA vC g W)(hr:W'.ownsRow w1.heap.size 53 5 v' (0+m1) ([]++ws1))(hg:W.grownBy W' vC.ownBlock) :
  MulI w1 n1 n2 m1 m2 us1 us2 ws1 ws2 a1 a2 a3 true true false b10 false false t10 t42 t46 t50 t51 v' t59 t60 vA v' g W' :=
 ⟨h.ext.grown hg (fun k hk=>own_ge (h.c rfl) hk),fun ha=>own_fr (h.a ha) (grown_fr hg) (fun k hk e=>own_own (h.c rfl) (h.a ha) (by decide) e hk),h.a42,h.a46,h.a50,fun _=>by rw[jW,jX]at hr;exact hr,nofun,fun _ _=>rfl,nofun,fun hb=>let ⟨e,k1,x,y,k2,_⟩:=h.x10 hb;⟨e,k1,x,y,k2.fr (grown_fr hg) (fun e=>own_bk (h.c rfl) k2 (by decide) e rfl),nofun⟩,nofun⟩
theorem MulI.appC2(h:MulI w1 n1 n2 m1 m2 us1 us2 ws1 ws2 a1 a2 a3 true true false b10 false false t10 t42 t46 t50 t51 t55 t59 t60 vA vC g W)(hr:W'.ownsRow w1.heap.size 53 5 v' (m1+m2) (ws1++ws2))(hg:W.grownBy W' vC.ownBlock) :
  MulI w1 n1 n2 m1 m2 us1 us2 ws1 ws2 a1 a2 a3 true true true b10 false false t10 t42 t46 t50 t51 t55 v' t60 vA v' g W' :=
 ⟨h.ext.grown hg (fun k hk=>own_ge (h.c rfl) hk),fun ha=>own_fr (h.a ha) (grown_fr hg) (fun k hk e=>own_own (h.c rfl) (h.a ha) (by decide) e hk),h.a42,h.a46,h.a50,fun _=>hr,nofun,nofun,fun _=>rfl,fun hb=>let ⟨e,k1,x,y,k2,_⟩:=h.x10 hb;⟨e,k1,x,y,k2.fr (grown_fr hg) (fun e=>own_bk (h.c rfl) k2 (by decide) e rfl),nofun⟩,nofun⟩
theorem MulI.box(h:MulI w1 n1 n2 m1 m2 us1 us2 ws1 ws2 a1 a2 a3 c1 c2 c3 false b60 false t10 t42 t46 t50 t51 t55 t59 t60 vA vC g W) :
  MulI w1 n1 n2 m1 m2 us1 us2 ws1 ws2 a1 a2 a3 c1 c2 c3 true b60 false (.pointer (some ⟨W.heap.size,0,none⟩)) t42 t46 t50 t51 t55 t59 t60 vA vC W.heap.size (W.alloc (.cells #[.slice none 0 0,.slice none 0 0] 46)) :=
 ⟨h.ext.alloc _,fun ha=>own_ext' (h.a ha) ((Ext.refl W).alloc _),h.a42,h.a46,h.a50,fun hc=>own_ext' (h.c hc) ((Ext.refl W).alloc _),h.c51,h.c55,h.c59,fun _=>⟨rfl,h.ext.size,_,_,Bk.new W _ [.slice none 0 0,.slice none 0 0],nofun⟩,h.x60⟩
theorem MulI.bld(h:MulI w1 n1 n2 m1 m2 us1 us2 ws1 ws2 true true true true true true b10 false false t10 t42 t46 t50 t51 t55 t59 t60 vA vC g W) :
  MulI w1 n1 n2 m1 m2 us1 us2 ws1 ws2 true true true true true true b10 true false t10 t42 t46 t50 t51 t55 t59 (.agg #[t50,t59]) vA vC g W :=
 { h with x60:=fun _=>by rw[h.a50 rfl,h.c59 rfl] }
theorem MulI.store(h:MulI w1 n1 n2 m1 m2 us1 us2 ws1 ws2 true true true true true true true true false t10 t42 t46 t50 t51 t55 t59 t60 vA vC g W) :
  MulI w1 n1 n2 m1 m2 us1 us2 ws1 ws2 true true true true true true true true true t10 t42 t46 t50 t51 t55 t59 t60 vA vC g ((W.setCell ⟨g,0,none⟩ vA).setCell ⟨g,1,none⟩ vC):=by
 obtain⟨e,k1,x,y,k2,-⟩:=h.x10 rfl
 have hf:Fr (fun k=>k=g) W ((W.setCell ⟨g,0,none⟩ vA).setCell ⟨g,1,none⟩ vC):=(((Fr.refl (fun k=>k=g) W).setCell (p:=⟨g,0,none⟩) (.inl rfl) vA).setCell (p:=⟨g,1,none⟩) (.inl rfl) vC)
 refine⟨(h.ext.setCell (p:=⟨g,0,none⟩) k1 vA).setCell (p:=⟨g,1,none⟩) k1 vC,fun ha=>own_fr (h.a ha) hf (fun k hk e=>own_bk (h.a ha) k2 (by decide) hk e),h.a42,h.a46,h.a50,fun hc=>own_fr (h.c hc) hf (fun k hk e=>own_bk (h.c hc) k2 (by decide) hk e),h.c51,h.c55,h.c59,fun _=>⟨e,k1,vA,vC,?_,fun _=>⟨rfl,rfl⟩⟩,h.x60⟩
 have k3:=(k2.set 0 vA).set 1 vC
 simpa using k3
end
structure MuvI(w1:World)(l1 l2:List ByteArray)(a1 a2 b1 b2:Bool)(t11 t12 t72 t75:Value)(W:World):Prop where
 ext:Ext w1 W
 v1:a1=true→Strs (fun _=>True) W t72 l1
 v2:a2=true→Strs (fun _=>True) W t75 l2
 e1:b1=true→t11=t72
 e2:b2=true→t12=t75
section
variable {w1 W W':World} {l1 l2:List ByteArray} {a1 a2 b1 b2:Bool} {t11 t12 t72 t75 v:Value}
theorem MuvI.start{x11 x12 x72 x75:Value}:MuvI w1 l1 l2 false false false false x11 x12 x72 x75 w1.drew:=⟨(Ext.refl _).drew,nofun,nofun,nofun,nofun⟩
theorem MuvI.call1(h:MuvI w1 l1 l2 false a2 false b2 t11 t12 t72 t75 W)(he:Ext W W')(hs:Strs (fun _=>True) W' v l1):MuvI w1 l1 l2 true a2 false b2 t11 t12 v t75 W':=⟨h.ext.trans he,fun _=>hs,fun ha=>(h.v2 ha).ext he,nofun,h.e2⟩
theorem MuvI.call2(h:MuvI w1 l1 l2 a1 false b1 false t11 t12 t72 t75 W)(he:Ext W W')(hs:Strs (fun _=>True) W' v l2):MuvI w1 l1 l2 a1 true b1 false t11 t12 t72 v W':=⟨h.ext.trans he,fun ha=>(h.v1 ha).ext he,fun _=>hs,h.e1,nofun⟩
theorem MuvI.asg1(h:MuvI w1 l1 l2 true a2 false b2 t11 t12 t72 t75 W):MuvI w1 l1 l2 true a2 true b2 t72 t12 t72 t75 W:=⟨h.ext,h.v1,h.v2,fun _=>rfl,h.e2⟩
theorem MuvI.asg2(h:MuvI w1 l1 l2 a1 true b1 false t11 t12 t72 t75 W):MuvI w1 l1 l2 a1 true b1 true t11 t75 t72 t75 W:=⟨h.ext,h.v1,h.v2,h.e1,fun _=>rfl⟩
end
noncomputable def mulRg:Code:=((Tryz.f5.body.bind (findRegion 4)).getD .skip)
inductive mulJ(w1:World)(n1 n2 m1 m2:Nat)(us1 us2 ws1 ws2:List Value)(Fz:Value→Value→Value→Value→Value→Value→Value→Value→ Act):Nat→Array Bool→Act→World→Prop
 | s0 {t10 t42 t46 t50 t51 t55 t59 t60:Value} {vA:Value} {vC:Value} {g:Nat} {W:World} (h:MulI w1 n1 n2 m1 m2 us1 us2 ws1 ws2 false false false false false false false false false t10 t42 t46 t50 t51 t55 t59 t60 vA vC g W):mulJ w1 n1 n2 m1 m2 us1 us2 ws1 ws2 Fz 9 #[false,true,true,true,false,true,true,true,false,false,true,true,true,false,true,true,true,false,false,false,false] (Fz t10 t42 t46 t50 t51 t55 t59 t60) W
 | s1 {t10 t42 t46 t50 t51 t55 t59 t60:Value} {vA:Value} {vC:Value} {g:Nat} {W:World} (h:MulI w1 n1 n2 m1 m2 us1 us2 ws1 ws2 true false false false false false false false false t10 t42 t46 t50 t51 t55 t59 t60 vA vC g W):mulJ w1 n1 n2 m1 m2 us1 us2 ws1 ws2 Fz 8 #[true,true,true,true,false,true,true,true,false,false,true,true,true,false,true,true,true,false,false,false,false] (Fz t10 t42 t46 t50 t51 t55 t59 t60) W
 | s2 {t10 t42 t46 t50 t51 t55 t59 t60:Value} {vA:Value} {vC:Value} {g:Nat} {W:World} (h:MulI w1 n1 n2 m1 m2 us1 us2 ws1 ws2 false false false true false false false false false t10 t42 t46 t50 t51 t55 t59 t60 vA vC g W):mulJ w1 n1 n2 m1 m2 us1 us2 ws1 ws2 Fz 8 #[false,true,true,true,false,true,true,true,false,true,true,true,true,false,true,true,true,false,false,false,false] (Fz t10 t42 t46 t50 t51 t55 t59 t60) W
 | s3 {t10 t42 t46 t50 t51 t55 t59 t60:Value} {vA:Value} {vC:Value} {g:Nat} {W:World} (h:MulI w1 n1 n2 m1 m2 us1 us2 ws1 ws2 false false false false false false true false false t10 t42 t46 t50 t51 t55 t59 t60 vA vC g W):mulJ w1 n1 n2 m1 m2 us1 us2 ws1 ws2 Fz 8 #[false,true,true,true,false,true,true,true,false,false,true,true,true,false,true,true,true,false,false,true,false] (Fz t10 t42 t46 t50 t51 t55 t59 t60) W
 | s4 {t10 t42 t46 t50 t51 t55 t59 t60:Value} {vA:Value} {vC:Value} {g:Nat} {W:World} (h:MulI w1 n1 n2 m1 m2 us1 us2 ws1 ws2 true true false false false false false false false t10 t42 t46 t50 t51 t55 t59 t60 vA vC g W):mulJ w1 n1 n2 m1 m2 us1 us2 ws1 ws2 Fz 7 #[true,true,true,true,true,true,true,true,false,false,true,true,true,false,true,true,true,false,false,false,false] (Fz t10 t42 t46 t50 t51 t55 t59 t60) W
 | s5 {t10 t42 t46 t50 t51 t55 t59 t60:Value} {vA:Value} {vC:Value} {g:Nat} {W:World} (h:MulI w1 n1 n2 m1 m2 us1 us2 ws1 ws2 true false false true false false false false false t10 t42 t46 t50 t51 t55 t59 t60 vA vC g W):mulJ w1 n1 n2 m1 m2 us1 us2 ws1 ws2 Fz 7 #[true,true,true,true,false,true,true,true,false,true,true,true,true,false,true,true,true,false,false,false,false] (Fz t10 t42 t46 t50 t51 t55 t59 t60) W
 | s6 {t10 t42 t46 t50 t51 t55 t59 t60:Value} {vA:Value} {vC:Value} {g:Nat} {W:World} (h:MulI w1 n1 n2 m1 m2 us1 us2 ws1 ws2 true false false false false false true false false t10 t42 t46 t50 t51 t55 t59 t60 vA vC g W):mulJ w1 n1 n2 m1 m2 us1 us2 ws1 ws2 Fz 7 #[true,true,true,true,false,true,true,true,false,false,true,true,true,false,true,true,true,false,false,true,false] (Fz t10 t42 t46 t50 t51 t55 t59 t60) W
 | s7 {t10 t42 t46 t50 t51 t55 t59 t60:Value} {vA:Value} {vC:Value} {g:Nat} {W:World} (h:MulI w1 n1 n2 m1 m2 us1 us2 ws1 ws2 false false false true false false true false false t10 t42 t46 t50 t51 t55 t59 t60 vA vC g W):mulJ w1 n1 n2 m1 m2 us1 us2 ws1 ws2 Fz 7 #[false,true,true,true,false,true,true,true,false,true,true,true,true,false,true,true,true,false,false,true,false] (Fz t10 t42 t46 t50 t51 t55 t59 t60) W
 | s8 {t10 t42 t46 t50 t51 t55 t59 t60:Value} {vA:Value} {vC:Value} {g:Nat} {W:World} (h:MulI w1 n1 n2 m1 m2 us1 us2 ws1 ws2 true true true false false false false false false t10 t42 t46 t50 t51 t55 t59 t60 vA vC g W):mulJ w1 n1 n2 m1 m2 us1 us2 ws1 ws2 Fz 6 #[true,true,true,true,true,true,true,true,true,false,true,true,true,false,true,true,true,false,false,false,false] (Fz t10 t42 t46 t50 t51 t55 t59 t60) W
 | s9 {t10 t42 t46 t50 t51 t55 t59 t60:Value} {vA:Value} {vC:Value} {g:Nat} {W:World} (h:MulI w1 n1 n2 m1 m2 us1 us2 ws1 ws2 true true false true false false false false false t10 t42 t46 t50 t51 t55 t59 t60 vA vC g W):mulJ w1 n1 n2 m1 m2 us1 us2 ws1 ws2 Fz 6 #[true,true,true,true,true,true,true,true,false,true,true,true,true,false,true,true,true,false,false,false,false] (Fz t10 t42 t46 t50 t51 t55 t59 t60) W
 | s10 {t10 t42 t46 t50 t51 t55 t59 t60:Value} {vA:Value} {vC:Value} {g:Nat} {W:World} (h:MulI w1 n1 n2 m1 m2 us1 us2 ws1 ws2 true true false false false false true false false t10 t42 t46 t50 t51 t55 t59 t60 vA vC g W):mulJ w1 n1 n2 m1 m2 us1 us2 ws1 ws2 Fz 6 #[true,true,true,true,true,true,true,true,false,false,true,true,true,false,true,true,true,false,false,true,false] (Fz t10 t42 t46 t50 t51 t55 t59 t60) W
 | s11 {t10 t42 t46 t50 t51 t55 t59 t60:Value} {vA:Value} {vC:Value} {g:Nat} {W:World} (h:MulI w1 n1 n2 m1 m2 us1 us2 ws1 ws2 true false false true false false true false false t10 t42 t46 t50 t51 t55 t59 t60 vA vC g W):mulJ w1 n1 n2 m1 m2 us1 us2 ws1 ws2 Fz 6 #[true,true,true,true,false,true,true,true,false,true,true,true,true,false,true,true,true,false,false,true,false] (Fz t10 t42 t46 t50 t51 t55 t59 t60) W
 | s12 {t10 t42 t46 t50 t51 t55 t59 t60:Value} {vA:Value} {vC:Value} {g:Nat} {W:World} (h:MulI w1 n1 n2 m1 m2 us1 us2 ws1 ws2 true true true true false false false false false t10 t42 t46 t50 t51 t55 t59 t60 vA vC g W):mulJ w1 n1 n2 m1 m2 us1 us2 ws1 ws2 Fz 5 #[true,true,true,true,true,true,true,true,true,true,true,true,true,false,true,true,true,false,false,false,false] (Fz t10 t42 t46 t50 t51 t55 t59 t60) W
 | s13 {t10 t42 t46 t50 t51 t55 t59 t60:Value} {vA:Value} {vC:Value} {g:Nat} {W:World} (h:MulI w1 n1 n2 m1 m2 us1 us2 ws1 ws2 true true true false false false true false false t10 t42 t46 t50 t51 t55 t59 t60 vA vC g W):mulJ w1 n1 n2 m1 m2 us1 us2 ws1 ws2 Fz 5 #[true,true,true,true,true,true,true,true,true,false,true,true,true,false,true,true,true,false,false,true,false] (Fz t10 t42 t46 t50 t51 t55 t59 t60) W
 | s14 {t10 t42 t46 t50 t51 t55 t59 t60:Value} {vA:Value} {vC:Value} {g:Nat} {W:World} (h:MulI w1 n1 n2 m1 m2 us1 us2 ws1 ws2 true true false true false false true false false t10 t42 t46 t50 t51 t55 t59 t60 vA vC g W):mulJ w1 n1 n2 m1 m2 us1 us2 ws1 ws2 Fz 5 #[true,true,true,true,true,true,true,true,false,true,true,true,true,false,true,true,true,false,false,true,false] (Fz t10 t42 t46 t50 t51 t55 t59 t60) W
 | s15 {t10 t42 t46 t50 t51 t55 t59 t60:Value} {vA:Value} {vC:Value} {g:Nat} {W:World} (h:MulI w1 n1 n2 m1 m2 us1 us2 ws1 ws2 true true true true true false false false false t10 t42 t46 t50 t51 t55 t59 t60 vA vC g W):mulJ w1 n1 n2 m1 m2 us1 us2 ws1 ws2 Fz 4 #[true,true,true,true,true,true,true,true,true,true,true,true,true,true,true,true,true,false,false,false,false] (Fz t10 t42 t46 t50 t51 t55 t59 t60) W
 | s16 {t10 t42 t46 t50 t51 t55 t59 t60:Value} {vA:Value} {vC:Value} {g:Nat} {W:World} (h:MulI w1 n1 n2 m1 m2 us1 us2 ws1 ws2 true true true true false false true false false t10 t42 t46 t50 t51 t55 t59 t60 vA vC g W):mulJ w1 n1 n2 m1 m2 us1 us2 ws1 ws2 Fz 4 #[true,true,true,true,true,true,true,true,true,true,true,true,true,false,true,true,true,false,false,true,false] (Fz t10 t42 t46 t50 t51 t55 t59 t60) W
 | s17 {t10 t42 t46 t50 t51 t55 t59 t60:Value} {vA:Value} {vC:Value} {g:Nat} {W:World} (h:MulI w1 n1 n2 m1 m2 us1 us2 ws1 ws2 true true true true true true false false false t10 t42 t46 t50 t51 t55 t59 t60 vA vC g W):mulJ w1 n1 n2 m1 m2 us1 us2 ws1 ws2 Fz 3 #[true,true,true,true,true,true,true,true,true,true,true,true,true,true,true,true,true,true,false,false,false] (Fz t10 t42 t46 t50 t51 t55 t59 t60) W
 | s18 {t10 t42 t46 t50 t51 t55 t59 t60:Value} {vA:Value} {vC:Value} {g:Nat} {W:World} (h:MulI w1 n1 n2 m1 m2 us1 us2 ws1 ws2 true true true true true false true false false t10 t42 t46 t50 t51 t55 t59 t60 vA vC g W):mulJ w1 n1 n2 m1 m2 us1 us2 ws1 ws2 Fz 3 #[true,true,true,true,true,true,true,true,true,true,true,true,true,true,true,true,true,false,false,true,false] (Fz t10 t42 t46 t50 t51 t55 t59 t60) W
 | s19 {t10 t42 t46 t50 t51 t55 t59 t60:Value} {vA:Value} {vC:Value} {g:Nat} {W:World} (h:MulI w1 n1 n2 m1 m2 us1 us2 ws1 ws2 true true true true true true false true false t10 t42 t46 t50 t51 t55 t59 t60 vA vC g W):mulJ w1 n1 n2 m1 m2 us1 us2 ws1 ws2 Fz 2 #[true,true,true,true,true,true,true,true,true,true,true,true,true,true,true,true,true,true,true,false,false] (Fz t10 t42 t46 t50 t51 t55 t59 t60) W
 | s20 {t10 t42 t46 t50 t51 t55 t59 t60:Value} {vA:Value} {vC:Value} {g:Nat} {W:World} (h:MulI w1 n1 n2 m1 m2 us1 us2 ws1 ws2 true true true true true true true false false t10 t42 t46 t50 t51 t55 t59 t60 vA vC g W):mulJ w1 n1 n2 m1 m2 us1 us2 ws1 ws2 Fz 2 #[true,true,true,true,true,true,true,true,true,true,true,true,true,true,true,true,true,true,false,true,false] (Fz t10 t42 t46 t50 t51 t55 t59 t60) W
 | s21 {t10 t42 t46 t50 t51 t55 t59 t60:Value} {vA:Value} {vC:Value} {g:Nat} {W:World} (h:MulI w1 n1 n2 m1 m2 us1 us2 ws1 ws2 true true true true true true true true false t10 t42 t46 t50 t51 t55 t59 t60 vA vC g W):mulJ w1 n1 n2 m1 m2 us1 us2 ws1 ws2 Fz 1 #[true,true,true,true,true,true,true,true,true,true,true,true,true,true,true,true,true,true,true,true,false] (Fz t10 t42 t46 t50 t51 t55 t59 t60) W
 | s22 {t10 t42 t46 t50 t51 t55 t59 t60:Value} {vA:Value} {vC:Value} {g:Nat} {W:World} (h:MulI w1 n1 n2 m1 m2 us1 us2 ws1 ws2 true true true true true true true true true t10 t42 t46 t50 t51 t55 t59 t60 vA vC g W):mulJ w1 n1 n2 m1 m2 us1 us2 ws1 ws2 Fz 0 #[true,true,true,true,true,true,true,true,true,true,true,true,true,true,true,true,true,true,true,true,true] (Fz t10 t42 t46 t50 t51 t55 t59 t60) W
set_option maxRecDepth 20000 in
set_option maxHeartbeats 3200000 in
theorem mul_reg{K:Act→World→Prop}{Q:Exit→Act→World→Prop}{w1:World}{n1 n2 m1 m2 d1 d2 e1 e2 g5:Nat}{us1 us2 ws1 ws2:List Value}{A1 A2 C1 C2:Option Addr}{u0 u1 u2 u3 u4 u6 u7 u8 u9 u11 u12 u13 u14 u15 u16 u17 u18 u19 u20 u21 u22 u23 u24 u25 u26 u27 u28 u29 u30 u31 u32 u33 u34 u35 u36 u37 u38 u39 u40 u41 u61 u62 u63 u64 u65 u66 u67 u68 u69 u70 u71 u72 u73 u74 u75 u76 u77 u78 u79 u80 u81 u82 u83 u84 u85 u86 u87 u88 u89 u90 u91 u92 u93 u94 u95 u96 u97 u98 u99 u100 u101 u102 u103 u104 u105 u106 u107 u108 u109 u110 u111 u112 u113 u114 u115 u116 u117 u118 u119 u120 u121 u122 u123 u124 u125 u126 u127 u128 u129 u130 u131 u132 u133 u134 u135 x10 x42 x46 x50 x51 x55 x59 x60 z43 z44 z45 z47 z48 z49 z52 z53 z54 z56 z57 z58:Value}(b0:w1.cell? ⟨g5,0,none⟩=some (.slice A1 n1 d1))(b1:w1.cell? ⟨g5,1,none⟩=some (.slice C1 m1 e1))(b2:w1.cell? ⟨g5,2,none⟩=some (.slice A2 n2 d2))(b3:w1.cell? ⟨g5,3,none⟩=some (.slice C2 m2 e2))(l1:us1.length=n1*3)(r1:∀j u,us1[j]?=some u→∃ad,A1=some ad∧w1.cell? (ad.add j)=some u)(o1:∀u∈us1,u.oneCell'=true)(l2:us2.length=n2*3)(r2:∀j u,us2[j]?=some u→∃ad,A2=some ad∧w1.cell? (ad.add j)=some u)(o2:∀u∈us2,u.oneCell'=true)(l3:ws1.length=m1*5)(r3:∀j u,ws1[j]?=some u→∃ad,C1=some ad∧w1.cell? (ad.add j)=some u)(o3:∀u∈ws1,u.oneCell'=true)(l4:ws2.length=m2*5)(r4:∀j u,ws2[j]?=some u→∃ad,C2=some ad∧w1.cell? (ad.add j)=some u)(o4:∀u∈ws2,u.oneCell'=true)(q1:n1≤1000000)(q2:n2≤1000000)(q3:m1≤1000000)(q4:m2≤1000000)(hK:∀g t42 t46 t50 t51 t55 t59 t60 vA vC W,Ext w1 W→w1.heap.size≤g→Bk W g 46 [vA,vC]→W.ownsRow w1.heap.size 49 3 vA (n1+n2) (us1++us2)→W.ownsRow w1.heap.size 53 5 vC (m1+m2) (ws1++ws2)→K ⟨#[u0,u1,u2,u3,u4,.pointer (some ⟨g5,0,none⟩),u6,u7,u8,u9,.pointer (some ⟨g,0,none⟩),u11,u12,u13,u14,u15,u16,u17,u18,u19,u20,u21,u22,u23,u24,u25,u26,u27,u28,u29,u30,u31,u32,u33,u34,u35,u36,u37,u38,u39,u40,u41,t42,.pointer (some ⟨g5,0,none⟩),.pointer (some ⟨g5,0,none⟩),.slice A1 n1 d1,t46,.pointer (some ⟨g5,2,none⟩),.pointer (some ⟨g5,2,none⟩),.slice A2 n2 d2,t50,t51,.pointer (some ⟨g5,0,none⟩),.pointer (some ⟨g5,1,none⟩),.slice C1 m1 e1,t55,.pointer (some ⟨g5,2,none⟩),.pointer (some ⟨g5,3,none⟩),.slice C2 m2 e2,t59,t60,u61,u62,u63,u64,u65,u66,u67,u68,u69,u70,u71,u72,u73,u74,u75,u76,u77,u78,u79,u80,u81,u82,u83,u84,u85,u86,u87,u88,u89,u90,u91,u92,u93,u94,u95,u96,u97,u98,u99,u100,u101,u102,u103,u104,u105,u106,u107,u108,u109,u110,u111,u112,u113,u114,u115,u116,u117,u118,u119,u120,u121,u122,u123,u124,u125,u126,u127,u128,u129,u130,u131,u132,u133,u134,u135],[]⟩ W) :
  Code.wp Tryz.prog mulRg (Exit.then K Q) ⟨#[u0,u1,u2,u3,u4,.pointer (some ⟨g5,0,none⟩),u6,u7,u8,u9,x10,u11,u12,u13,u14,u15,u16,u17,u18,u19,u20,u21,u22,u23,u24,u25,u26,u27,u28,u29,u30,u31,u32,u33,u34,u35,u36,u37,u38,u39,u40,u41,x42,z43,z44,z45,x46,z47,z48,z49,x50,x51,z52,z53,z54,x55,z56,z57,z58,x59,x60,u61,u62,u63,u64,u65,u66,u67,u68,u69,u70,u71,u72,u73,u74,u75,u76,u77,u78,u79,u80,u81,u82,u83,u84,u85,u86,u87,u88,u89,u90,u91,u92,u93,u94,u95,u96,u97,u98,u99,u100,u101,u102,u103,u104,u105,u106,u107,u108,u109,u110,u111,u112,u113,u114,u115,u116,u117,u118,u119,u120,u121,u122,u123,u124,u125,u126,u127,u128,u129,u130,u131,u132,u133,u134,u135],[]⟩ w1:=by
 have HK:=zO hK
 obtain⟨j0,hj0,hz0,hz1,hz2⟩:=info_parts info_atom
 have HJ0:=zO (And.intro hj0 (And.intro hz0 (And.intro hz1 hz2)))
 obtain⟨j1,hj1,hy0,hy1,hy2⟩:=info_parts info_cond
 have HJ1:=zO (And.intro hj1 (And.intro hy0 (And.intro hy1 hy2)))
 clear hK hj0 hz0 hz1 hz2 hj1 hy0 hy1 hy2
 conv=>arg 2;whnf
 refine wp_only ?_
 refine wp_region_held_drew (S:=fun V=>Ext w1 V) (by kernel_rfl) (Ext.refl w1).drew (fun hHeld=>?_)
 refine wpAnyH_take (i:=1) (oi:=?ox1) (v:=.pointer (some ⟨g5,0,none⟩)) ?hx1 (by kernel_rfl) (by kernel_rfl) (by kernel_rfl) (fun _ _ _ h=>h) (Or.inl ⟨?wx1,?yx1⟩) hHeld ?rx1
 case hx1=>simp only[jd,jb,jc];rfl
 case wx1=>rfl
 case yx1 =>
  intro V hSw

  simp[go_sem] <;> with_reducible rfl
 (try simp only[Act.put,jf,jh,ji])
 refine wpAnyH_take (i:=2) (oi:=?ox2) (v:=.pointer (some ⟨g5,0,none⟩)) ?hx2 (by kernel_rfl) (by kernel_rfl) (by kernel_rfl) (fun _ _ _ h=>h) (Or.inl ⟨?wx2,?yx2⟩) hHeld ?rx2
 case hx2=>simp only[jd,jb,jc];rfl
 case wx2=>rfl
 case yx2 =>
  intro V hSw

  simp[go_sem] <;> with_reducible rfl
 (try simp only[Act.put,jf,jh,ji])
 refine wpAnyH_take (i:=3) (oi:=?ox3) (v:=.slice A1 n1 d1) ?hx3 (by kernel_rfl) (by kernel_rfl) (by kernel_rfl) (fun _ _ _ h=>h) (Or.inl ⟨?wx3,?yx3⟩) hHeld ?rx3
 case hx3=>simp only[jd,jb,jc];rfl
 case wx3=>rfl
 case yx3 =>
  intro V hSw
  have q0:=Ext.cell hSw b0
  simp[go_sem,q0] <;> with_reducible rfl
 (try simp only[Act.put,jf,jh,ji])
 refine wpAnyH_take (i:=5) (oi:=?ox5) (v:=.pointer (some ⟨g5,2,none⟩)) ?hx5 (by kernel_rfl) (by kernel_rfl) (by kernel_rfl) (fun _ _ _ h=>h) (Or.inl ⟨?wx5,?yx5⟩) hHeld ?rx5
 case hx5=>simp only[jd,jb,jc];rfl
 case wx5=>rfl
 case yx5 =>
  intro V hSw

  simp[go_sem] <;> with_reducible rfl
 (try simp only[Act.put,jf,jh,ji])
 refine wpAnyH_take (i:=6) (oi:=?ox6) (v:=.pointer (some ⟨g5,2,none⟩)) ?hx6 (by kernel_rfl) (by kernel_rfl) (by kernel_rfl) (fun _ _ _ h=>h) (Or.inl ⟨?wx6,?yx6⟩) hHeld ?rx6
 case hx6=>simp only[jd,jb,jc];rfl
 case wx6=>rfl
 case yx6 =>
  intro V hSw

  simp[go_sem] <;> with_reducible rfl
 (try simp only[Act.put,jf,jh,ji])
 refine wpAnyH_take (i:=7) (oi:=?ox7) (v:=.slice A2 n2 d2) ?hx7 (by kernel_rfl) (by kernel_rfl) (by kernel_rfl) (fun _ _ _ h=>h) (Or.inl ⟨?wx7,?yx7⟩) hHeld ?rx7
 case hx7=>simp only[jd,jb,jc];rfl
 case wx7=>rfl
 case yx7 =>
  intro V hSw
  have q0:=Ext.cell hSw b2
  simp[go_sem,q0] <;> with_reducible rfl
 (try simp only[Act.put,jf,jh,ji])
 refine wpAnyH_take (i:=10) (oi:=?ox10) (v:=.pointer (some ⟨g5,0,none⟩)) ?hx10 (by kernel_rfl) (by kernel_rfl) (by kernel_rfl) (fun _ _ _ h=>h) (Or.inl ⟨?wx10,?yx10⟩) hHeld ?rx10
 case hx10=>simp only[jd,jb,jc];rfl
 case wx10=>rfl
 case yx10 =>
  intro V hSw

  simp[go_sem] <;> with_reducible rfl
 (try simp only[Act.put,jf,jh,ji])
 refine wpAnyH_take (i:=11) (oi:=?ox11) (v:=.pointer (some ⟨g5,1,none⟩)) ?hx11 (by kernel_rfl) (by kernel_rfl) (by kernel_rfl) (fun _ _ _ h=>h) (Or.inl ⟨?wx11,?yx11⟩) hHeld ?rx11
 case hx11=>simp only[jd,jb,jc];rfl
 case wx11=>rfl
 case yx11 =>
  intro V hSw

  simp[go_sem] <;> with_reducible rfl
 (try simp only[Act.put,jf,jh,ji])
 refine wpAnyH_take (i:=12) (oi:=?ox12) (v:=.slice C1 m1 e1) ?hx12 (by kernel_rfl) (by kernel_rfl) (by kernel_rfl) (fun _ _ _ h=>h) (Or.inl ⟨?wx12,?yx12⟩) hHeld ?rx12
 case hx12=>simp only[jd,jb,jc];rfl
 case wx12=>rfl
 case yx12 =>
  intro V hSw
  have q0:=Ext.cell hSw b1
  simp[go_sem,q0] <;> with_reducible rfl
 (try simp only[Act.put,jf,jh,ji])
 refine wpAnyH_take (i:=14) (oi:=?ox14) (v:=.pointer (some ⟨g5,2,none⟩)) ?hx14 (by kernel_rfl) (by kernel_rfl) (by kernel_rfl) (fun _ _ _ h=>h) (Or.inl ⟨?wx14,?yx14⟩) hHeld ?rx14
 case hx14=>simp only[jd,jb,jc];rfl
 case wx14=>rfl
 case yx14 =>
  intro V hSw

  simp[go_sem] <;> with_reducible rfl
 (try simp only[Act.put,jf,jh,ji])
 refine wpAnyH_take (i:=15) (oi:=?ox15) (v:=.pointer (some ⟨g5,3,none⟩)) ?hx15 (by kernel_rfl) (by kernel_rfl) (by kernel_rfl) (fun _ _ _ h=>h) (Or.inl ⟨?wx15,?yx15⟩) hHeld ?rx15
 case hx15=>simp only[jd,jb,jc];rfl
 case wx15=>rfl
 case yx15 =>
  intro V hSw

  simp[go_sem] <;> with_reducible rfl
 (try simp only[Act.put,jf,jh,ji])
 refine wpAnyH_take (i:=16) (oi:=?ox16) (v:=.slice C2 m2 e2) ?hx16 (by kernel_rfl) (by kernel_rfl) (by kernel_rfl) (fun _ _ _ h=>h) (Or.inl ⟨?wx16,?yx16⟩) hHeld ?rx16
 case hx16=>simp only[jd,jb,jc];rfl
 case wx16=>rfl
 case yx16 =>
  intro V hSw
  have q0:=Ext.cell hSw b3
  simp[go_sem,q0] <;> with_reducible rfl
 (try simp only[Act.put,jf,jh,ji])
 clear b0 b1 b2 b3
 refine inv_any (I:=mulJ w1 n1 n2 m1 m2 us1 us2 ws1 ws2 (fun t10 t42 t46 t50 t51 t55 t59 t60=>⟨#[u0,u1,u2,u3,u4,.pointer (some ⟨g5,0,none⟩),u6,u7,u8,u9,t10,u11,u12,u13,u14,u15,u16,u17,u18,u19,u20,u21,u22,u23,u24,u25,u26,u27,u28,u29,u30,u31,u32,u33,u34,u35,u36,u37,u38,u39,u40,u41,t42,.pointer (some ⟨g5,0,none⟩),.pointer (some ⟨g5,0,none⟩),.slice A1 n1 d1,t46,.pointer (some ⟨g5,2,none⟩),.pointer (some ⟨g5,2,none⟩),.slice A2 n2 d2,t50,t51,.pointer (some ⟨g5,0,none⟩),.pointer (some ⟨g5,1,none⟩),.slice C1 m1 e1,t55,.pointer (some ⟨g5,2,none⟩),.pointer (some ⟨g5,3,none⟩),.slice C2 m2 e2,t59,t60,u61,u62,u63,u64,u65,u66,u67,u68,u69,u70,u71,u72,u73,u74,u75,u76,u77,u78,u79,u80,u81,u82,u83,u84,u85,u86,u87,u88,u89,u90,u91,u92,u93,u94,u95,u96,u97,u98,u99,u100,u101,u102,u103,u104,u105,u106,u107,u108,u109,u110,u111,u112,u113,u114,u115,u116,u117,u118,u119,u120,u121,u122,u123,u124,u125,u126,u127,u128,u129,u130,u131,u132,u133,u134,u135],[]⟩)) ?hS ?h0 ?h1 _ _ _ _ ?st
 case hS =>
  intro n l act W hI
  cases hI with
  | s0 h=>exact h.ext
  | s1 h=>exact h.ext
  | s2 h=>exact h.ext
  | s3 h=>exact h.ext
  | s4 h=>exact h.ext
  | s5 h=>exact h.ext
  | s6 h=>exact h.ext
  | s7 h=>exact h.ext
  | s8 h=>exact h.ext
  | s9 h=>exact h.ext
  | s10 h=>exact h.ext
  | s11 h=>exact h.ext
  | s12 h=>exact h.ext
  | s13 h=>exact h.ext
  | s14 h=>exact h.ext
  | s15 h=>exact h.ext
  | s16 h=>exact h.ext
  | s17 h=>exact h.ext
  | s18 h=>exact h.ext
  | s19 h=>exact h.ext
  | s20 h=>exact h.ext
  | s21 h=>exact h.ext
  | s22 h=>exact h.ext
 case st=>exact mulJ.s0 (MulI.start (vA:=.int .i64 0) (vC:=.int .i64 0) (g:=0))
 case h0 =>
  intro l act W hI
  cases hI with
  | s22 h =>
   refine⟨by kernel_rfl,?_⟩
   obtain⟨e10,hg,x,y,hb,hxy⟩:=h.x10 rfl
   subst e10
   obtain⟨rfl,rfl⟩:=hxy rfl
   exact HK.out _ _ _ _ _ _ _ _ _ _ _ h.ext hg hb (h.a rfl) (h.c rfl)
 case h1 =>
  intro m l act W hI
  cases hI with
  | s0 h =>
   refine inv_ready (rs:=[0,9,19]) (by kernel_rfl) (by simp) ?_
   refine inv_cons (o:=?ow0_0) ?ho0_0 (fun K hK=>?hst0_0) ?hmore0_0
   case ho0_0=>simp only[jd,jb,jc];rfl
   case hst0_0 =>
    go_simp
    exact hK.out _ _ (mulJ.s1 (h.mkA))
   refine inv_cons (o:=?ow0_9) ?ho0_9 (fun K hK=>?hst0_9) ?hmore0_9
   case ho0_9=>simp only[jd,jb,jc];rfl
   case hst0_9 =>
    go_simp
    exact hK.out _ _ (mulJ.s2 (h.mkC))
   refine inv_cons (o:=?ow0_19) ?ho0_19 (fun K hK=>?hst0_19) ?hmore0_19
   case ho0_19=>simp only[jd,jb,jc];rfl
   case hst0_19 =>
    go_simp
    exact hK.out _ _ (mulJ.s3 (h.box))
   exact inv_nil
  | s1 h =>
   refine inv_ready (rs:=[4,9,19]) (by kernel_rfl) (by simp) ?_
   refine inv_cons (o:=?ow1_4) ?ho1_4 (fun K hK=>?hst1_4) ?hmore1_4
   case ho1_4=>simp only[jd,jb,jc];rfl
   case hst1_4 =>
    have eq:=h.a42 rfl rfl
    subst eq
    have hr0:=h.a rfl
    have hsz:=h.ext.size
    refine step_append_opt (by rfl) _ _ _ (by rfl) w1.heap.size 49 j0 (.agg #[.bool false,.string ⟨#[]⟩,.slice none 0 0]) 3 48 Tryz.underlying43 HJ0.out.1 HJ0.out.2.1 HJ0.out.2.2.1 HJ0.out.2.2.2 rfl (by omega) _ 0 [] (by rfl) hr0 A1 n1 d1 us1 (by rfl) l1 (fun j u hu=>let ⟨ad,ea,hc⟩:=r1 j u hu;⟨ad,ea,h.ext.cell hc⟩) o1 (by simp only[maxLen];omega) (by omega) hsz ?_
    intro v9 W9 hr9 hg9 hl9
    (try simp only[Act.put,jf,jh,ji])
    exact hK.out _ _ (mulJ.s4 (h.appA hr9 hg9))
   refine inv_cons (o:=?ow1_9) ?ho1_9 (fun K hK=>?hst1_9) ?hmore1_9
   case ho1_9=>simp only[jd,jb,jc];rfl
   case hst1_9 =>
    go_simp
    exact hK.out _ _ (mulJ.s5 (h.mkC))
   refine inv_cons (o:=?ow1_19) ?ho1_19 (fun K hK=>?hst1_19) ?hmore1_19
   case ho1_19=>simp only[jd,jb,jc];rfl
   case hst1_19 =>
    go_simp
    exact hK.out _ _ (mulJ.s6 (h.box))
   exact inv_nil
  | s2 h =>
   refine inv_ready (rs:=[0,19]) (by kernel_rfl) (by simp) ?_
   refine inv_cons (o:=?ow2_0) ?ho2_0 (fun K hK=>?hst2_0) ?hmore2_0
   case ho2_0=>simp only[jd,jb,jc];rfl
   case hst2_0 =>
    go_simp
    exact hK.out _ _ (mulJ.s5 (h.mkA))
   refine inv_cons (o:=?ow2_19) ?ho2_19 (fun K hK=>?hst2_19) ?hmore2_19
   case ho2_19=>simp only[jd,jb,jc];rfl
   case hst2_19 =>
    go_simp
    exact hK.out _ _ (mulJ.s7 (h.box))
   exact inv_nil
  | s3 h =>
   refine inv_ready (rs:=[0,9]) (by kernel_rfl) (by simp) ?_
   refine inv_cons (o:=?ow3_0) ?ho3_0 (fun K hK=>?hst3_0) ?hmore3_0
   case ho3_0=>simp only[jd,jb,jc];rfl
   case hst3_0 =>
    go_simp
    exact hK.out _ _ (mulJ.s6 (h.mkA))
   refine inv_cons (o:=?ow3_9) ?ho3_9 (fun K hK=>?hst3_9) ?hmore3_9
   case ho3_9=>simp only[jd,jb,jc];rfl
   case hst3_9 =>
    go_simp
    exact hK.out _ _ (mulJ.s7 (h.mkC))
   exact inv_nil
  | s4 h =>
   refine inv_ready (rs:=[8,9,19]) (by kernel_rfl) (by simp) ?_
   refine inv_cons (o:=?ow4_8) ?ho4_8 (fun K hK=>?hst4_8) ?hmore4_8
   case ho4_8=>simp only[jd,jb,jc];rfl
   case hst4_8 =>
    have eq:=h.a46 rfl rfl
    subst eq
    have hr0:=h.a rfl
    have hsz:=h.ext.size
    refine step_append_opt (by rfl) _ _ _ (by rfl) w1.heap.size 49 j0 (.agg #[.bool false,.string ⟨#[]⟩,.slice none 0 0]) 3 48 Tryz.underlying43 HJ0.out.1 HJ0.out.2.1 HJ0.out.2.2.1 HJ0.out.2.2.2 rfl (by omega) _ n1 us1 (by rfl) hr0 A2 n2 d2 us2 (by rfl) l2 (fun j u hu=>let ⟨ad,ea,hc⟩:=r2 j u hu;⟨ad,ea,h.ext.cell hc⟩) o2 (by simp only[maxLen];omega) (by omega) hsz ?_
    intro v9 W9 hr9 hg9 hl9
    (try simp only[Act.put,jf,jh,ji])
    exact hK.out _ _ (mulJ.s8 (h.appA2 hr9 hg9))
   refine inv_cons (o:=?ow4_9) ?ho4_9 (fun K hK=>?hst4_9) ?hmore4_9
   case ho4_9=>simp only[jd,jb,jc];rfl
   case hst4_9 =>
    go_simp
    exact hK.out _ _ (mulJ.s9 (h.mkC))
   refine inv_cons (o:=?ow4_19) ?ho4_19 (fun K hK=>?hst4_19) ?hmore4_19
   case ho4_19=>simp only[jd,jb,jc];rfl
   case hst4_19 =>
    go_simp
    exact hK.out _ _ (mulJ.s10 (h.box))
   exact inv_nil
  | s5 h =>
   refine inv_ready (rs:=[4,19]) (by kernel_rfl) (by simp) ?_
   refine inv_cons (o:=?ow5_4) ?ho5_4 (fun K hK=>?hst5_4) ?hmore5_4
   case ho5_4=>simp only[jd,jb,jc];rfl
   case hst5_4 =>
    have eq:=h.a42 rfl rfl
    subst eq
    have hr0:=h.a rfl
    have hsz:=h.ext.size
    refine step_append_opt (by rfl) _ _ _ (by rfl) w1.heap.size 49 j0 (.agg #[.bool false,.string ⟨#[]⟩,.slice none 0 0]) 3 48 Tryz.underlying43 HJ0.out.1 HJ0.out.2.1 HJ0.out.2.2.1 HJ0.out.2.2.2 rfl (by omega) _ 0 [] (by rfl) hr0 A1 n1 d1 us1 (by rfl) l1 (fun j u hu=>let ⟨ad,ea,hc⟩:=r1 j u hu;⟨ad,ea,h.ext.cell hc⟩) o1 (by simp only[maxLen];omega) (by omega) hsz ?_
    intro v9 W9 hr9 hg9 hl9
    (try simp only[Act.put,jf,jh,ji])
    exact hK.out _ _ (mulJ.s9 (h.appA hr9 hg9))
   refine inv_cons (o:=?ow5_19) ?ho5_19 (fun K hK=>?hst5_19) ?hmore5_19
   case ho5_19=>simp only[jd,jb,jc];rfl
   case hst5_19 =>
    go_simp
    exact hK.out _ _ (mulJ.s11 (h.box))
   exact inv_nil
  | s6 h =>
   refine inv_ready (rs:=[4,9]) (by kernel_rfl) (by simp) ?_
   refine inv_cons (o:=?ow6_4) ?ho6_4 (fun K hK=>?hst6_4) ?hmore6_4
   case ho6_4=>simp only[jd,jb,jc];rfl
   case hst6_4 =>
    have eq:=h.a42 rfl rfl
    subst eq
    have hr0:=h.a rfl
    have hsz:=h.ext.size
    refine step_append_opt (by rfl) _ _ _ (by rfl) w1.heap.size 49 j0 (.agg #[.bool false,.string ⟨#[]⟩,.slice none 0 0]) 3 48 Tryz.underlying43 HJ0.out.1 HJ0.out.2.1 HJ0.out.2.2.1 HJ0.out.2.2.2 rfl (by omega) _ 0 [] (by rfl) hr0 A1 n1 d1 us1 (by rfl) l1 (fun j u hu=>let ⟨ad,ea,hc⟩:=r1 j u hu;⟨ad,ea,h.ext.cell hc⟩) o1 (by simp only[maxLen];omega) (by omega) hsz ?_
    intro v9 W9 hr9 hg9 hl9
    (try simp only[Act.put,jf,jh,ji])
    exact hK.out _ _ (mulJ.s10 (h.appA hr9 hg9))
   refine inv_cons (o:=?ow6_9) ?ho6_9 (fun K hK=>?hst6_9) ?hmore6_9
   case ho6_9=>simp only[jd,jb,jc];rfl
   case hst6_9 =>
    go_simp
    exact hK.out _ _ (mulJ.s11 (h.mkC))
   exact inv_nil
  | s7 h =>
   refine inv_ready (rs:=[0]) (by kernel_rfl) (by simp) ?_
   refine inv_cons (o:=?ow7_0) ?ho7_0 (fun K hK=>?hst7_0) ?hmore7_0
   case ho7_0=>simp only[jd,jb,jc];rfl
   case hst7_0 =>
    go_simp
    exact hK.out _ _ (mulJ.s11 (h.mkA))
   exact inv_nil
  | s8 h =>
   refine inv_ready (rs:=[9,19]) (by kernel_rfl) (by simp) ?_
   refine inv_cons (o:=?ow8_9) ?ho8_9 (fun K hK=>?hst8_9) ?hmore8_9
   case ho8_9=>simp only[jd,jb,jc];rfl
   case hst8_9 =>
    go_simp
    exact hK.out _ _ (mulJ.s12 (h.mkC))
   refine inv_cons (o:=?ow8_19) ?ho8_19 (fun K hK=>?hst8_19) ?hmore8_19
   case ho8_19=>simp only[jd,jb,jc];rfl
   case hst8_19 =>
    go_simp
    exact hK.out _ _ (mulJ.s13 (h.box))
   exact inv_nil
  | s9 h =>
   refine inv_ready (rs:=[8,19]) (by kernel_rfl) (by simp) ?_
   refine inv_cons (o:=?ow9_8) ?ho9_8 (fun K hK=>?hst9_8) ?hmore9_8
   case ho9_8=>simp only[jd,jb,jc];rfl
   case hst9_8 =>
    have eq:=h.a46 rfl rfl
    subst eq
    have hr0:=h.a rfl
    have hsz:=h.ext.size
    refine step_append_opt (by rfl) _ _ _ (by rfl) w1.heap.size 49 j0 (.agg #[.bool false,.string ⟨#[]⟩,.slice none 0 0]) 3 48 Tryz.underlying43 HJ0.out.1 HJ0.out.2.1 HJ0.out.2.2.1 HJ0.out.2.2.2 rfl (by omega) _ n1 us1 (by rfl) hr0 A2 n2 d2 us2 (by rfl) l2 (fun j u hu=>let ⟨ad,ea,hc⟩:=r2 j u hu;⟨ad,ea,h.ext.cell hc⟩) o2 (by simp only[maxLen];omega) (by omega) hsz ?_
    intro v9 W9 hr9 hg9 hl9
    (try simp only[Act.put,jf,jh,ji])
    exact hK.out _ _ (mulJ.s12 (h.appA2 hr9 hg9))
   refine inv_cons (o:=?ow9_19) ?ho9_19 (fun K hK=>?hst9_19) ?hmore9_19
   case ho9_19=>simp only[jd,jb,jc];rfl
   case hst9_19 =>
    go_simp
    exact hK.out _ _ (mulJ.s14 (h.box))
   exact inv_nil
  | s10 h =>
   refine inv_ready (rs:=[8,9]) (by kernel_rfl) (by simp) ?_
   refine inv_cons (o:=?ow10_8) ?ho10_8 (fun K hK=>?hst10_8) ?hmore10_8
   case ho10_8=>simp only[jd,jb,jc];rfl
   case hst10_8 =>
    have eq:=h.a46 rfl rfl
    subst eq
    have hr0:=h.a rfl
    have hsz:=h.ext.size
    refine step_append_opt (by rfl) _ _ _ (by rfl) w1.heap.size 49 j0 (.agg #[.bool false,.string ⟨#[]⟩,.slice none 0 0]) 3 48 Tryz.underlying43 HJ0.out.1 HJ0.out.2.1 HJ0.out.2.2.1 HJ0.out.2.2.2 rfl (by omega) _ n1 us1 (by rfl) hr0 A2 n2 d2 us2 (by rfl) l2 (fun j u hu=>let ⟨ad,ea,hc⟩:=r2 j u hu;⟨ad,ea,h.ext.cell hc⟩) o2 (by simp only[maxLen];omega) (by omega) hsz ?_
    intro v9 W9 hr9 hg9 hl9
    (try simp only[Act.put,jf,jh,ji])
    exact hK.out _ _ (mulJ.s13 (h.appA2 hr9 hg9))
   refine inv_cons (o:=?ow10_9) ?ho10_9 (fun K hK=>?hst10_9) ?hmore10_9
   case ho10_9=>simp only[jd,jb,jc];rfl
   case hst10_9 =>
    go_simp
    exact hK.out _ _ (mulJ.s14 (h.mkC))
   exact inv_nil
  | s11 h =>
   refine inv_ready (rs:=[4]) (by kernel_rfl) (by simp) ?_
   refine inv_cons (o:=?ow11_4) ?ho11_4 (fun K hK=>?hst11_4) ?hmore11_4
   case ho11_4=>simp only[jd,jb,jc];rfl
   case hst11_4 =>
    have eq:=h.a42 rfl rfl
    subst eq
    have hr0:=h.a rfl
    have hsz:=h.ext.size
    refine step_append_opt (by rfl) _ _ _ (by rfl) w1.heap.size 49 j0 (.agg #[.bool false,.string ⟨#[]⟩,.slice none 0 0]) 3 48 Tryz.underlying43 HJ0.out.1 HJ0.out.2.1 HJ0.out.2.2.1 HJ0.out.2.2.2 rfl (by omega) _ 0 [] (by rfl) hr0 A1 n1 d1 us1 (by rfl) l1 (fun j u hu=>let ⟨ad,ea,hc⟩:=r1 j u hu;⟨ad,ea,h.ext.cell hc⟩) o1 (by simp only[maxLen];omega) (by omega) hsz ?_
    intro v9 W9 hr9 hg9 hl9
    (try simp only[Act.put,jf,jh,ji])
    exact hK.out _ _ (mulJ.s14 (h.appA hr9 hg9))
   exact inv_nil
  | s12 h =>
   refine inv_ready (rs:=[13,19]) (by kernel_rfl) (by simp) ?_
   refine inv_cons (o:=?ow12_13) ?ho12_13 (fun K hK=>?hst12_13) ?hmore12_13
   case ho12_13=>simp only[jd,jb,jc];rfl
   case hst12_13 =>
    have eq:=h.c51 rfl rfl
    subst eq
    have hr0:=h.c rfl
    have hsz:=h.ext.size
    refine step_append_opt (by rfl) _ _ _ (by rfl) w1.heap.size 53 j1 (.agg #[.string ⟨#[]⟩,.int .i64 0,.int .i64 0,.int .i64 0,.string ⟨#[]⟩]) 5 56 Tryz.underlying44 HJ1.out.1 HJ1.out.2.1 HJ1.out.2.2.1 HJ1.out.2.2.2 rfl (by omega) _ 0 [] (by rfl) hr0 C1 m1 e1 ws1 (by rfl) l3 (fun j u hu=>let ⟨ad,ea,hc⟩:=r3 j u hu;⟨ad,ea,h.ext.cell hc⟩) o3 (by simp only[maxLen];omega) (by omega) hsz ?_
    intro v9 W9 hr9 hg9 hl9
    (try simp only[Act.put,jf,jh,ji])
    exact hK.out _ _ (mulJ.s15 (h.appC hr9 hg9))
   refine inv_cons (o:=?ow12_19) ?ho12_19 (fun K hK=>?hst12_19) ?hmore12_19
   case ho12_19=>simp only[jd,jb,jc];rfl
   case hst12_19 =>
    go_simp
    exact hK.out _ _ (mulJ.s16 (h.box))
   exact inv_nil
  | s13 h =>
   refine inv_ready (rs:=[9]) (by kernel_rfl) (by simp) ?_
   refine inv_cons (o:=?ow13_9) ?ho13_9 (fun K hK=>?hst13_9) ?hmore13_9
   case ho13_9=>simp only[jd,jb,jc];rfl
   case hst13_9 =>
    go_simp
    exact hK.out _ _ (mulJ.s16 (h.mkC))
   exact inv_nil
  | s14 h =>
   refine inv_ready (rs:=[8]) (by kernel_rfl) (by simp) ?_
   refine inv_cons (o:=?ow14_8) ?ho14_8 (fun K hK=>?hst14_8) ?hmore14_8
   case ho14_8=>simp only[jd,jb,jc];rfl
   case hst14_8 =>
    have eq:=h.a46 rfl rfl
    subst eq
    have hr0:=h.a rfl
    have hsz:=h.ext.size
    refine step_append_opt (by rfl) _ _ _ (by rfl) w1.heap.size 49 j0 (.agg #[.bool false,.string ⟨#[]⟩,.slice none 0 0]) 3 48 Tryz.underlying43 HJ0.out.1 HJ0.out.2.1 HJ0.out.2.2.1 HJ0.out.2.2.2 rfl (by omega) _ n1 us1 (by rfl) hr0 A2 n2 d2 us2 (by rfl) l2 (fun j u hu=>let ⟨ad,ea,hc⟩:=r2 j u hu;⟨ad,ea,h.ext.cell hc⟩) o2 (by simp only[maxLen];omega) (by omega) hsz ?_
    intro v9 W9 hr9 hg9 hl9
    (try simp only[Act.put,jf,jh,ji])
    exact hK.out _ _ (mulJ.s16 (h.appA2 hr9 hg9))
   exact inv_nil
  | s15 h =>
   refine inv_ready (rs:=[17,19]) (by kernel_rfl) (by simp) ?_
   refine inv_cons (o:=?ow15_17) ?ho15_17 (fun K hK=>?hst15_17) ?hmore15_17
   case ho15_17=>simp only[jd,jb,jc];rfl
   case hst15_17 =>
    have eq:=h.c55 rfl rfl
    subst eq
    have hr0:=h.c rfl
    have hsz:=h.ext.size
    refine step_append_opt (by rfl) _ _ _ (by rfl) w1.heap.size 53 j1 (.agg #[.string ⟨#[]⟩,.int .i64 0,.int .i64 0,.int .i64 0,.string ⟨#[]⟩]) 5 56 Tryz.underlying44 HJ1.out.1 HJ1.out.2.1 HJ1.out.2.2.1 HJ1.out.2.2.2 rfl (by omega) _ m1 ws1 (by rfl) hr0 C2 m2 e2 ws2 (by rfl) l4 (fun j u hu=>let ⟨ad,ea,hc⟩:=r4 j u hu;⟨ad,ea,h.ext.cell hc⟩) o4 (by simp only[maxLen];omega) (by omega) hsz ?_
    intro v9 W9 hr9 hg9 hl9
    (try simp only[Act.put,jf,jh,ji])
    exact hK.out _ _ (mulJ.s17 (h.appC2 hr9 hg9))
   refine inv_cons (o:=?ow15_19) ?ho15_19 (fun K hK=>?hst15_19) ?hmore15_19
   case ho15_19=>simp only[jd,jb,jc];rfl
   case hst15_19 =>
    go_simp
    exact hK.out _ _ (mulJ.s18 (h.box))
   exact inv_nil
  | s16 h =>
   refine inv_ready (rs:=[13]) (by kernel_rfl) (by simp) ?_
   refine inv_cons (o:=?ow16_13) ?ho16_13 (fun K hK=>?hst16_13) ?hmore16_13
   case ho16_13=>simp only[jd,jb,jc];rfl
   case hst16_13 =>
    have eq:=h.c51 rfl rfl
    subst eq
    have hr0:=h.c rfl
    have hsz:=h.ext.size
    refine step_append_opt (by rfl) _ _ _ (by rfl) w1.heap.size 53 j1 (.agg #[.string ⟨#[]⟩,.int .i64 0,.int .i64 0,.int .i64 0,.string ⟨#[]⟩]) 5 56 Tryz.underlying44 HJ1.out.1 HJ1.out.2.1 HJ1.out.2.2.1 HJ1.out.2.2.2 rfl (by omega) _ 0 [] (by rfl) hr0 C1 m1 e1 ws1 (by rfl) l3 (fun j u hu=>let ⟨ad,ea,hc⟩:=r3 j u hu;⟨ad,ea,h.ext.cell hc⟩) o3 (by simp only[maxLen];omega) (by omega) hsz ?_
    intro v9 W9 hr9 hg9 hl9
    (try simp only[Act.put,jf,jh,ji])
    exact hK.out _ _ (mulJ.s18 (h.appC hr9 hg9))
   exact inv_nil
  | s17 h =>
   refine inv_ready (rs:=[18,19]) (by kernel_rfl) (by simp) ?_
   refine inv_cons (o:=?ow17_18) ?ho17_18 (fun K hK=>?hst17_18) ?hmore17_18
   case ho17_18=>simp only[jd,jb,jc];rfl
   case hst17_18 =>
    have e50:=h.a50 rfl
    have e59:=h.c59 rfl
    obtain⟨P1,p1,eA⟩:=own_slice (h.a rfl)
    obtain⟨P2,p2,eC⟩:=own_slice (h.c rfl)
    rw[eA]at e50
    rw[eC]at e59
    have h9:=h.bld
    subst e50 e59
    go_simp
    exact hK.out _ _ (mulJ.s19 (h9))
   refine inv_cons (o:=?ow17_19) ?ho17_19 (fun K hK=>?hst17_19) ?hmore17_19
   case ho17_19=>simp only[jd,jb,jc];rfl
   case hst17_19 =>
    go_simp
    exact hK.out _ _ (mulJ.s20 (h.box))
   exact inv_nil
  | s18 h =>
   refine inv_ready (rs:=[17]) (by kernel_rfl) (by simp) ?_
   refine inv_cons (o:=?ow18_17) ?ho18_17 (fun K hK=>?hst18_17) ?hmore18_17
   case ho18_17=>simp only[jd,jb,jc];rfl
   case hst18_17 =>
    have eq:=h.c55 rfl rfl
    subst eq
    have hr0:=h.c rfl
    have hsz:=h.ext.size
    refine step_append_opt (by rfl) _ _ _ (by rfl) w1.heap.size 53 j1 (.agg #[.string ⟨#[]⟩,.int .i64 0,.int .i64 0,.int .i64 0,.string ⟨#[]⟩]) 5 56 Tryz.underlying44 HJ1.out.1 HJ1.out.2.1 HJ1.out.2.2.1 HJ1.out.2.2.2 rfl (by omega) _ m1 ws1 (by rfl) hr0 C2 m2 e2 ws2 (by rfl) l4 (fun j u hu=>let ⟨ad,ea,hc⟩:=r4 j u hu;⟨ad,ea,h.ext.cell hc⟩) o4 (by simp only[maxLen];omega) (by omega) hsz ?_
    intro v9 W9 hr9 hg9 hl9
    (try simp only[Act.put,jf,jh,ji])
    exact hK.out _ _ (mulJ.s20 (h.appC2 hr9 hg9))
   exact inv_nil
  | s19 h =>
   refine inv_ready (rs:=[19]) (by kernel_rfl) (by simp) ?_
   refine inv_cons (o:=?ow19_19) ?ho19_19 (fun K hK=>?hst19_19) ?hmore19_19
   case ho19_19=>simp only[jd,jb,jc];rfl
   case hst19_19 =>
    go_simp
    exact hK.out _ _ (mulJ.s21 (h.box))
   exact inv_nil
  | s20 h =>
   refine inv_ready (rs:=[18]) (by kernel_rfl) (by simp) ?_
   refine inv_cons (o:=?ow20_18) ?ho20_18 (fun K hK=>?hst20_18) ?hmore20_18
   case ho20_18=>simp only[jd,jb,jc];rfl
   case hst20_18 =>
    have e50:=h.a50 rfl
    have e59:=h.c59 rfl
    obtain⟨P1,p1,eA⟩:=own_slice (h.a rfl)
    obtain⟨P2,p2,eC⟩:=own_slice (h.c rfl)
    rw[eA]at e50
    rw[eC]at e59
    have h9:=h.bld
    subst e50 e59
    go_simp
    exact hK.out _ _ (mulJ.s21 (h9))
   exact inv_nil
  | s21 h =>
   refine inv_ready (rs:=[20]) (by kernel_rfl) (by simp) ?_
   refine inv_cons (o:=?ow21_20) ?ho21_20 (fun K hK=>?hst21_20) ?hmore21_20
   case ho21_20=>simp only[jd,jb,jc];rfl
   case hst21_20 =>
    have e60:=h.x60 rfl
    obtain⟨e10,-,x,y,hb,-⟩:=h.x10 rfl
    subst e60 e10
    obtain⟨P1,p1,rfl⟩:=own_slice (h.a rfl)
    obtain⟨P2,p2,rfl⟩:=own_slice (h.c rfl)
    have k0:=hb.cell (i:=0) (by simp);have k1:=hb.cell (i:=1) (by simp);have k2:=hb.free 0;have k3:=hb.free 1
    simp only[ja,je]at k0 k1
    have h9:=h.store
    clear hb h
    go_simp
    exact hK.out _ _ (mulJ.s22 (h9))
   exact inv_nil
noncomputable def muvRg:Code:=((Tryz.f5.body.bind (findRegion 7)).getD .skip)
inductive muvJ(w1:World)(l1 l2:List ByteArray)(Fz:Value→Value→Value→Value→ Act):Nat→Array Bool→Act→World→Prop
 | s0 {t11 t12 t72 t75:Value} {W:World} (h:MuvI w1 l1 l2 false false false false t11 t12 t72 t75 W):muvJ w1 l1 l2 Fz 4 #[true,true,false,true,true,false,false,false] (Fz t11 t12 t72 t75) W
 | s1 {t11 t12 t72 t75:Value} {W:World} (h:MuvI w1 l1 l2 true false false false t11 t12 t72 t75 W):muvJ w1 l1 l2 Fz 3 #[true,true,true,true,true,false,false,false] (Fz t11 t12 t72 t75) W
 | s2 {t11 t12 t72 t75:Value} {W:World} (h:MuvI w1 l1 l2 true true false false t11 t12 t72 t75 W):muvJ w1 l1 l2 Fz 2 #[true,true,true,true,true,true,false,false] (Fz t11 t12 t72 t75) W
 | s3 {t11 t12 t72 t75:Value} {W:World} (h:MuvI w1 l1 l2 true true true false t11 t12 t72 t75 W):muvJ w1 l1 l2 Fz 1 #[true,true,true,true,true,true,true,false] (Fz t11 t12 t72 t75) W
 | s4 {t11 t12 t72 t75:Value} {W:World} (h:MuvI w1 l1 l2 true true true true t11 t12 t72 t75 W):muvJ w1 l1 l2 Fz 0 #[true,true,true,true,true,true,true,true] (Fz t11 t12 t72 t75) W
set_option maxRecDepth 20000 in
set_option maxHeartbeats 3200000 in
theorem muv_reg{K:Act→World→Prop}{Q:Exit→Act→World→Prop}{w1:World}{n1 n2 m1 m2 d1 d2 e1 e2 g5:Nat}{l1 l2:List ByteArray}{A1 A2 C1 C2:Option Addr}{u0 u1 u2 u3 u4 u6 u7 u8 u9 u10 u13 u14 u15 u16 u17 u18 u19 u20 u21 u22 u23 u24 u25 u26 u27 u28 u29 u30 u31 u32 u33 u34 u35 u36 u37 u38 u39 u40 u41 u42 u43 u44 u45 u46 u47 u48 u49 u50 u51 u52 u53 u54 u55 u56 u57 u58 u59 u60 u61 u62 u63 u64 u65 u66 u67 u68 u69 u76 u77 u78 u79 u80 u81 u82 u83 u84 u85 u86 u87 u88 u89 u90 u91 u92 u93 u94 u95 u96 u97 u98 u99 u100 u101 u102 u103 u104 u105 u106 u107 u108 u109 u110 u111 u112 u113 u114 u115 u116 u117 u118 u119 u120 u121 u122 u123 u124 u125 u126 u127 u128 u129 u130 u131 u132 u133 u134 u135 x11 x12 x72 x75 z70 z71 z73 z74:Value}(b0:w1.cell? ⟨g5,0,none⟩=some (.slice A1 n1 d1))(b1:w1.cell? ⟨g5,1,none⟩=some (.slice C1 m1 e1))(b2:w1.cell? ⟨g5,2,none⟩=some (.slice A2 n2 d2))(b3:w1.cell? ⟨g5,3,none⟩=some (.slice C2 m2 e2))(HV1:Hid (∀V,Ext w1 V→Calls Tryz.prog 18 #[.agg #[.slice A1 n1 d1,.slice C1 m1 e1]] V (fun e W=>Ext V W∧∃v,e=.returned v∧Strs (fun _=>True) W v l1)))(HV2:Hid (∀V,Ext w1 V→Calls Tryz.prog 18 #[.agg #[.slice A2 n2 d2,.slice C2 m2 e2]] V (fun e W=>Ext V W∧∃v,e=.returned v∧Strs (fun _=>True) W v l2)))(hK:∀t11 t12 t72 t75 W,Ext w1 W→Strs (fun _=>True) W t11 l1→Strs (fun _=>True) W t12 l2→K ⟨#[u0,u1,u2,u3,u4,.pointer (some ⟨g5,0,none⟩),u6,u7,u8,u9,u10,t11,t12,u13,u14,u15,u16,u17,u18,u19,u20,u21,u22,u23,u24,u25,u26,u27,u28,u29,u30,u31,u32,u33,u34,u35,u36,u37,u38,u39,u40,u41,u42,u43,u44,u45,u46,u47,u48,u49,u50,u51,u52,u53,u54,u55,u56,u57,u58,u59,u60,u61,u62,u63,u64,u65,u66,u67,u68,u69,.pointer (some ⟨g5,0,none⟩),.agg #[.slice A1 n1 d1,.slice C1 m1 e1],t72,.pointer (some ⟨g5,2,none⟩),.agg #[.slice A2 n2 d2,.slice C2 m2 e2],t75,u76,u77,u78,u79,u80,u81,u82,u83,u84,u85,u86,u87,u88,u89,u90,u91,u92,u93,u94,u95,u96,u97,u98,u99,u100,u101,u102,u103,u104,u105,u106,u107,u108,u109,u110,u111,u112,u113,u114,u115,u116,u117,u118,u119,u120,u121,u122,u123,u124,u125,u126,u127,u128,u129,u130,u131,u132,u133,u134,u135],[]⟩ W) :
  Code.wp Tryz.prog muvRg (Exit.then K Q) ⟨#[u0,u1,u2,u3,u4,.pointer (some ⟨g5,0,none⟩),u6,u7,u8,u9,u10,x11,x12,u13,u14,u15,u16,u17,u18,u19,u20,u21,u22,u23,u24,u25,u26,u27,u28,u29,u30,u31,u32,u33,u34,u35,u36,u37,u38,u39,u40,u41,u42,u43,u44,u45,u46,u47,u48,u49,u50,u51,u52,u53,u54,u55,u56,u57,u58,u59,u60,u61,u62,u63,u64,u65,u66,u67,u68,u69,z70,z71,x72,z73,z74,x75,u76,u77,u78,u79,u80,u81,u82,u83,u84,u85,u86,u87,u88,u89,u90,u91,u92,u93,u94,u95,u96,u97,u98,u99,u100,u101,u102,u103,u104,u105,u106,u107,u108,u109,u110,u111,u112,u113,u114,u115,u116,u117,u118,u119,u120,u121,u122,u123,u124,u125,u126,u127,u128,u129,u130,u131,u132,u133,u134,u135],[]⟩ w1:=by
 have HK:=zO hK
 clear hK
 conv=>arg 2;whnf
 refine wp_only ?_
 refine wp_region_held_drew (S:=fun V=>Ext w1 V) (by kernel_rfl) (Ext.refl w1).drew (fun hHeld=>?_)
 refine wpAnyH_take (i:=0) (oi:=?ox0) (v:=.pointer (some ⟨g5,0,none⟩)) ?hx0 (by kernel_rfl) (by kernel_rfl) (by kernel_rfl) (fun _ _ _ h=>h) (Or.inl ⟨?wx0,?yx0⟩) hHeld ?rx0
 case hx0=>simp only[jd,jb,jc];rfl
 case wx0=>rfl
 case yx0 =>
  intro V hSw

  simp[go_sem] <;> with_reducible rfl
 (try simp only[Act.put,jf,jh,ji])
 refine wpAnyH_take (i:=1) (oi:=?ox1) (v:=.agg #[.slice A1 n1 d1,.slice C1 m1 e1]) ?hx1 (by kernel_rfl) (by kernel_rfl) (by kernel_rfl) (fun _ _ _ h=>h) (Or.inl ⟨?wx1,?yx1⟩) hHeld ?rx1
 case hx1=>simp only[jd,jb,jc];rfl
 case wx1=>rfl
 case yx1 =>
  intro V hSw
  have q0:=Ext.cell hSw b0
  have q1:=Ext.cell hSw b1
  simp[go_sem,q0,q1] <;> with_reducible rfl
 (try simp only[Act.put,jf,jh,ji])
 refine wpAnyH_take (i:=3) (oi:=?ox3) (v:=.pointer (some ⟨g5,2,none⟩)) ?hx3 (by kernel_rfl) (by kernel_rfl) (by kernel_rfl) (fun _ _ _ h=>h) (Or.inl ⟨?wx3,?yx3⟩) hHeld ?rx3
 case hx3=>simp only[jd,jb,jc];rfl
 case wx3=>rfl
 case yx3 =>
  intro V hSw

  simp[go_sem] <;> with_reducible rfl
 (try simp only[Act.put,jf,jh,ji])
 refine wpAnyH_take (i:=4) (oi:=?ox4) (v:=.agg #[.slice A2 n2 d2,.slice C2 m2 e2]) ?hx4 (by kernel_rfl) (by kernel_rfl) (by kernel_rfl) (fun _ _ _ h=>h) (Or.inl ⟨?wx4,?yx4⟩) hHeld ?rx4
 case hx4=>simp only[jd,jb,jc];rfl
 case wx4=>rfl
 case yx4 =>
  intro V hSw
  have q0:=Ext.cell hSw b2
  have q1:=Ext.cell hSw b3
  simp[go_sem,q0,q1] <;> with_reducible rfl
 (try simp only[Act.put,jf,jh,ji])
 clear b0 b1 b2 b3
 refine inv_any (I:=muvJ w1 l1 l2 (fun t11 t12 t72 t75=>⟨#[u0,u1,u2,u3,u4,.pointer (some ⟨g5,0,none⟩),u6,u7,u8,u9,u10,t11,t12,u13,u14,u15,u16,u17,u18,u19,u20,u21,u22,u23,u24,u25,u26,u27,u28,u29,u30,u31,u32,u33,u34,u35,u36,u37,u38,u39,u40,u41,u42,u43,u44,u45,u46,u47,u48,u49,u50,u51,u52,u53,u54,u55,u56,u57,u58,u59,u60,u61,u62,u63,u64,u65,u66,u67,u68,u69,.pointer (some ⟨g5,0,none⟩),.agg #[.slice A1 n1 d1,.slice C1 m1 e1],t72,.pointer (some ⟨g5,2,none⟩),.agg #[.slice A2 n2 d2,.slice C2 m2 e2],t75,u76,u77,u78,u79,u80,u81,u82,u83,u84,u85,u86,u87,u88,u89,u90,u91,u92,u93,u94,u95,u96,u97,u98,u99,u100,u101,u102,u103,u104,u105,u106,u107,u108,u109,u110,u111,u112,u113,u114,u115,u116,u117,u118,u119,u120,u121,u122,u123,u124,u125,u126,u127,u128,u129,u130,u131,u132,u133,u134,u135],[]⟩)) ?hS ?h0 ?h1 _ _ _ _ ?st
 case hS =>
  intro n l act W hI
  cases hI with
  | s0 h=>exact h.ext
  | s1 h=>exact h.ext
  | s2 h=>exact h.ext
  | s3 h=>exact h.ext
  | s4 h=>exact h.ext
 case st=>exact muvJ.s0 MuvI.start
 case h0 =>
  intro l act W hI
  cases hI with
  | s4 h =>
   refine⟨by kernel_rfl,?_⟩
   have e1:=h.e1 rfl
   have e2:=h.e2 rfl
   exact HK.out _ _ _ _ _ h.ext (by rw[e1];exact h.v1 rfl) (by rw[e2];exact h.v2 rfl)
 case h1 =>
  intro m l act W hI
  cases hI with
  | s0 h =>
   refine inv_ready (rs:=[2]) (by kernel_rfl) (by simp) ?_
   refine inv_cons (o:=?ow0_2) ?ho0_2 (fun K hK=>?hst0_2) ?hmore0_2
   case ho0_2=>simp only[jd,jb,jc];rfl
   case hst0_2 =>
    have hx:=h.ext
    go_simp
    go_at_call 18
    (with_reducible refine(HV1.out _ hx).mono ?_)
    rintro e W2 ⟨he,v,rfl,hs⟩
    (try simp only[Act.put,jf,jh,ji])
    exact hK.out _ _ (muvJ.s1 (h.call1 he hs))
   exact inv_nil
  | s1 h =>
   refine inv_ready (rs:=[5]) (by kernel_rfl) (by simp) ?_
   refine inv_cons (o:=?ow1_5) ?ho1_5 (fun K hK=>?hst1_5) ?hmore1_5
   case ho1_5=>simp only[jd,jb,jc];rfl
   case hst1_5 =>
    have hx:=h.ext
    go_simp
    go_at_call 18
    (with_reducible refine(HV2.out _ hx).mono ?_)
    rintro e W2 ⟨he,v,rfl,hs⟩
    (try simp only[Act.put,jf,jh,ji])
    exact hK.out _ _ (muvJ.s2 (h.call2 he hs))
   exact inv_nil
  | s2 h =>
   refine inv_ready (rs:=[6]) (by kernel_rfl) (by simp) ?_
   refine inv_cons (o:=?ow2_6) ?ho2_6 (fun K hK=>?hst2_6) ?hmore2_6
   case ho2_6=>simp only[jd,jb,jc];rfl
   case hst2_6 =>
    go_simp
    exact hK.out _ _ (muvJ.s3 (h.asg1))
   exact inv_nil
  | s3 h =>
   refine inv_ready (rs:=[7]) (by kernel_rfl) (by simp) ?_
   refine inv_cons (o:=?ow3_7) ?ho3_7 (fun K hK=>?hst3_7) ?hmore3_7
   case ho3_7=>simp only[jd,jb,jc];rfl
   case hst3_7 =>
    go_simp
    exact hK.out _ _ (muvJ.s4 (h.asg2))
   exact inv_nil
