/- packed -/
import Derived.Test.YtplldnnnhgnbjaaGreatDoorMv40
import Derived.Shelf.SlGeneric
import Derived.Shelf.SlMaps.Clone
import Derived.Ground.SlmcProg
import Derived.Test.YtplldnnnhgnbjaaGreatDoorProg
namespace Go.Proofs.YtplldnnnhgnbjaaGreatDoor
open Go.RowKit Go.Maps
structure iX(r:Rl):Prop where
 tm:∀a∈r.ats,a.terms.length≤7
 ps:(bL r).length≤4
 la:r.ats.length≤7
 lc:r.cds.length≤6
 vs:(iW r).length≤6
def NoP(P:Prop)(w:World)(e:Ending)(w':World):Prop:=Ext w w'∧∃z:Bool,e=.returned (.bool z)∧(z=false→P)
theorem mX:∀(l:List At),(∀a∈l,a.terms.length≤7)→(aY l).length≤l.length*7
 | [],_=>by simp[aY]
 | a::l,h=>by
  have h1:=h a (by simp)
  have h2:=mX l (fun b hb=>h b (js _ hb))
  unfold aY at h2 ⊢
  rw[jS,jm,jD,Nat.add_mul]
  omega
set_option maxRecDepth 20000 in
set_option maxHeartbeats 6400000 in
theorem long_any{F G:Nat→Prop}{w:World}{sv vc:Value}{r:Rl}(hA:Ats F w sv r.ats)(hC:Sl eL G w vc r.cds)(hz:RlZ r)(h1:∀a∈r.ats,a.terms.length≤9223372036854775807)(h2:r.cds.length≤9223372036854775807)(h3:r.ats.length≤9223372036854775807) :
  Calls Tryz.prog 17 #[.agg #[sv,vc]] w (NoP (iX r) w):=by
 have sG:=fun (V:World) (hV:Ext w V) (k1:∀a∈r.ats,a.terms.length≤7) (k2:r.ats.length≤7) (k3:r.cds.length≤6)=>vars23 (hA.ext hV) (hC.ext hV) hz (by have:=mX _ k1;omega) (by omega) (by omega)
 obtain⟨Aa,ca,rfl⟩:=hA.sl
 obtain⟨Ac,cc,rfl⟩:=hC.sl
 have kb:=Bk.new w 46 [.slice Aa r.ats.length ca,.slice Ac r.cds.length cc]
 have hx:=(Ext.refl w).alloc (.cells #[.slice Aa r.ats.length ca,.slice Ac r.cds.length cc] 46)
 obtain⟨na,si⟩:=sd r.ats.length
 obtain⟨nc,sj⟩:=sd r.cds.length
 rw[←si,←sj]at kb hx ⊢
 rw[←si]at h3
 rw[←sj]at h2
 have sx:=zN (fun (V:World) (hV:Ext w V) (k1:∀a∈r.ats,a.terms.length≤7) (k2:na≤7) (k3:nc≤6)=>(by have h:=sG V hV k1 (by omega) (by omega);rw[←si,←sj]at h;exact h:Calls Tryz.prog 18 #[.agg #[.slice Aa na ca,.slice Ac nc cc]] V (Ret (fun x w'=>w'.ownsRow V.heap.size 9 1 x (iW r).length ((iW r).map Sv)) V)))
 have se:Hid (∀V,Ext w V→NoP (iX r) w (.returned (.bool true)) V):=zN (fun V hV=>⟨hV,true,rfl,fun h=>by cases h⟩)
 have sF:Hid (∀V,Ext w V→(∀a∈r.ats,a.terms.length≤7)→(bL r).length≤4→na≤7→nc≤6→(iW r).length≤6→NoP (iX r) w (.returned (.bool false)) V):=zN (fun V hV k1 k2 k3 k4 k5=>⟨hV,false,rfl,fun _=>⟨k1,k2,by omega,by omega,k5⟩⟩)
 obtain⟨PP,sI⟩:=sd (NoP (iX r) w)
 rw[←sI]at se sF ⊢
 have HA:=zN hA;have sr:=zN si;have sW:=zN sj;have sO:=zN h1
 clear hA hC hz si sj h1 sG sI
 go_enter Tryz.func17,Tryz.ntmps17
 go_upto_region 1 with fail
 change Bk (w.alloc (.cells #[.slice Aa na ca,.slice Ac nc cc] 46)) _ _ _ at kb
 generalize (w.alloc (.cells #[.slice Aa na ca,.slice Ac nc cc] 46))=w1 at *
 have sq:=zN kb;have HX:=zN hx
 obtain⟨gb,sK⟩:=sd w.heap.size
 rw[←sK]at sq ⊢
 clear kb hx sK
 obtain⟨_,_,e,-,sJ⟩:=HA.out.at'
 injection e with e1 e2 e3
 subst e1
 have sM:=zN sJ
 clear sJ e2 e3
 go_wp2_with fail
 go_loopw [3,4] (fun v t wr=>∃(i k:Nat),i≤na∧k≤i∧t=.int .i64 (i:Int)∧v=.int .i64 (k:Int)∧Hid (k=((r.ats.take i).filter (fun a=>!a.neg)).length)∧Hid (∀a∈r.ats.take i,a.terms.length≤7)∧Hid (Ext w1 wr)) (fun _ t _=>na-(intOf t).toNat)
 case atStart=>exact⟨0,0,jn _,jo _,rfl,rfl,zN rfl,zN (by simp),zN (Ext.refl _)⟩
 case round =>
  obtain⟨i,k,hi,sY,rfl,rfl,HK,HT,HE⟩:=hrel
  obtain⟨W,rfl⟩:∃W:World,W=wr:=⟨_,rfl⟩
  have b0:=(sq.out.ext HE.out).c0;have b1:=(sq.out.ext HE.out).c1
  by_cases hlt:i<na
  ·have i1:(0:Int)≤(i:Int):=by omega
   have i2:(i:Int)<(na:Int):=by omega
   have sp:i<r.ats.length:=by have:=sr.out;omega
   obtain⟨ad,B,d,rfl,-,c0,-,c2,hd,sV⟩:=sM.out i sp
   replace c0:=HE.out.cell (HX.out.cell c0);replace c2:=HE.out.cell (HX.out.cell c2)
   have sL:=sO.out _ (jf sp)
   have sD:r.ats.take (i+1)=r.ats.take i++[r.ats[i]]:=jj sp
   obtain⟨a,ha⟩:=sd (r.ats[i])
   rw[←ha]at c0 c2 sL sD
   obtain⟨nt,sB⟩:=sd a.terms.length
   obtain⟨ng,sA⟩:=sd a.neg
   rw[←sB]at c2 sL
   rw[←sA]at c0
   have sw:=zN sD;have sN:=zN sB;have sE:=zN sA
   clear hd sV sD sB sA ha sp
   by_cases h7:nt≤7
   ·have sU:¬(7:Int)<(nt:Int):=by omega
    have sh:Hid (∀a∈r.ats.take (i+1),a.terms.length≤7):=zN (by
     rw[sw.out]
     intro b hb
     rcases ju.1 hb with hb|hb
     ·exact HT.out b hb
     ·rw[jq]at hb
      rw[hb,←sN.out]
      exact h7)
    rcases ng with _|_
    ·have sg:Hid (k+1=((r.ats.take (i+1)).filter (fun a=>!a.neg)).length):=zN (by
      rw[sw.out,jK,jm,←HK.out,List.filter_cons,←sE.out]
      rfl)
     go_wp2_with fail
     go_roundw
     case rel=>exact⟨i+1,k+1,by omega,by omega,by go_num,by go_num,sg,sh,HE⟩
     case measure=>simp[intOf];omega
    ·have sg:Hid (k=((r.ats.take (i+1)).filter (fun a=>!a.neg)).length):=zN (by
      rw[sw.out,jK,jm,←HK.out,List.filter_cons,←sE.out]
      rfl)
     go_wp2_with fail
     go_roundw
     case rel=>exact⟨i+1,k,by omega,by omega,by go_num,rfl,sg,sh,HE⟩
     case measure=>simp[intOf];omega
   ·have sU:(7:Int)<(nt:Int):=by omega
    have HP:=zN (se.out W (HX.out.trans HE.out))
    go_wp2_with fail
    exact HP.out
  ·obtain rfl:i=na:=by omega
   have sX:¬(i:Int)<(i:Int):=by omega
   have sh:Hid (∀a∈r.ats,a.terms.length≤7):=zN (by
    have h:=HT.out
    rw[jp (by have:=sr.out;omega)]at h
    exact h)
   have sg:Hid (k=(bL r).length):=zN (by
    have h:=HK.out
    rw[jp (by have:=sr.out;omega)]at h
    exact h)
   have HP:=zN (se.out W (HX.out.trans HE.out))
   by_cases g1:k≤4
   ·have sQ:¬(4:Int)<(k:Int):=by omega
    by_cases g2:i≤7
    ·have sR:¬(7:Int)<(i:Int):=by omega
     by_cases g3:nc≤6
     ·have sS:¬(6:Int)<(nc:Int):=by omega
      have sP:=zN (sx.out W (HX.out.trans HE.out) sh.out g2 g3)
      go_wp2_with fail
      refine sP.out.mono ?_
      rintro e w3 ⟨v,rfl,sy,hv⟩
      obtain⟨A3,c3,rfl⟩:=af hv
      obtain⟨nv,sC⟩:=sd ((iW r).length)
      rw[←sC]
      have sH:=zN (HX.out.trans (HE.out.trans sy))
      by_cases g4:nv≤6
      ·have sT:¬(6:Int)<(nv:Int):=by omega
       have su:=zN (sF.out w3 sH.out sh.out (by rw[←sg.out];exact g1) g2 g3 (by omega))
       clear hv sy sC b0 b1
       go_wp2_with fail
       show PP (.returned (.bool (decide ((6:Int)<(nv:Int))))) w3
       rw[decide_eq_false (by omega)]
       exact su.out
      ·have sT:(6:Int)<(nv:Int):=by omega
       have su:=zN (se.out w3 sH.out)
       clear hv sy sC b0 b1
       go_wp2_with fail
       exact su.out
     ·have sS:(6:Int)<(nc:Int):=by omega
      go_wp2_with fail
      exact HP.out
    ·have sR:(7:Int)<(i:Int):=by omega
     go_wp2_with fail
     exact HP.out
   ·have sQ:(4:Int)<(k:Int):=by omega
    go_wp2_with fail
    exact HP.out
end Go.Proofs.YtplldnnnhgnbjaaGreatDoor
namespace Go.Proofs
open Go.Shelf
def Tryz.layMapClone_ren:Go.Shelf.Ren:=⟨fun|5=>86|7=>161|n=>n,fun|23=>31|25=>9|3=>181|4=>4|20=>20|n=>n,fun|n=>n⟩
theorem Tryz.layMapClone:Go.Proofs.SlLaysW.n5 Tryz.prog Tryz.layMapClone_ren:={
 mixed:=by kernel_rfl
 f5:=⟨Tryz.f86.name,by decide,Tryz.func86.trans (congrArg some (by kernel_rfl))⟩
 f7:=Tryz.func161.trans (congrArg some (by kernel_rfl))
 t4:=Tryz.underlying4
 a4:=Tryz.isAgg4
 z4:=Tryz.sizeOf4
 v4:=Tryz.zeroValue4
 t20:=Tryz.underlying20
 a20:=Tryz.isAgg20
 z20:=Tryz.sizeOf20
 v20:=Tryz.zeroValue20
 t23:=Tryz.underlying31
 a23:=Tryz.isAgg31
 z23:=Tryz.sizeOf31
 v23:=Tryz.zeroValue31 }
end Go.Proofs
