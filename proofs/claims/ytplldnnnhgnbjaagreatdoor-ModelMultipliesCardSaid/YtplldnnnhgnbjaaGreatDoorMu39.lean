/- packed -/
import Derived.Test.YtplldnnnhgnbjaaGreatDoorMu38
import Derived.Shelf.SlGeneric
import Derived.Shelf.SlMaps.Clone
import Derived.Ground.SlmcProg
import Derived.Test.YtplldnnnhgnbjaaGreatDoorProg
namespace Go.Proofs.YtplldnnnhgnbjaaGreatDoor
open Go.RowKit Go.Maps
structure ShortR(r:Rl):Prop where
 tm:∀a∈r.ats,a.terms.length≤7
 ps:(posL r).length≤4
 la:r.ats.length≤7
 lc:r.cds.length≤6
 vs:(varsR r).length≤6
def NoP(P:Prop)(w:World)(e:Ending)(w':World):Prop:=Ext w w'∧∃z:Bool,e=.returned (.bool z)∧(z=false→P)
theorem allT_seven:∀(l:List At),(∀a∈l,a.terms.length≤7)→(allT l).length≤l.length*7
 | [],_=>by simp[allT]
 | a::l,h=>by
  have h1:=h a (by simp)
  have h2:=allT_seven l (fun b hb=>h b (jr _ hb))
  unfold allT at h2 ⊢
  rw[jQ,jl,jD,zN]
  omega
set_option maxRecDepth 20000 in
set_option maxHeartbeats 6400000 in
theorem long_any{F G:Nat→Prop}{w:World}{sv vc:Value}{r:Rl}(hA:Ats F w sv r.ats)(hC:Sl rdCd G w vc r.cds)(hz:RlZ r)(h1:∀a∈r.ats,a.terms.length≤9223372036854775807)(h2:r.cds.length≤9223372036854775807)(h3:r.ats.length≤9223372036854775807) :
  Calls Tryz.prog 17 #[.agg #[sv,vc]] w (NoP (ShortR r) w):=by
 have HVA:=fun (V:World) (hV:Ext w V) (k1:∀a∈r.ats,a.terms.length≤7) (k2:r.ats.length≤7) (k3:r.cds.length≤6)=>vars23 (hA.ext hV) (hC.ext hV) hz (by have:=allT_seven _ k1;omega) (by omega) (by omega)
 obtain⟨Aa,ca,rfl⟩:=hA.sl
 obtain⟨Ac,cc,rfl⟩:=hC.sl
 have kb:=Bk.new w 46 [.slice Aa r.ats.length ca,.slice Ac r.cds.length cc]
 have hx:=(Ext.refl w).alloc (.cells #[.slice Aa r.ats.length ca,.slice Ac r.cds.length cc] 46)
 obtain⟨na,hna⟩:∃n,n=r.ats.length:=⟨_,rfl⟩
 obtain⟨nc,hnc⟩:∃n,n=r.cds.length:=⟨_,rfl⟩
 rw[←hna,←hnc]at kb hx ⊢
 rw[←hna]at h3
 rw[←hnc]at h2
 have HVA2:=zO (fun (V:World) (hV:Ext w V) (k1:∀a∈r.ats,a.terms.length≤7) (k2:na≤7) (k3:nc≤6)=>(by have h:=HVA V hV k1 (by omega) (by omega);rw[←hna,←hnc]at h;exact h:Calls Tryz.prog 18 #[.agg #[.slice Aa na ca,.slice Ac nc cc]] V (Ret (fun x w'=>w'.ownsRow V.heap.size 9 1 x (varsR r).length ((varsR r).map Sv)) V)))
 have HYES:Hid (∀V,Ext w V→NoP (ShortR r) w (.returned (.bool true)) V):=zO (fun V hV=>⟨hV,true,rfl,fun h=>by cases h⟩)
 have HNO:Hid (∀V,Ext w V→(∀a∈r.ats,a.terms.length≤7)→(posL r).length≤4→na≤7→nc≤6→(varsR r).length≤6→NoP (ShortR r) w (.returned (.bool false)) V):=zO (fun V hV k1 k2 k3 k4 k5=>⟨hV,false,rfl,fun _=>⟨k1,k2,by omega,by omega,k5⟩⟩)
 obtain⟨PP,hPP⟩:∃P,P=NoP (ShortR r) w:=⟨_,rfl⟩
 rw[←hPP]at HYES HNO ⊢
 have HA:=zO hA;have HNA:=zO hna;have HNC:=zO hnc;have HTL:=zO h1
 clear hA hC hz hna hnc h1 HVA hPP
 go_enter Tryz.func17,Tryz.ntmps17
 go_upto_region 1 with fail
 change Bk (w.alloc (.cells #[.slice Aa na ca,.slice Ac nc cc] 46)) _ _ _ at kb
 generalize (w.alloc (.cells #[.slice Aa na ca,.slice Ac nc cc] 46))=w1 at *
 have HKB:=zO kb;have HX:=zO hx
 obtain⟨gb,hgb⟩:∃g,g=w.heap.size:=⟨_,rfl⟩
 rw[←hgb]at HKB ⊢
 clear kb hx hgb
 obtain⟨_,_,e,-,hat⟩:=HA.out.at'
 injection e with e1 e2 e3
 subst e1
 have HAT:=zO hat
 clear hat e2 e3
 go_wp2_with fail
 go_loopw [3,4] (fun v t wr=>∃(i k:Nat),i≤na∧k≤i∧t=.int .i64 (i:Int)∧v=.int .i64 (k:Int)∧Hid (k=((r.ats.take i).filter (fun a=>!a.neg)).length)∧Hid (∀a∈r.ats.take i,a.terms.length≤7)∧Hid (Ext w1 wr)) (fun _ t _=>na-(intOf t).toNat)
 case atStart=>exact⟨0,0,jn _,jq _,rfl,rfl,zO rfl,zO (by simp),zO (Ext.refl _)⟩
 case round =>
  obtain⟨i,k,hi,hki,rfl,rfl,HK,HT,HE⟩:=hrel
  obtain⟨W,rfl⟩:∃W:World,W=wr:=⟨_,rfl⟩
  have b0:=(HKB.out.ext HE.out).cell (i:=0) (by simp);have b1:=(HKB.out.ext HE.out).cell (i:=1) (by simp)
  simp only[ja,je]at b0 b1
  by_cases hlt:i<na
  ·have i1:(0:Int)≤(i:Int):=by omega
   have i2:(i:Int)<(na:Int):=by omega
   have hix:i<r.ats.length:=by have:=HNA.out;omega
   obtain⟨ad,B,d,rfl,-,c0,-,c2,hd,htc⟩:=HAT.out i hix
   replace c0:=HE.out.cell (HX.out.cell c0);replace c2:=HE.out.cell (HX.out.cell c2)
   have htl:=HTL.out _ (jg hix)
   have htk:r.ats.take (i+1)=r.ats.take i++[r.ats[i]]:=jj hix
   obtain⟨a,ha⟩:∃a,a=r.ats[i]:=⟨_,rfl⟩
   rw[←ha]at c0 c2 htl htk
   obtain⟨nt,hnt⟩:∃n,n=a.terms.length:=⟨_,rfl⟩
   obtain⟨ng,hng⟩:∃n,n=a.neg:=⟨_,rfl⟩
   rw[←hnt]at c2 htl
   rw[←hng]at c0
   have HTK:=zO htk;have HNT:=zO hnt;have HNG:=zO hng
   clear hd htc htk hnt hng ha hix
   by_cases h7:nt≤7
   ·have h7':¬(7:Int)<(nt:Int):=by omega
    have HT2:Hid (∀a∈r.ats.take (i+1),a.terms.length≤7):=zO (by
     rw[HTK.out]
     intro b hb
     rcases jp.1 hb with hb|hb
     ·exact HT.out b hb
     ·rw[jt]at hb
      rw[hb,←HNT.out]
      exact h7)
    rcases ng with _|_
    ·have HK2:Hid (k+1=((r.ats.take (i+1)).filter (fun a=>!a.neg)).length):=zO (by
      rw[HTK.out,jK,jl,←HK.out,List.filter_cons,←HNG.out]
      rfl)
     go_wp2_with fail
     go_roundw
     case rel=>exact⟨i+1,k+1,by omega,by omega,by go_num,by go_num,HK2,HT2,HE⟩
     case measure=>simp[intOf];omega
    ·have HK2:Hid (k=((r.ats.take (i+1)).filter (fun a=>!a.neg)).length):=zO (by
      rw[HTK.out,jK,jl,←HK.out,List.filter_cons,←HNG.out]
      rfl)
     go_wp2_with fail
     go_roundw
     case rel=>exact⟨i+1,k,by omega,by omega,by go_num,rfl,HK2,HT2,HE⟩
     case measure=>simp[intOf];omega
   ·have h7':(7:Int)<(nt:Int):=by omega
    have HP:=zO (HYES.out W (HX.out.trans HE.out))
    go_wp2_with fail
    exact HP.out
  ·obtain rfl:i=na:=by omega
   have hdi:¬(i:Int)<(i:Int):=by omega
   have HT2:Hid (∀a∈r.ats,a.terms.length≤7):=zO (by
    have h:=HT.out
    rw[jo (by have:=HNA.out;omega)]at h
    exact h)
   have HK2:Hid (k=(posL r).length):=zO (by
    have h:=HK.out
    rw[jo (by have:=HNA.out;omega)]at h
    exact h)
   have HP:=zO (HYES.out W (HX.out.trans HE.out))
   by_cases g1:k≤4
   ·have g1':¬(4:Int)<(k:Int):=by omega
    by_cases g2:i≤7
    ·have g2':¬(7:Int)<(i:Int):=by omega
     by_cases g3:nc≤6
     ·have g3':¬(6:Int)<(nc:Int):=by omega
      have HVC:=zO (HVA2.out W (HX.out.trans HE.out) HT2.out g2 g3)
      go_wp2_with fail
      refine HVC.out.mono ?_
      rintro e w3 ⟨v,rfl,he3,hv⟩
      obtain⟨A3,c3,rfl⟩:=own_slice hv
      obtain⟨nv,hnv⟩:∃n,n=(varsR r).length:=⟨_,rfl⟩
      rw[←hnv]
      have HXX:=zO (HX.out.trans (HE.out.trans he3))
      by_cases g4:nv≤6
      ·have g4':¬(6:Int)<(nv:Int):=by omega
       have HP2:=zO (HNO.out w3 HXX.out HT2.out (by rw[←HK2.out];exact g1) g2 g3 (by omega))
       clear hv he3 hnv b0 b1
       go_wp2_with fail
       show PP (.returned (.bool (decide ((6:Int)<(nv:Int))))) w3
       rw[decide_eq_false (by omega)]
       exact HP2.out
      ·have g4':(6:Int)<(nv:Int):=by omega
       have HP2:=zO (HYES.out w3 HXX.out)
       clear hv he3 hnv b0 b1
       go_wp2_with fail
       exact HP2.out
     ·have g3':(6:Int)<(nc:Int):=by omega
      go_wp2_with fail
      exact HP.out
    ·have g2':(7:Int)<(i:Int):=by omega
     go_wp2_with fail
     exact HP.out
   ·have g1':(4:Int)<(k:Int):=by omega
    go_wp2_with fail
    exact HP.out
end Go.Proofs.YtplldnnnhgnbjaaGreatDoor
namespace Go.Proofs
open Go.Shelf
def Tryz.layMapClone_ren:Go.Shelf.Ren:=⟨fun|5=>86|7=>161|n=>n,fun|23=>31|25=>9|3=>181|4=>4|20=>20|n=>n,fun|n=>n⟩
theorem Tryz.layMapClone:Go.Proofs.SlLaysW.n5 Tryz.prog Tryz.layMapClone_ren:={
 mixed:=by kernel_rfl
 f5:=⟨Tryz.f86.name,by decide,Tryz.func86.trans (congrArg some (by kernel_rfl))⟩
 f7:=Tryz.func161.trans (congrArg some (by kernel_rfl))
 t4:=Tryz.underlying4
 a4:=Tryz.isAgg4
 z4:=Tryz.sizeOf4
 v4:=Tryz.zeroValue4
 t20:=Tryz.underlying20
 a20:=Tryz.isAgg20
 z20:=Tryz.sizeOf20
 v20:=Tryz.zeroValue20
 t23:=Tryz.underlying31
 a23:=Tryz.isAgg31
 z23:=Tryz.sizeOf31
 v23:=Tryz.zeroValue31 }
end Go.Proofs
