/- packed -/
import Derived.Test.YtplldnnnhgnbjaaGreatDoorMr43
namespace Go.Proofs.YtplldnnnhgnbjaaGreatDoor
open Go.RowKit Go.Maps
structure SmallI (ss:List Sc) (us:List Up) (q:Qy):Prop where
 s:ss.length≤3
 u:us.length≤40
 r:q.rs.length≤4
 h:q.hd.length≤8
 o:q.od.length≤8
 v:∀ u ∈ us,∀ v ∈ u.row,SmV v
 l:∀ r ∈ q.rs,ShortR r
structure RlN (r:Rl):Prop where
 z:RlZ r
 t:∀ a ∈ r.ats,a.terms.length≤9223372036854775807
 c:r.cds.length≤9223372036854775807
 a:r.ats.length≤9223372036854775807
set_option maxRecDepth 20000 in
set_option maxHeartbeats 6400000 in
theorem great_any {F G H:Nat→Prop} {w:World} {S U A B O:Option Addr} {ns cs nu cu ca cb co:Nat} {ss:List Sc} {us:List Up} {q:Qy} (hS:Sl rdSc F w (.slice S ns cs) ss) (hU:Sl rdUp G w (.slice U nu cu) us) (hQ:QyR H w A ca B cb O co q) (hN:∀ r ∈ q.rs,RlN r) (hul:us.length≤9223372036854775807) (hur:∀ u ∈ us,u.row.length≤9223372036854775807) (hrl:q.rs.length≤9223372036854775807) :
  Calls Tryz.prog 10 #[.slice S ns cs,.slice U nu cu,.agg #[.slice A q.hd.length ca,.int .i64 q.ag,.string q.av,.slice B q.rs.length cb,.slice O q.od.length co]] w (NoP (SmallI ss us q) w):=by
 have kb:=Bk.new w 28 [.slice A q.hd.length ca,.int .i64 q.ag,.string q.av,.slice B q.rs.length cb,.slice O q.od.length co]
 have hx:=(Ext.refl w).alloc (.cells #[.slice A q.hd.length ca,.int .i64 q.ag,.string q.av,.slice B q.rs.length cb,.slice O q.od.length co] 28)
 have HYES:Hid (∀ V,Ext w V→NoP (SmallI ss us q) w (.returned (.bool true)) V):=Lib.hid (fun V hV=>⟨hV,true,rfl,fun h=>by cases h⟩)
 have HNO:Hid (∀ V,Ext w V→SmallI ss us q→NoP (SmallI ss us q) w (.returned (.bool false)) V):=Lib.hid (fun V hV h=>⟨hV,false,rfl,fun _=>h⟩)
 obtain ⟨PP,hPP⟩:∃ P,P=NoP (SmallI ss us q) w:=⟨_,rfl⟩
 rw [← hPP] at HYES HNO ⊢
 have HNS:Hid (ns=ss.length):=Lib.hid hS.cap.1
 have HNU:Hid (nu=us.length):=Lib.hid hU.cap.1
 have hnu:nu≤9223372036854775807:=by rw [hU.cap.1];exact hul
 obtain ⟨nh,hnh⟩:∃ n,n=q.hd.length:=⟨_,rfl⟩
 obtain ⟨nr,hnr⟩:∃ n,n=q.rs.length:=⟨_,rfl⟩
 obtain ⟨no,hno⟩:∃ n,n=q.od.length:=⟨_,rfl⟩
 obtain ⟨ag,hag⟩:∃ n,n=q.ag:=⟨_,rfl⟩
 obtain ⟨av,hav⟩:∃ n,n=q.av:=⟨_,rfl⟩
 rw [← hnh,← hnr,← hno,← hag,← hav] at kb hx ⊢
 rw [← hnr] at hrl
 have HNH:=Lib.hid hnh;have HNR:=Lib.hid hnr;have HNOO:=Lib.hid hno
 have HQ:=Lib.hid hQ.rs;have HN:=Lib.hid hN;have HU:=Lib.hid hU;have HUR:=Lib.hid hur
 clear hS hU hQ hN hul hur hPP hnh hnr hno hag hav
 go_enter Tryz.func10,Tryz.ntmps10
 go_upto_region 1 with fail
 change Bk (w.alloc (.cells #[.slice A nh ca,.int .i64 ag,.string av,.slice B nr cb,.slice O no co] 28)) _ _ _ at kb
 generalize (w.alloc (.cells #[.slice A nh ca,.int .i64 ag,.string av,.slice B nr cb,.slice O no co] 28))=w1 at *
 have HKB:=Lib.hid kb;have HX:=Lib.hid hx
 have b0:=kb.cell (i:=0) (by simp);have b3:=kb.cell (i:=3) (by simp);have b4:=kb.cell (i:=4) (by simp)
 simp only [List.getElem_cons_zero,List.getElem_cons_succ] at b0 b3 b4
 obtain ⟨gb,hgb⟩:∃ g,g=w.heap.size:=⟨_,rfl⟩
 rw [← hgb] at HKB b0 b3 b4 ⊢
 have HP:=Lib.hid (HYES.out w1 HX.out)
 clear kb hx hgb
 by_cases g1:ns≤3
 ·have g1':¬ (3:Int) < (ns:Int):=by omega
  by_cases g2:nu≤40
  ·have g2':¬ (40:Int) < (nu:Int):=by omega
   by_cases g3:nr≤4
   ·have g3':¬ (4:Int) < (nr:Int):=by omega
    by_cases g4:nh≤8
    ·have g4':¬ (8:Int) < (nh:Int):=by omega
     by_cases g5:no≤8
     ·have g5':¬ (8:Int) < (no:Int):=by omega
      go_wp2_with fail
      go_loopw [7] (fun t wr=>∃ i:Nat,i≤nu∧t = .int .i64 (i:Int)∧Hid (∀ u ∈ us.take i,∀ v ∈ u.row,SmV v)∧Hid (Ext w1 wr)) (fun t _=>nu - (intOf t).toNat)
      case atStart=>exact ⟨0,Nat.zero_le _,rfl,Lib.hid (by simp),Lib.hid (Ext.refl _)⟩
      case round =>
       clear b0 b3 b4
       obtain ⟨i,hi,rfl,HV,HE⟩:=hrel
       obtain ⟨W,rfl⟩:∃ W:World,W=wr:=⟨_,rfl⟩
       by_cases hlt:i < nu
       ·have i1:(0:Int)≤(i:Int):=by omega
        have i2:(i:Int) < (nu:Int):=by omega
        have hix:i < us.length:=by have:=HNU.out;omega
        obtain ⟨ad,C,d,rfl,-,-,c2,hrow⟩:=HU.out.up hix
        have htk:us.take (i + 1)=us.take i ++ [us[i]]:=List.take_succ_eq_append_getElem hix
        have hrl2:=HUR.out _ (List.getElem_mem hix)
        obtain ⟨u,hu⟩:∃ u,u=us[i]:=⟨_,rfl⟩
        rw [← hu] at c2 hrow htk hrl2
        have HC2:=Lib.hid (HX.out.cell c2)
        have HROW:=Lib.hid (hrow.ext HX.out)
        obtain ⟨nw,hnw⟩:∃ n,n=u.row.length:=⟨_,rfl⟩
        rw [← hnw] at HC2 HROW hrl2
        have HNW:=Lib.hid hnw;have HTK:=Lib.hid htk
        clear c2 hrow htk hu hnw hix
        have c2:=HE.out.cell HC2.out
        go_wp2_with fail
        go_loopw [8] (fun t wr=>∃ k:Nat,k≤nw∧t = .int .i64 (k:Int)∧Hid (∀ v ∈ u.row.take k,SmV v)∧Hid (Ext w1 wr)) (fun t _=>nw - (intOf t).toNat)
        case atStart=>exact ⟨0,Nat.zero_le _,rfl,Lib.hid (by simp),HE⟩
        case round =>
         clear c2 HE
         obtain ⟨k,hk,rfl,HW,HE⟩:=hrel
         obtain ⟨W2,rfl⟩:∃ W:World,W=wr:=⟨_,rfl⟩
         have c2:=HE.out.cell HC2.out
         by_cases hkt:k < nw
         ·have j1:(0:Int)≤(k:Int):=by omega
          have j2:(k:Int) < (nw:Int):=by omega
          have hkx:k < u.row.length:=by have:=HNW.out;omega
          obtain ⟨ae,rfl,-,e0,e1,e2⟩:=HROW.out.vl hkx
          replace e1:=HE.out.cell e1
          have htk:u.row.take (k + 1)=u.row.take k ++ [u.row[k]]:=List.take_succ_eq_append_getElem hkx
          obtain ⟨v,hv⟩:∃ v,v=u.row[k]:=⟨_,rfl⟩
          rw [← hv] at e1 htk
          obtain ⟨m,hm⟩:∃ m,m=v.int:=⟨_,rfl⟩
          rw [← hm] at e1
          have HTK2:=Lib.hid htk;have HM:=Lib.hid hm
          clear htk hv hm e0 e2 hkx
          have HP2:=Lib.hid (HYES.out W2 (HX.out.trans HE.out))
          by_cases m1:m≤1099511627776
          ·have m1':¬ (1099511627776:Int) < m:=by omega
           by_cases m2 : -1099511627776≤m
           ·have m2':¬ m < (-1099511627776:Int):=by omega
            have HW2:Hid (∀ v ∈ u.row.take (k + 1),SmV v):=Lib.hid (by
             rw [HTK2.out]
             intro x hx
             rcases List.mem_append.1 hx with hx | hx
             ·exact HW.out x hx
             ·rw [List.mem_singleton] at hx
              rw [hx]
              unfold SmV
              rw [← HM.out]
              exact ⟨m2,m1⟩)
            go_wp2_with fail
            go_roundw
            case rel=>exact ⟨k + 1,by omega,by go_num,HW2,HE⟩
            case measure=>simp [intOf];omega
           ·have m2':m < (-1099511627776:Int):=by omega
            go_wp2_with fail
            exact HP2.out
          ·have m1':(1099511627776:Int) < m:=by omega
           go_wp2_with fail
           exact HP2.out
         ·obtain rfl:k=nw:=by omega
          have hdk:¬ (k:Int) < (k:Int):=by omega
          have HV2:Hid (∀ u ∈ us.take (i + 1),∀ v ∈ u.row,SmV v):=Lib.hid (by
           rw [HTK.out]
           intro x hx
           rcases List.mem_append.1 hx with hx | hx
           ·exact HV.out x hx
           ·rw [List.mem_singleton] at hx
            rw [hx]
            have h:=HW.out
            rw [List.take_of_length_le (by have:=HNW.out;omega)] at h
            exact h)
          go_wp2_with fail
          go_roundw
          case rel=>exact ⟨i + 1,by omega,by go_num,HV2,HE⟩
          case measure=>simp [intOf];omega
       ·obtain rfl:i=nu:=by omega
        have hdi:¬ (i:Int) < (i:Int):=by omega
        have HV2:Hid (∀ u ∈ us,∀ v ∈ u.row,SmV v):=Lib.hid (by
         have h:=HV.out
         rw [List.take_of_length_le (by have:=HNU.out;omega)] at h
         exact h)
        clear HV
        go_wp2_with fail
        go_loopw [10] (fun t wr=>∃ i:Nat,i≤nr∧t = .int .i64 (i:Int)∧Hid (∀ r ∈ q.rs.take i,ShortR r)∧Hid (Ext w1 wr)) (fun t _=>nr - (intOf t).toNat)
        case atStart=>exact ⟨0,Nat.zero_le _,rfl,Lib.hid (by simp),HE⟩
        case round =>
         clear HE
         obtain ⟨k,hk,rfl,HL,HE⟩:=hrel
         obtain ⟨W2,rfl⟩:∃ W:World,W=wr:=⟨_,rfl⟩
         have b3:=(HKB.out.ext HE.out).cell (i:=3) (by simp)
         simp only [List.getElem_cons_zero,List.getElem_cons_succ] at b3
         by_cases hkt:k < nr
         ·have j1:(0:Int)≤(k:Int):=by omega
          have j2:(k:Int) < (nr:Int):=by omega
          have hkx:k < q.rs.length:=by have:=HNR.out;omega
          obtain ⟨ad,B1,d1,C1,e1,rfl,-,f0,f1,hA1,hC1⟩:=HQ.out.rl hkx
          replace f0:=HE.out.cell (HX.out.cell f0);replace f1:=HE.out.cell (HX.out.cell f1)
          have htk:q.rs.take (k + 1)=q.rs.take k ++ [q.rs[k]]:=List.take_succ_eq_append_getElem hkx
          have hn:=HN.out _ (List.getElem_mem hkx)
          have HLO:=Lib.hid (long_any (hA1.ext (HX.out.trans HE.out)) (hC1.ext (HX.out.trans HE.out)) hn.z hn.t hn.c hn.a)
          obtain ⟨r,hr⟩:∃ r,r=q.rs[k]:=⟨_,rfl⟩
          rw [← hr] at f0 f1 htk HLO
          obtain ⟨n1,hn1⟩:∃ n1,n1=r.ats.length:=⟨_,rfl⟩
          obtain ⟨n2,hn2⟩:∃ m1,m1=r.cds.length:=⟨_,rfl⟩
          rw [← hn1] at f0 HLO
          rw [← hn2] at f1 HLO
          have HTK:=Lib.hid htk
          clear htk hn hr hn1 hn2 hA1 hC1 hkx
          go_wp2_with fail
          refine HLO.out.mono ?_
          rintro e W3 ⟨he,z,rfl,hz⟩
          have HE3:=Lib.hid (HE.out.trans he)
          have HZ:=Lib.hid hz
          clear he hz f0 f1 b3
          rcases z with _ | _
          ·have HL2:Hid (∀ r ∈ q.rs.take (k + 1),ShortR r):=Lib.hid (by
            rw [HTK.out]
            intro x hx
            rcases List.mem_append.1 hx with hx | hx
            ·exact HL.out x hx
            ·rw [List.mem_singleton] at hx
             rw [hx]
             exact HZ.out rfl)
           go_wp2_with fail
           go_roundw
           case rel=>exact ⟨k + 1,by omega,by go_num,HL2,HE3⟩
           case measure=>simp [intOf];omega
          ·have HP2:=Lib.hid (HYES.out W3 (HX.out.trans HE3.out))
           go_wp2_with fail
           exact HP2.out
         ·obtain rfl:k=nr:=by omega
          have hdk:¬ (k:Int) < (k:Int):=by omega
          have HP2:=Lib.hid (HNO.out W2 (HX.out.trans HE.out) ⟨by have:=HNS.out;omega,by have:=HNU.out;omega,by have:=HNR.out;omega,by have:=HNH.out;omega,by have:=HNOO.out;omega,HV2.out,by
           have h:=HL.out
           rw [List.take_of_length_le (by have:=HNR.out;omega)] at h
           exact h⟩)
          go_wp2_with fail
          exact HP2.out
     ·have g5':(8:Int) < (no:Int):=by omega
      go_wp2_with fail
      exact HP.out
    ·have g4':(8:Int) < (nh:Int):=by omega
     go_wp2_with fail
     exact HP.out
   ·have g3':(4:Int) < (nr:Int):=by omega
    go_wp2_with fail
    exact HP.out
  ·have g2':(40:Int) < (nu:Int):=by omega
   go_wp2_with fail
   exact HP.out
 ·have g1':(3:Int) < (ns:Int):=by omega
  go_wp2_with fail
  exact HP.out
end Go.Proofs.YtplldnnnhgnbjaaGreatDoor
