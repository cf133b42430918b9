/- packed -/
import Derived.Test.YtplldnnnhgnbjaaGreatDoorMu50
import Derived.Test.YtplldnnnhgnbjaaGreatDoorMu48
namespace Go.Proofs.YtplldnnnhgnbjaaGreatDoor
open Go.RowKit Go.Maps
set_option maxRecDepth 20000 in
set_option maxHeartbeats 6400000 in
theorem multiplies_any{w:World}{S U A1 C1 A2 C2:Option Addr}{ns cs nu cu d1 e1 d2 e2:Nat}{ss:List Sc}{us:List Up}{r1 r2:Rl}(h:MulIn w S U A1 C1 A2 C2 ns cs nu cu d1 e1 d2 e2 ss us r1 r2) :
  Calls Tryz.prog 5 #[.slice S ns cs,.slice U nu cu,.agg #[.slice A1 r1.ats.length d1,.slice C1 r1.cds.length e1,.slice A2 r2.ats.length d2,.slice C2 r2.cds.length e2]] w (TrueE w):=by
 have HRET:Hid (∀V,Ext w V→TrueE w (.returned (.bool true)) V):=zO (fun V hV=>⟨hV,rfl⟩)
 obtain⟨PP,hPP⟩:∃P,P=TrueE w:=⟨_,rfl⟩
 rw[←hPP]at HRET ⊢
 have HAW:=zO (fun (V:World) (hV:Ext w V)=>(h.ext hV).law.awake)
 have HG:=fun (V:World) (hV:Ext w V)=>(h.ext hV).law.great
 change ∀V,Ext w V→Calls _ _ #[.slice S ns cs,.slice U nu cu,.agg #[.slice none 0 0,.int .i64 0,.string ⟨#[]⟩,.slice none 0 0,.slice none 0 0]] V _ at HG
 have HDB:=zO (fun (V:World) (hV:Ext w V)=>(h.ext hV).law.database)
 have HL1:=fun (V:World) (hV:Ext w V)=>long_any (h.ext hV).a1.ats (h.ext hV).c1 h.z1.z h.z1.t h.z1.c h.z1.a
 have HL2:=fun (V:World) (hV:Ext w V)=>long_any (h.ext hV).a2.ats (h.ext hV).c2 h.z2.z h.z2.t h.z2.c h.z2.a
 have HV1:=fun (k:ShortR r1) (V:World) (hV:Ext w V)=>vars23 (h.ext hV).a1.ats (h.ext hV).c1 h.z1.z (by have:=allT_seven _ k.tm;have:=k.la;omega) (by have:=k.lc;omega) (by have:=k.la;omega)
 have HV2:=fun (k:ShortR r2) (V:World) (hV:Ext w V)=>vars23 (h.ext hV).a2.ats (h.ext hV).c2 h.z2.z (by have:=allT_seven _ k.tm;have:=k.la;omega) (by have:=k.lc;omega) (by have:=k.la;omega)
 obtain⟨css1,hx1,l1,rx1,nw1⟩:=h.a1.newsA (by decide)
 obtain⟨css2,hx2,l2,rx2,nw2⟩:=h.a2.newsA (by decide)
 obtain⟨dss1,hy1,l3,ry1,nw3⟩:=h.c1.newsA (by decide)
 obtain⟨dss2,hy2,l4,ry2,nw4⟩:=h.c2.newsA (by decide)
 have o1:∀u∈css1.flatten,u.oneCell'=true:=fun u hu=>by
  obtain⟨cs,hcs,hu⟩:=List.mem_flatten.1 hu
  obtain⟨k,hk,rfl⟩:=jv hcs
  exact at_one (rx1 k (by omega) hk) u hu
 have o2:∀u∈css2.flatten,u.oneCell'=true:=fun u hu=>by
  obtain⟨cs,hcs,hu⟩:=List.mem_flatten.1 hu
  obtain⟨k,hk,rfl⟩:=jv hcs
  exact at_one (rx2 k (by omega) hk) u hu
 have o3:∀u∈dss1.flatten,u.oneCell'=true:=fun u hu=>by
  obtain⟨cs,hcs,hu⟩:=List.mem_flatten.1 hu
  obtain⟨k,hk,rfl⟩:=jv hcs
  exact cd_one (ry1 k (by omega) hk) u hu
 have o4:∀u∈dss2.flatten,u.oneCell'=true:=fun u hu=>by
  obtain⟨cs,hcs,hu⟩:=List.mem_flatten.1 hu
  obtain⟨k,hk,rfl⟩:=jv hcs
  exact cd_one (ry2 k (by omega) hk) u hu
 have HIN:=zO h
 obtain⟨n1,hn1⟩:∃n,n=r1.ats.length:=⟨_,rfl⟩
 obtain⟨m1,hm1⟩:∃n,n=r1.cds.length:=⟨_,rfl⟩
 obtain⟨n2,hn2⟩:∃n,n=r2.ats.length:=⟨_,rfl⟩
 obtain⟨m2,hm2⟩:∃n,n=r2.cds.length:=⟨_,rfl⟩
 rw[←hn1,←hm1]at HL1 HV1
 rw[←hn2,←hm2]at HL2 HV2
 rw[←hn1]at l1;rw[←hm1]at l3;rw[←hn2]at l2;rw[←hm2]at l4
 rw[←hn1,←hm1,←hn2,←hm2]
 have kb:=Bk.new w 54 [.slice A1 n1 d1,.slice C1 m1 e1,.slice A2 n2 d2,.slice C2 m2 e2]
 have hx:=(Ext.refl w).alloc (.cells #[.slice A1 n1 d1,.slice C1 m1 e1,.slice A2 n2 d2,.slice C2 m2 e2] 54)
 have HN1:=zO hn1;have HM1:=zO hm1;have HN2:=zO hn2;have HM2:=zO hm2
 have HRX:=zO (And.intro rx1 (And.intro rx2 (And.intro ry1 ry2)));have HXL:=zO (And.intro hx1 (And.intro hx2 (And.intro hy1 hy2)))
 have HNW:=zO (And.intro nw1 (And.intro nw2 (And.intro nw3 nw4)));have HLN:=zO (And.intro l1 (And.intro l2 (And.intro l3 l4)));have HON:=zO (And.intro o1 (And.intro o2 (And.intro o3 o4)))
 have HL1h:=zO HL1;have HL2h:=zO HL2;have HV1h:=zO HV1;have HV2h:=zO HV2
 have HG1:=zO (HG _ hx)
 clear h hPP HG HL1 HL2 HV1 HV2 rx1 rx2 ry1 ry2 hx1 hx2 hy1 hy2 nw1 nw2 nw3 nw4 l1 l2 l3 l4 o1 o2 o3 o4 hn1 hm1 hn2 hm2
 go_enter Tryz.func5,Tryz.ntmps5
 go_upto_region 1 with fail
 change Bk (w.alloc (.cells #[.slice A1 n1 d1,.slice C1 m1 e1,.slice A2 n2 d2,.slice C2 m2 e2] 54)) _ _ _ at kb
 generalize (w.alloc (.cells #[.slice A1 n1 d1,.slice C1 m1 e1,.slice A2 n2 d2,.slice C2 m2 e2] 54))=w1 at *
 obtain⟨g5,hg5⟩:∃g,g=w.heap.size:=⟨_,rfl⟩
 rw[←hg5]at kb ⊢
 have HKB:=zO kb;have HX:=zO hx
 clear kb hx hg5
 go_wp2_with fail
 refine HG1.out.mono ?_
 rintro e w2 ⟨hx2,z,rfl,hz⟩
 have HX2:=zO (HX.out.trans hx2)
 rcases z with _|_
 ·have HS:=zO (hz rfl)
  have k2:=HKB.out.ext hx2
  have b0:=k2.cell (i:=0) (by simp);have b1:=k2.cell (i:=1) (by simp);have b2:=k2.cell (i:=2) (by simp);have b3:=k2.cell (i:=3) (by simp)
  simp only[ja,je]at b0 b1 b2 b3
  have HLL:=zO (HL1h.out w2 HX2.out)
  have HKB2:=zO k2
  clear hz hx2 k2
  go_wp2_with fail
  refine HLL.out.mono ?_
  rintro e w3 ⟨hx3,z,rfl,hz⟩
  have HX3:=zO (HX2.out.trans hx3)
  have HKB3:=zO (HKB2.out.ext hx3)
  clear HLL b0 b1 b2 b3
  rcases z with _|_
  ·have HSR1:=zO (hz rfl)
   have k3:=HKB3.out
   have b0:=k3.cell (i:=0) (by simp);have b1:=k3.cell (i:=1) (by simp);have b2:=k3.cell (i:=2) (by simp);have b3:=k3.cell (i:=3) (by simp)
   simp only[ja,je]at b0 b1 b2 b3
   have HLL:=zO (HL2h.out w3 HX3.out)
   clear hz hx3 k3
   go_wp2_with fail
   refine HLL.out.mono ?_
   rintro e w4 ⟨hx4,z,rfl,hz⟩
   have HX4:=zO (HX3.out.trans hx4)
   have HKB4:=zO (HKB3.out.ext hx4)
   clear HLL b0 b1 b2 b3
   rcases z with _|_
   ·have HSR2:=zO (hz rfl)
    have HD4:=zO (HDB.out w4 HX4.out HS.out)
    clear hz hx4
    go_wp2_with fail
    refine HD4.out.mono ?_
    rintro e w5 ⟨hx5,mb,Ad,nd,cd,z,rfl,hz,-⟩
    have HX5:=zO (HX4.out.trans hx5)
    have HZ:=zO hz
    have kd:=Bk.new w5 33 [.map mb]
    have hx6:=(Ext.refl w5).alloc (.cells #[.map mb] 33)
    have HX56:=zO hx6
    have HKB6:=zO (HKB4.out.ext (hx5.trans hx6))
    have HX6:=zO (HX5.out.trans hx6)
    clear hx5 hz hx6
    go_upto_region 4 with fail
    change Bk (w5.alloc (.cells #[.map mb] 33)) _ _ _ at kd
    generalize (w5.alloc (.cells #[.map mb] 33))=w6 at *
    obtain⟨g7,hg7⟩:∃g,g=w5.heap.size:=⟨_,rfl⟩
    rw[←hg7]at kd ⊢
    have HKD:=zO kd
    clear kd hg7
    have k6:=HKB6.out
    have b0:=k6.cell (i:=0) (by simp);have b1:=k6.cell (i:=1) (by simp);have b2:=k6.cell (i:=2) (by simp);have b3:=k6.cell (i:=3) (by simp)
    simp only[ja,je]at b0 b1 b2 b3
    clear k6
    refine wp_then ?_
    intro KK hKK
    refine mul_reg b0 b1 b2 b3 HLN.out.1 (fun j u hu=>let ⟨ad,ea,hc⟩:=HNW.out.1 j u hu;⟨ad,ea,HX6.out.cell hc⟩) HON.out.1 HLN.out.2.1 (fun j u hu=>let ⟨ad,ea,hc⟩:=HNW.out.2.1 j u hu;⟨ad,ea,HX6.out.cell hc⟩) HON.out.2.1 HLN.out.2.2.1 (fun j u hu=>let ⟨ad,ea,hc⟩:=HNW.out.2.2.1 j u hu;⟨ad,ea,HX6.out.cell hc⟩) HON.out.2.2.1 HLN.out.2.2.2 (fun j u hu=>let ⟨ad,ea,hc⟩:=HNW.out.2.2.2 j u hu;⟨ad,ea,HX6.out.cell hc⟩) HON.out.2.2.2 (by have:=HN1.out;have:=HSR1.out.la;omega) (by have:=HN2.out;have:=HSR2.out.la;omega) (by have:=HM1.out;have:=HSR1.out.lc;omega) (by have:=HM2.out;have:=HSR2.out.lc;omega) ?_
    intro g t42 t46 t50 t51 t55 t59 t60 vA vC w7 hx7 hg hb hA hC
    obtain⟨P1,p1,rfl⟩:=own_slice hA
    obtain⟨P2,p2,rfl⟩:=own_slice hC
    have hsA:Sl rdAt (fun _=>True) w7 (.slice P1 (n1+n2) p1) (bothR r1 r2).ats:=two_sl (by decide) HXL.out.1 (fun i h h'=>rdAt.ext (HRX.out.1 i h h') HX6.out) HXL.out.2.1 (fun i h h'=>rdAt.ext (HRX.out.2.1 i h h') HX6.out) hx7 hA
    have hsC:Sl rdCd (fun _=>True) w7 (.slice P2 (m1+m2) p2) (bothR r1 r2).cds:=two_sl (by decide) HXL.out.2.2.1 (fun i h h'=>rdCd.ext (HRX.out.2.2.1 i h h') HX6.out) HXL.out.2.2.2 (fun i h h'=>rdCd.ext (HRX.out.2.2.2 i h h') HX6.out) hx7 hC
    have HSA:=zO hsA;have HSC:=zO hsC;have HKG:=zO hb
    have HX67:=zO hx7
    have HX7:=zO (HX6.out.trans hx7)
    rw[hKK]
    clear hKK KK hsA hsC hA hC b0 b1 b2 b3 hx7 hg hb
    rcases z with _|_
    ·have HAx:=zO (HAW.out w7 HX7.out)
     go_wp2_with fail
     refine HAx.out.mono ?_
     rintro e wx ⟨v,rfl,he,rfl⟩
     go_wp2_with fail
     exact HRET.out _ (HX7.out.trans he)
    ·obtain⟨b,nb,M,W,T,rfl,hnb,hdb,hdi,hM,hxW,A9,c9,l,e9,hnm,hll,hsl⟩:=HZ.out rfl
     injection e9 with e1 e2 e3
     subst e1 e2 e3
     have hbz:RlZ (bothR r1 r2):=both_z HIN.out.z1.z HIN.out.z2.z
     have hS1:=HSR1.out;have hS2:=HSR2.out
     have hbl:(bothR r1 r2).ats.length≤14:=by show (r1.ats++r2.ats).length≤14;rw[jl];have:=hS1.la;have:=hS2.la;omega
     have hcl:(bothR r1 r2).cds.length≤12:=by show (r1.cds++r2.cds).length≤12;rw[jl];have:=hS1.lc;have:=hS2.lc;omega
     have hbp:(posN2 (bothR r1 r2).ats).length≤8:=by
      show (posL (bothR r1 r2)).length≤8
      rw[posL_both,jl]
      have:=hS1.ps;have:=hS2.ps
      omega
     have hbt:∀a∈(bothR r1 r2).ats,a.terms.length≤7:=fun a ha=>(jp.1 ha).elim (hS1.tm a) (hS2.tm a)
     have hxa:=(Ext.refl w7).alloc (.cells #[.slice P1 (n1+n2) p1,.slice P2 (m1+m2) p2] 46)
     have HH:=zO (heavy_any (hsl.ext (HX56.out.trans (HX67.out.trans hxa))) (one_rl w7 HSA.out.ats HSC.out) hnm (by omega) hdi.ln (by simp) (fun r hr=>by
      obtain rfl:=jt.1 hr
      exact⟨hbl,hbp,hbz⟩))
     have HX8:=zO (HX7.out.trans hxa);have HX78:=zO hxa
     have HDBB:=zO (hdb.ext (HX56.out.trans (HX67.out.trans hxa)));have HDI:=zO hdi;have HNM:=zO hnm
     have HBZ:=zO (And.intro hbz (And.intro hbl (And.intro hcl hbt)))
     have kg:=HKG.out
     have q0:=kg.cell (i:=0) (by simp);have q1:=kg.cell (i:=1) (by simp)
     simp only[ja,je]at q0 q1
     clear hbz hbl hbp hbt hcl hnb hdb hdi hM hxW hll hsl hnm kg hxa hS1 hS2 HZ
     go_wp2_with fail
     refine HH.out.mono ?_
     rintro e w9 ⟨hx9,z,rfl,hz⟩
     have HX9:=zO (HX8.out.trans hx9)
     have HX89:=zO hx9
     rcases z with _|_
     ·have hpr:=hz rfl (bothR r1 r2) (by simp)
      have HP1:=zO (both_prod hpr);have HPB:=zO hpr
      clear hz hx9 hpr q0 q1
      have k9:=HKB6.out.ext (HX67.out.trans (HX78.out.trans HX89.out))
      have b0:=k9.cell (i:=0) (by simp);have b1:=k9.cell (i:=1) (by simp);have b2:=k9.cell (i:=2) (by simp);have b3:=k9.cell (i:=3) (by simp)
      simp only[ja,je]at b0 b1 b2 b3
      have HKB9:=zO k9
      clear k9
      have HVA:Hid (∀V,Ext w9 V→Calls Tryz.prog 18 #[.agg #[.slice A1 n1 d1,.slice C1 m1 e1]] V (fun e W=>Ext V W∧∃v,e=.returned v∧Strs (fun _=>True) W v (varsR r1))):=zO (fun V hV=>(HV1h.out HSR1.out V (HX9.out.trans hV)).mono (fun e W hR=>by
       obtain⟨v,rfl,he,ho⟩:=hR
       exact⟨he,v,rfl,(Strs.of_own ho).mono (fun _ _ _=>trivial)⟩))
      have HVB:Hid (∀V,Ext w9 V→Calls Tryz.prog 18 #[.agg #[.slice A2 n2 d2,.slice C2 m2 e2]] V (fun e W=>Ext V W∧∃v,e=.returned v∧Strs (fun _=>True) W v (varsR r2))):=zO (fun V hV=>(HV2h.out HSR2.out V (HX9.out.trans hV)).mono (fun e W hR=>by
       obtain⟨v,rfl,he,ho⟩:=hR
       exact⟨he,v,rfl,(Strs.of_own ho).mono (fun _ _ _=>trivial)⟩))
      go_upto_region 7 with fail
      refine wp_then ?_
      intro KK hKK
      refine muv_reg b0 b1 b2 b3 HVA HVB ?_
      intro t11 t12 t72 t75 w10 hx10 hs1 hs2
      have HX10:=zO (HX9.out.trans hx10);have HX910:=zO hx10
      rw[hKK]
      clear hKK KK HVA HVB b0 b1 b2 b3 hx10
      have hl1:(varsR r1).length≤6:=HSR1.out.vs
      have hl2:(varsR r2).length≤6:=HSR2.out.vs
      obtain⟨na,hna⟩:∃n,n=(varsR r1).length:=⟨_,rfl⟩
      obtain⟨B1,f1,rfl,hf1,hcl1⟩:=hs1
      obtain⟨B2,f2,rfl,hf2,hcl2⟩:=hs2
      have HS2:=zO (show Strs (fun _=>True) w10 (.slice B2 (varsR r2).length f2) (varsR r2) from ⟨_,_,rfl,hf2,hcl2⟩)
      obtain⟨nb2,hnb2⟩:∃n,n=(varsR r2).length:=⟨_,rfl⟩
      rw[←hna]at hl1 ⊢
      rw[←hnb2]at HS2 ⊢
      have HCL1:=zO hcl1;have HNA:=zO hna;have HNB2:=zO hnb2;have HL2':=zO hl2
      clear hcl1 hcl2 hf1 hf2 hna hnb2 hl2
      go_wp2_with fail
      go_loopw [13] (fun t wr=>∃i:Nat,i≤na∧t=.int .i64 (i:Int)∧Hid (∀j (h:j<(varsR r1).length),j<i→(varsR r1)[j] ∉ varsR r2)∧wr=w10) (fun t _=>na-(intOf t).toNat)
      case atStart=>exact⟨0,jn _,rfl,zO (fun j h hj=>by omega),rfl⟩
      case round =>
       obtain⟨i,hi,rfl,HD,rfl⟩:=hrel
       by_cases hlt:i<na
       ·have i1:(0:Int)≤(i:Int):=by omega
        have i2:(i:Int)<(na:Int):=by omega
        have hix:i<(varsR r1).length:=by have:=HNA.out;omega
        obtain⟨ad,e9,-,c0⟩:=HCL1.out.at' (j:=i) (x:=Sv (varsR r1)[i]) (by rw[zG,jk hix];rfl)
        subst e9
        obtain⟨s,hs⟩:∃s,s=(varsR r1)[i]:=⟨_,rfl⟩
        rw[←hs]at c0
        change wr.cell? (ad.add i)=some (.string s) at c0
        have HIX:=zO (index23 (s:=s) HS2.out (by have:=HL2'.out;omega))
        obtain⟨z,hz⟩:∃z,z=idxI (varsR r2) s:=⟨_,rfl⟩
        have HIX2:Hid (Calls Tryz.prog 19 #[.slice B2 nb2 f2,.string s] wr (fun e w'=>e=.returned (.int .i64 z)∧wr=w')):=zO (by rw[hz];exact HIX.out)
        have HSS:=zO hs
        clear HIX hs
        by_cases hin:s∈varsR r2
        ·have hneg:¬z<0:=fun h=>idx_neg.1 (hz ▸ h) hin
         have hge : 0≤z:=by omega
         clear hz
         go_wp2_with fail
         refine HIX2.out.mono ?_
         rintro e wy ⟨rfl,rfl⟩
         have HAx:=zO (HAW.out wr HX10.out)
         go_wp2_with fail
         refine HAx.out.mono ?_
         rintro e wx ⟨v,rfl,he,rfl⟩
         go_wp2_with fail
         exact HRET.out _ (HX10.out.trans he)
        ·have hneg:z<0:=by rw[hz];exact idx_neg.2 hin
         have hge:¬0≤z:=by omega
         have HNI:=zO hin
         clear hz hin
         go_wp2_with fail
         refine HIX2.out.mono ?_
         rintro e wy ⟨rfl,rfl⟩
         go_wp2_with fail
         go_roundw
         case rel=>exact⟨i+1,by omega,by go_num,zO (fun j h hj=>by
          rcases jB j i with h1|h1
          ·exact HD.out j h h1
          ·obtain rfl:j=i:=by omega
           rw[←HSS.out]
           exact HNI.out),trivial⟩
         case measure=>simp[intOf];omega
       ·obtain rfl:i=na:=by omega
        have hdis:∀v∈varsC r1,v ∉ varsC r2:=fun v h1 h2=>by
         obtain⟨j,hj,rfl⟩:=jv (vars_ref h1)
         exact HD.out j hj (by have:=HNA.out;omega) (vars_ref h2)
        have hvl:=both_lenv HSR1.out.vs HSR2.out.vs
        have hS1:=HSR1.out;have hS2:=HSR2.out
        have HIN10:=zO (HIN.out.ext HX10.out)
        have HDIS:=zO hdis
        have has1:=assigns_any HIN10.out.a1.ats HIN10.out.c1 (HDBB.out.ext (HX89.out.trans HX910.out)) HIN.out.z1.z (by have:=hS1.la;omega) (fun a ha=>by have:=hS1.tm a ha;omega) (by have:=hS1.lc;omega) HDI.out.db HP1.out.1 (by have:=hvl.1;omega) HIN10.out.law.tab
        rw[←HN1.out,←HM1.out]at has1
        have HAS1:=zO has1
        have k10:=HKB9.out.ext HX910.out
        have b0:=k10.cell (i:=0) (by simp);have b1:=k10.cell (i:=1) (by simp);have b2:=k10.cell (i:=2) (by simp);have b3:=k10.cell (i:=3) (by simp)
        simp only[ja,je]at b0 b1 b2 b3
        have HKD10:=zO (HKD.out.ext (HX67.out.trans (HX78.out.trans (HX89.out.trans HX910.out))))
        have d0:=HKD10.out.cell (i:=0) (by simp)
        simp only[ja]at d0
        have HK10:=zO k10
        have HVL:=zO hvl
        clear has1 hdis hvl hS1 hS2 k10
        go_wp2_with fail
        refine HAS1.out.mono ?_
        rintro e w11 hp
        obtain⟨hx11,A11,x1,c11,rfl,hl1,hq1⟩:=hp.form
        obtain⟨v1,hv1⟩:∃v,v=validE M r1:=⟨_,rfl⟩
        rw[←hv1]at hq1 ⊢
        have HX11:=zO (HX10.out.trans hx11);have HX1011:=zO hx11
        have HIN11:=zO (HIN.out.ext HX11.out)
        have hS2:=HSR2.out
        have has2:=assigns_any HIN11.out.a2.ats HIN11.out.c2 (HDBB.out.ext (HX89.out.trans (HX910.out.trans hx11))) HIN.out.z2.z (by have:=hS2.la;omega) (fun a ha=>by have:=hS2.tm a ha;omega) (by have:=hS2.lc;omega) HDI.out.db HP1.out.2 (by have:=HVL.out.2.1;omega) HIN11.out.law.tab
        rw[←HN2.out,←HM2.out]at has2
        have HAS2:=zO has2
        have HQ1:=zO hq1;have HE1:=zO hv1
        clear b0 b1 b2 b3 d0
        have k11:=HK10.out.ext hx11
        have b0:=k11.cell (i:=0) (by simp);have b1:=k11.cell (i:=1) (by simp);have b2:=k11.cell (i:=2) (by simp);have b3:=k11.cell (i:=3) (by simp)
        simp only[ja,je]at b0 b1 b2 b3
        have d0:=(HKD10.out.ext hx11).cell (i:=0) (by simp)
        simp only[ja]at d0
        clear has2 hS2 hx11 hp hq1 hv1 k11
        go_wp2_with fail
        refine HAS2.out.mono ?_
        rintro e w12 hp
        obtain⟨hx12,A12,x2,c12,rfl,hl2,hq2⟩:=hp.form
        obtain⟨v2,hv2⟩:∃v,v=validE M r2:=⟨_,rfl⟩
        rw[←hv2]at hq2 ⊢
        have HX12:=zO (HX11.out.trans hx12)
        have HX712:=zO (HX78.out.trans (HX89.out.trans (HX910.out.trans (HX1011.out.trans hx12))))
        have has3:=assigns_any (HSA.out.ext HX712.out).ats (HSC.out.ext HX712.out) (HDBB.out.ext (HX89.out.trans (HX910.out.trans (HX1011.out.trans hx12)))) HBZ.out.1 (by have:=HBZ.out.2.1;omega) (fun a ha=>by have:=HBZ.out.2.2.2 a ha;omega) (by have:=HBZ.out.2.2.1;omega) HDI.out.db HPB.out (by have:=HVL.out.2.2;omega) (HIN.out.ext HX12.out).law.tab
        have HAS3:=zO has3
        have HQ2:=zO hq2;have HE2:=zO hv2
        clear b0 b1 b2 b3 d0
        have kg:=HKG.out.ext HX712.out
        have q0:=kg.cell (i:=0) (by simp);have q1:=kg.cell (i:=1) (by simp)
        have d0:=(HKD10.out.ext (HX1011.out.trans hx12)).cell (i:=0) (by simp)
        simp only[ja,je]at d0 q0 q1
        clear has3 hx12 hp hq2 hv2 kg
        go_wp2_with fail
        refine HAS3.out.mono ?_
        rintro e w13 hp
        obtain⟨hx13,A13,x3,c13,rfl,hl3,hq3⟩:=hp.form
        obtain⟨v3,hv3⟩:∃v,v=validE M (bothR r1 r2):=⟨_,rfl⟩
        rw[←hv3]at hq3 ⊢
        have HX13:=zO (HX12.out.trans hx13)
        have HQ3:=zO hq3
        have hval:v3=0↔v1=0∧v2=0:=by
         have h9:=both_valid (M:=M) HDIS.out
         rw[←hv3,←HE1.out,←HE2.out]at h9
         exact h9
        have HE3:=zO hv3
        have HVAL:=zO hval
        have HAX:=zO (HAW.out w13 HX13.out)
        clear d0 q0 q1 hx13 hp hq3 hv3 hval
        by_cases e1:v1=0
        ·by_cases e2:v2=0
         ·have e3:v3=0:=HVAL.out.2 ⟨e1,e2⟩
          have hmul:x3=x1*x2:=by
           obtain⟨L1,rfl,a1⟩:=HQ1.out e1
           obtain⟨L2,rfl,a2⟩:=HQ2.out e2
           obtain⟨L3,rfl,a3⟩:=HQ3.out e3
           exact both_len HDIS.out (HE1.out ▸ e1) (HE2.out ▸ e2) a1 a2 a3
          have g1:(v1 != 0)=false:=by rw[e1];rfl
          have g2:(v2 != 0)=false:=by rw[e2];rfl
          have g3:(v3 == 0)=true:=by rw[e3];rfl
          have hm:(x3:Int)=(x1:Int)*(x2:Int):=by rw[hmul,Int.natCast_mul]
          have hb1:(x1:Int)*(x2:Int)≤1500:=by rw[←hm];omega
          have hb2 : 0≤(x1:Int)*(x2:Int):=by rw[←hm];omega
          clear e1 e2 e3 hmul
          go_wp2_with fail
          refine HAX.out.mono ?_
          rintro e wx ⟨v,rfl,he,rfl⟩
          go_wp2_with fail
          exact HRET.out _ (HX13.out.trans he)
         ·have e3:v3≠0:=fun h=>e2 (HVAL.out.1 h).2
          have g1:(v1 != 0)=false:=by rw[e1];rfl
          have g2:(v2 != 0)=true:=bne_iff_ne.2 e2
          have g3:(v3 != 0)=true:=bne_iff_ne.2 e3
          go_wp2_with fail
          refine HAX.out.mono ?_
          rintro e wx ⟨v,rfl,he,rfl⟩
          go_wp2_with fail
          exact HRET.out _ (HX13.out.trans he)
        ·have e3:v3≠0:=fun h=>e1 (HVAL.out.1 h).1
         have g1:(v1 != 0)=true:=bne_iff_ne.2 e1
         have g3:(v3 != 0)=true:=bne_iff_ne.2 e3
         go_wp2_with fail
         refine HAX.out.mono ?_
         rintro e wx ⟨v,rfl,he,rfl⟩
         go_wp2_with fail
         exact HRET.out _ (HX13.out.trans he)
     ·clear hz hx9 q0 q1
      have HAx:=zO (HAW.out w9 HX9.out)
      go_wp2_with fail
      refine HAx.out.mono ?_
      rintro e wx ⟨v,rfl,he,rfl⟩
      go_wp2_with fail
      exact HRET.out _ (HX9.out.trans he)
   ·clear hz hx4
    have HAx:=zO (HAW.out w4 HX4.out)
    go_wp2_with fail
    refine HAx.out.mono ?_
    rintro e wx ⟨v,rfl,he,rfl⟩
    go_wp2_with fail
    exact HRET.out _ (HX4.out.trans he)
  ·clear hz hx3
   have HAx:=zO (HAW.out w3 HX3.out)
   go_wp2_with fail
   refine HAx.out.mono ?_
   rintro e wx ⟨v,rfl,he,rfl⟩
   go_wp2_with fail
   exact HRET.out _ (HX3.out.trans he)
 ·clear hz hx2
  have HAx:=zO (HAW.out w2 HX2.out)
  go_wp2_with fail
  refine HAx.out.mono ?_
  rintro e wx ⟨v,rfl,he,rfl⟩
  go_wp2_with fail
  exact HRET.out _ (HX2.out.trans he)
end Go.Proofs.YtplldnnnhgnbjaaGreatDoor
namespace Go.Proofs.YtplldnnnhgnbjaaGreatDoor
open Go.RowKit Go.Maps
open Go.ChangeShapes Go.WideShapes Go.ChangeAt Go.RowKit Go.Joins Go.Deep
section
variable {H:Type} {enc:TypeId×Value→H} {W:World} {base:Nat} {fuel:Nat} {cs:List Value} {v:Value} {x:DataW H×List MemPlace}
theorem okWide_arr{P:Program}{r:Reach}{t e:TypeId}{n:Nat}(ht:P.underlying t=some (.array n e))(h:Value.okWide P W r base t v):∃cs:Array Value,v=.agg cs:=by
 simp only[Value.okWide,ht]at h
 obtain⟨cs,h1,_⟩:=h
 exact⟨cs,h1⟩
set_option maxRecDepth 20000
theorem open_rl4(h:DataW.trod enc Tryz.prog W 0 (fun _=>true) true fuel 46 cs=some x):∃(r:Rl) (A C:Option Addr) (d e:Nat),cs=[.slice A r.ats.length d,.slice C r.cds.length e]∧Sl rdAt U1 W (.slice A r.ats.length d) r.ats∧Sl rdCd U1 W (.slice C r.cds.length e) r.cds∧RlN r:=by
 obtain⟨xs,n,-,-,hl,hxl,hf⟩:=DataW.trod_struct Tryz.underlying46 h
 have hc2:cs.length=2:=hl.trans (by kernel_rfl)
 match cs,hc2 with
 | [c0,c1],_ =>
  match xs,hxl with
  | [y0,y1],_ =>
   have h0:DataW.trod enc Tryz.prog W 0 (fun _=>true) true n 43 [c0]=some y0:=hf 0 _ rfl
   have h1:DataW.trod enc Tryz.prog W 0 (fun _=>true) true n 44 [c1]=some y1:=hf 1 _ rfl
   obtain⟨axs,k1,k2,k3⟩:=open_sl rdAt Tryz.underlying43 (by kernel_rfl) (fun a=>a.rel.size≤maxLen∧TmZ a.terms∧a.terms.length≤maxLen) open_atE3 h0
   obtain⟨cds,m1,m2,m3⟩:=open_sl rdCd Tryz.underlying44 (by kernel_rfl) (fun c=>c.var.size≤maxLen∧c.str.size≤maxLen) open_cdE h1
   obtain⟨A,d,f1⟩:=k1.sl
   obtain⟨C,e,f2⟩:=m1.sl
   subst f1 f2
   exact⟨⟨axs,cds⟩,A,C,d,e,rfl,k1,m1,⟨⟨fun a ha=>(k3 a ha).1,fun a ha=>(k3 a ha).2.1,fun c hc=>(m3 c hc).1,fun c hc=>(m3 c hc).2⟩,fun a ha=>len_max (k3 a ha).2.2,len_max m2,len_max k2⟩⟩
theorem open_mul{d0 d1 d2:DataW H}{p0 p1 p2:List MemPlace}{v0 v1 v2:Value}(o0:Value.okWide Tryz.prog W .any base 22 v0)(o1:Value.okWide Tryz.prog W .any base 23 v1)(o2:∃cs:Array Value,v2=.agg cs)(h0:DataW.Trod enc Tryz.prog W 0 (fun _=>true) true 22 v0 d0 p0)(h1:DataW.Trod enc Tryz.prog W 0 (fun _=>true) true 23 v1 d1 p1)(h2:DataW.Trod enc Tryz.prog W 0 (fun _=>true) true 54 v2 d2 p2)(htab:TabE W) :
  ∃(S U A1 C1 A2 C2:Option Addr) (ns cs nu cu f1 e1 f2 e2:Nat) (ss:List Sc) (us:List Up) (r1 r2:Rl),v0=.slice S ns cs∧v1=.slice U nu cu∧v2=.agg #[.slice A1 r1.ats.length f1,.slice C1 r1.cds.length e1,.slice A2 r2.ats.length f2,.slice C2 r2.cds.length e2]∧MulIn W S U A1 C1 A2 C2 ns cs nu cu f1 e1 f2 e2 ss us r1 r2:=by
 obtain⟨S,cs,ss,e0,r0,-,z0⟩:=open_scs2 o0 h0
 obtain⟨U,cu,us,e1,r1,l1,z1⟩:=open_ups o1 h1
 obtain⟨ca,rfl⟩:=o2
 obtain⟨fuel,hf⟩:=h2
 obtain⟨xs,n,-,-,hl,hxl,hg⟩:=DataW.trod_array Tryz.underlying54 hf
 have hc4:ca.toList.length=4:=hl.trans (by kernel_rfl)
 obtain⟨ds,hds⟩:∃ds,ds=ca.toList:=⟨_,rfl⟩
 have hca:ca=ds.toArray:=by rw[hds]
 subst hca
 change (∀(i:Nat),i<2→DataW.trod enc Tryz.prog W 0 (fun _=>true) true n 46 ((ds.drop (i*2)).take 2)=xs[i]?) at hg
 have hc4':ds.length=4:=by rw[←hc4]
 clear hf hl hc4 hds
 match ds,hc4' with
 | [c0,c1,c2,c3],_ =>
  match xs,hxl with
  | [y0,y1],_ =>
   have g0:DataW.trod enc Tryz.prog W 0 (fun _=>true) true n 46 [c0,c1]=some y0:=hg 0 (by decide)
   have g1:DataW.trod enc Tryz.prog W 0 (fun _=>true) true n 46 [c2,c3]=some y1:=hg 1 (by decide)
   obtain⟨q1,A1,C1,f1,k1,b1,sa1,sc1,n1⟩:=open_rl4 g0
   obtain⟨q2,A2,C2,f2,k2,b2,sa2,sc2,n2⟩:=open_rl4 g1
   injection b1 with b3 b4;injection b4 with b4
   injection b2 with b5 b6;injection b6 with b6
   subst b3 b4 b5 b6
   exact⟨S,U,A1,C1,A2,C2,_,cs,_,cu,f1,k1,f2,k2,ss,us,q1,q2,e0,e1,rfl,⟨⟨r0,r1,⟨⟨none,0,rfl,jq _,.inl rfl⟩,Sl.nil _ _ _,Sl.nil _ _ _⟩,(fun r hr=>by cases hr),⟨(fun s hs=>by cases hs),by decide,(fun r hr=>by cases hr),(fun k hk=>by cases hk)⟩,len_max l1,fun u hu=>len_max (z1 u hu).2.1,by decide,fun x hx=>(z0 x hx).1,fun x hx=>(z0 x hx).2,fun u hu=>⟨(z1 u hu).1,(z1 u hu).2.2⟩,htab⟩,sa1,sc1,sa2,sc2,n1,n2⟩⟩
end
end Go.Proofs.YtplldnnnhgnbjaaGreatDoor
