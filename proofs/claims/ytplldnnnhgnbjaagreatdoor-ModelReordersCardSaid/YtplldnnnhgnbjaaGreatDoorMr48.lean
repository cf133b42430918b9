/- packed -/
import Derived.Test.YtplldnnnhgnbjaaGreatDoorMr46
namespace Go.Proofs.YtplldnnnhgnbjaaGreatDoor
open Go.RowKit Go.Maps
set_option maxRecDepth 20000 in
set_option maxHeartbeats 6400000 in
theorem reorders_any {F G H:Nat→Prop} {w:World} {S U A B O:Option Addr} {ns cs nu cu ca cb co:Nat} {ss:List Sc} {us:List Up} {q:Qy} (h:LawIn F G H w S U A B O ns cs nu cu ca cb co ss us q) :
  Calls Tryz.prog 4 #[.slice S ns cs,.slice U nu cu,.agg #[.slice A q.hd.length ca,.int .i64 q.ag,.string q.av,.slice B q.rs.length cb,.slice O q.od.length co]] w (TrueE w):=by
 have kb:=Bk.new w 28 [.slice A q.hd.length ca,.int .i64 q.ag,.string q.av,.slice B q.rs.length cb,.slice O q.od.length co]
 have hx:=(Ext.refl w).alloc (.cells #[.slice A q.hd.length ca,.int .i64 q.ag,.string q.av,.slice B q.rs.length cb,.slice O q.od.length co] 28)
 have HRET:Hid (∀ V,Ext w V→TrueE w (.returned (.bool true)) V):=Lib.hid (fun V hV=>⟨hV,rfl⟩)
 obtain ⟨PP,hPP⟩:∃ P,P=TrueE w:=⟨_,rfl⟩
 rw [← hPP] at HRET ⊢
 have HG:=fun (V:World) (hV:Ext w V)=>(h.ext hV).great
 have HDB:=fun (V:World) (hV:Ext w V)=>(h.ext hV).database
 have HHV:=fun (V:World) (hV:Ext w V) (l:List ByteArray) (M:Dm) (T:Nat→Prop) (D:Option Addr) (m d:Nat)=>(h.ext hV).heavy (l:=l) (M:=M) (T:=T) (D:=D) (m:=m) (d:=d)
 obtain ⟨nh,hnh⟩:∃ n,n=q.hd.length:=⟨_,rfl⟩
 obtain ⟨nr,hnr⟩:∃ n,n=q.rs.length:=⟨_,rfl⟩
 obtain ⟨no,hno⟩:∃ n,n=q.od.length:=⟨_,rfl⟩
 obtain ⟨ag,hag⟩:∃ n,n=q.ag:=⟨_,rfl⟩
 obtain ⟨av,hav⟩:∃ n,n=q.av:=⟨_,rfl⟩
 rw [← hnh,← hnr,← hno,← hag,← hav] at kb hx HG ⊢
 rw [← hnr] at HHV
 have HNH:=Lib.hid hnh;have HNR:=Lib.hid hnr;have HNO:=Lib.hid hno;have HAG:=Lib.hid hag;have HAV:=Lib.hid hav
 have HIN:=Lib.hid h
 have HAW:=Lib.hid (fun (V:World) (hV:Ext w V)=>(h.ext hV).awake)
 have HDBH:=Lib.hid HDB;have HHVH:=Lib.hid HHV
 have HG1:=Lib.hid (HG _ hx)
 clear h hnh hnr hno hag hav hPP HG HDB HHV
 go_enter Tryz.func4,Tryz.ntmps4
 go_upto_region 1 with fail
 change Bk (w.alloc (.cells #[.slice A nh ca,.int .i64 ag,.string av,.slice B nr cb,.slice O no co] 28)) _ _ _ at kb
 generalize (w.alloc (.cells #[.slice A nh ca,.int .i64 ag,.string av,.slice B nr cb,.slice O no co] 28))=w1 at *
 have HKB:=Lib.hid kb;have HX:=Lib.hid hx
 have b0:=kb.cell (i:=0) (by simp);have b1:=kb.cell (i:=1) (by simp);have b2:=kb.cell (i:=2) (by simp);have b3:=kb.cell (i:=3) (by simp);have b4:=kb.cell (i:=4) (by simp)
 simp only [List.getElem_cons_zero,List.getElem_cons_succ] at b0 b1 b2 b3 b4
 obtain ⟨g0,hg0⟩:∃ g,g=w.heap.size:=⟨_,rfl⟩
 rw [← hg0] at HKB b0 b1 b2 b3 b4 ⊢
 have HG0:=Lib.hid hg0
 clear kb hx hg0
 go_wp2_with fail
 refine HG1.out.mono ?_
 rintro e w2 ⟨hx2,z,rfl,hz⟩
 have HX2:=Lib.hid (HX.out.trans hx2)
 rcases z with _ | _
 ·have HS:=Lib.hid (hz rfl)
  have HD2:=Lib.hid (HDBH.out w2 HX2.out HS.out)
  have HXB:=Lib.hid hx2
  clear hz hx2 b0 b1 b2 b3 b4
  go_wp2_with fail
  refine HD2.out.mono ?_
  rintro e w3 ⟨hx3,mb,Ad,nd,cd,z,rfl,hz,-⟩
  have HXB3:=Lib.hid (HXB.out.trans hx3)
  have HX3:=Lib.hid (HX2.out.trans hx3)
  have HZ:=Lib.hid hz
  have kd:=Bk.new w3 33 [.map mb]
  have hx4:=(Ext.refl w3).alloc (.cells #[.map mb] 33)
  clear hx3 hz
  go_upto_region 4 with fail
  change Bk (w3.alloc (.cells #[.map mb] 33)) _ _ _ at kd
  generalize (w3.alloc (.cells #[.map mb] 33))=w4 at *
  obtain ⟨g1,hg1⟩:∃ g,g=w3.heap.size:=⟨_,rfl⟩
  rw [← hg1] at kd ⊢
  have HG1':=Lib.hid hg1
  have HKD:=Lib.hid kd
  have HXB4:=Lib.hid (HXB3.out.trans hx4);have HX4:=Lib.hid (HX3.out.trans hx4);have HX34:=Lib.hid hx4
  clear kd hg1 hx4
  have b3:=HXB4.out.cell (HKB.out.cell (i:=3) (by simp))
  simp only [List.getElem_cons_zero,List.getElem_cons_succ] at b3
  rcases z with _ | _
  ·clear b3
   have HA4:=Lib.hid (HAW.out w4 HX4.out)
   go_wp2_with fail
   refine HA4.out.mono ?_
   rintro e w5 ⟨v,rfl,he,rfl⟩
   go_wp2_with fail
   exact HRET.out _ (HX4.out.trans he)
  ·obtain ⟨b,nb,M,W,T,rfl,hnb,hdb,hdi,hM,hxW,A9,c9,l,e9,hnm,hll,hsl⟩:=HZ.out rfl
   injection e9 with e1 e2 e3
   subst e1 e2 e3
   have HH5:=Lib.hid (HHVH.out w4 HX4.out l M _ _ _ _ HS.out (hsl.ext HX34.out) hnm (by omega) hdi)
   have HDBB:=Lib.hid (hdb.ext HX34.out);have HDI:=Lib.hid hdi;have HNM:=Lib.hid hnm;have HNB:Hid (nb≤1000000):=Lib.hid (by omega)
   clear hdb hdi hM hxW hnm hll hsl HZ hnb
   go_wp2_with fail
   refine HH5.out.mono ?_
   rintro e w5 ⟨hx5,z,rfl,hz⟩
   have HX5:=Lib.hid (HX4.out.trans hx5);have HX45:=Lib.hid hx5
   rcases z with _ | _
   ·have HPR:=Lib.hid (hz rfl)
    have k5:=HKB.out.ext (HXB4.out.trans hx5);have kd5:=HKD.out.ext hx5
    have b0:=k5.cell (i:=0) (by simp);have b1:=k5.cell (i:=1) (by simp);have b2:=k5.cell (i:=2) (by simp);have b3':=k5.cell (i:=3) (by simp);have b4:=k5.cell (i:=4) (by simp)
    have d0:=kd5.cell (i:=0) (by simp)
    simp only [List.getElem_cons_zero,List.getElem_cons_succ] at b0 b1 b2 b3' b4 d0
    have hin:=HIN.out.ext HX5.out
    have HAN:=answers_any hin.qr (HDBB.out.ext hx5) hin.z (by have:=HS.out.o;omega) HDI.out.db HNB.out HNM.out HPR.out hin.tab
    obtain ⟨ev,hev⟩:∃ x,x=checkE (schL M l) q:=⟨_,rfl⟩
    rw [← hev,← HNH.out,← HNR.out,← HNO.out,← HAG.out,← HAV.out] at HAN
    have HAN6:=Lib.hid HAN;have HEV:=Lib.hid hev
    have HK5:=Lib.hid k5;have HKD5:=Lib.hid kd5
    clear hz hx5 b3 k5 kd5 hin HAN hev
    go_wp2_with fail
    refine HAN6.out.mono ?_
    rintro e w6 ⟨hx6,hans⟩
    have HX6:=Lib.hid (HX5.out.trans hx6);have HX56:=Lib.hid hx6
    clear b0 b1 b2 b3' b4 d0 HAN6
    rcases hans with ⟨h0,rfl⟩ | ⟨h0,h1,rfl⟩ | ⟨h0,h1,A6,n6,c6,R,rfl,hR,hsl⟩
    ·have HA6:=Lib.hid (HAW.out w6 HX6.out)
     clear hx6
     go_wp2_with fail
     refine HA6.out.mono ?_
     rintro e w7 ⟨v,rfl,he,rfl⟩
     go_wp2_with fail
     exact HRET.out _ (HX6.out.trans he)
    ·have HA6:=Lib.hid (HAW.out w6 HX6.out)
     clear hx6
     go_wp2_with fail
     refine HA6.out.mono ?_
     rintro e w7 ⟨v,rfl,he,rfl⟩
     go_wp2_with fail
     exact HRET.out _ (HX6.out.trans he)
    ·subst h0
     have HR6:=Lib.hid hR;have HSL6:=Lib.hid hsl;have HAG0:Hid (q.ag=0):=Lib.hid h1
     have HCHK:Hid (ChkM M q):=Lib.hid ((check_M HNM.out).1 HEV.out.symm)
     have k6:=HK5.out.ext hx6
     have kd6:=HKD5.out.ext hx6
     have b0:=k6.cell (i:=0) (by simp);have b1:=k6.cell (i:=1) (by simp);have b2:=k6.cell (i:=2) (by simp);have b3:=k6.cell (i:=3) (by simp);have b4:=k6.cell (i:=4) (by simp)
     simp only [List.getElem_cons_zero,List.getElem_cons_succ] at b0 b1 b2 b3 b4
     have kp:=Bk.new w6 28 [.slice A nh ca,.int .i64 ag,.string av,.slice B nr cb,.slice O no co]
     have HX67:=(Ext.refl w6).alloc (.cells #[.slice A nh ca,.int .i64 ag,.string av,.slice B nr cb,.slice O no co] 28)
     have HK6:=Lib.hid k6;have HKD6:=Lib.hid kd6
     clear hR hsl h1 hx6 k6 kd6
     go_upto_region 10 with fail
     change Bk (w6.alloc (.cells #[.slice A nh ca,.int .i64 ag,.string av,.slice B nr cb,.slice O no co] 28)) _ _ _ at kp
     generalize (w6.alloc (.cells #[.slice A nh ca,.int .i64 ag,.string av,.slice B nr cb,.slice O no co] 28))=w7 at *
     obtain ⟨gp,hgp⟩:∃ g,g=w6.heap.size:=⟨_,rfl⟩
     rw [← hgp] at kp ⊢
     clear b0 b1 b2 b3 b4
     have p3:=kp.cell (i:=3) (by simp);have fp3:=kp.free 3
     simp only [List.getElem_cons_zero,List.getElem_cons_succ] at p3
     have kp8:=kp.set 3 (.slice none 0 0)
     have hx8:=HX67.setCell (p:=⟨gp,3,none⟩) (by rw [hgp];exact Nat.le_refl _) (.slice none 0 0)
     simp only [List.set_cons_succ,List.set_cons_zero] at kp8
     have HKP:=Lib.hid kp8;have HX68:=Lib.hid hx8;have HGP:=Lib.hid hgp
     clear kp8 hx8 hgp HX67 kp
     go_upto_region 11 with fail
     generalize (w7.setCell ⟨gp,3,none⟩ (.slice none 0 0))=w8 at *
     clear p3 fp3
     have b3:=HX68.out.cell (HK6.out.cell (i:=3) (by simp))
     simp only [List.getElem_cons_zero,List.getElem_cons_succ] at b3
     have hnr4:nr≤4:=by rw [HNR.out];exact HS.out.r
     have HO0:=Lib.hid (RvO.start (base:=w8.heap.size) HX68.out HKP.out)
     have HRS:Hid (Sl rdRl (fun k=>k < w6.heap.size) w6 (.slice B nr cb) q.rs):=Lib.hid (by rw [HNR.out];exact (HIN.out.ext HX6.out).qr.rs.mono (by decide) (fun k hk _=>hk))
     have HBS:Hid (w6.heap.size≤gp∧gp < w8.heap.size):=Lib.hid ⟨by have:=HGP.out;omega,HKP.out.lt⟩
     go_wp2_with fail
     go_loopw [13] (fun t wr=>∃ j:Nat,j≤nr∧t = .int .i64 ((nr:Int) - 1 - (j:Int))∧Hid (w8.heap.size≤wr.heap.size)∧Hid (RvO w6 gp w8.heap.size (.slice A nh ca) (.int .i64 ag) (.string av) (.slice O no co) j ((q.rs.map revR).reverse.take j) wr)) (fun t _=>((intOf t) + 1).toNat)
     case atStart =>
      refine ⟨0,Nat.zero_le _,?_,Lib.hid (Nat.le_refl _),HO0⟩
      congr 1
      omega
     case round =>
      obtain ⟨j,hj,rfl,HE8,HO⟩:=hrel
      obtain ⟨W,rfl⟩:∃ W:World,W=wr:=⟨_,rfl⟩
      have HE6:=Lib.hid HO.out.ext
      clear b3
      have b3:=HE6.out.cell (HK6.out.cell (i:=3) (by simp))
      simp only [List.getElem_cons_zero,List.getElem_cons_succ] at b3
      by_cases hlt:j < nr
      ·obtain ⟨i,hi⟩:∃ i:Nat,i + 1 + j=nr:=⟨nr - 1 - j,by omega⟩
       have ei:(nr:Int) - 1 - (j:Int)=(i:Int):=by omega
       have i1:(0:Int)≤(i:Int):=by omega
       have i2:(i:Int) < (nr:Int):=by omega
       rw [ei]
       have hix:i < q.rs.length:=by have:=HNR.out;omega
       obtain ⟨ad,B1,d1,C1,e1,rfl,had,f0,f1,hA1,hC1⟩:=HRS.out.rl hix
       have hsh:=HS.out.l _ (List.getElem_mem hix)
       have htk:((q.rs.map revR).reverse.take (j + 1))=((q.rs.map revR).reverse.take j) ++ [revR q.rs[i]]:=by
        have hj':j < (q.rs.map revR).reverse.length:=by rw [List.length_reverse,List.length_map];have:=HNR.out;omega
        rw [List.take_succ_eq_append_getElem hj',List.getElem_reverse,List.getElem_map]
        congr 4
        rw [List.length_map]
        have:=HNR.out
        omega
       obtain ⟨r,hr⟩:∃ r,r=q.rs[i]:=⟨_,rfl⟩
       rw [← hr] at f0 f1 hA1 hC1 hsh htk
       obtain ⟨_,_,e,-,hat⟩:=hA1.at'
       injection e with e1 e2 e3
       obtain ⟨na,hna⟩:∃ n,n=r.ats.length:=⟨_,rfl⟩
       obtain ⟨nc,hnc⟩:∃ n,n=r.cds.length:=⟨_,rfl⟩
       rw [← hna] at f0
       rw [← hnc] at f1 hC1
       have hna7:na≤7:=by rw [hna];exact hsh.la
       have hnc6:nc≤6:=by rw [hnc];exact hsh.lc
       subst e1
       have HF0:=Lib.hid f0;have HF1:=Lib.hid f1;have HTK:=Lib.hid htk;have HNA:=Lib.hid hna;have HNC:=Lib.hid hnc;have HAT:=Lib.hid hat;have HCD:=Lib.hid hC1;have HAD:=Lib.hid had
       have kr:=Bk.new W 46 [.slice none 0 0,.slice none 0 0]
       have hxr:=(Ext.refl W).alloc (.cells #[.slice none 0 0,.slice none 0 0] 46)
       have HA0:Hid (RvA w6.heap.size W W.heap.size 0 [] (W.alloc (.cells #[.slice none 0 0,.slice none 0 0] 46))):=Lib.hid (RvA.start HE6.out.size)
       clear f0 f1 htk hna hnc hat hC1 hA1 hsh hr e2 e3 had hix
       go_upto_region 15 with fail
       generalize (W.alloc (.cells #[.slice none 0 0,.slice none 0 0] 46))=Wr at *
       obtain ⟨gt,hgt⟩:∃ g,g=W.heap.size:=⟨_,rfl⟩
       rw [← hgt] at kr ⊢
       rw [show RvA w6.heap.size W W.heap.size 0 [] Wr=RvA w6.heap.size W gt 0 [] Wr by rw [hgt]] at HA0
       have HGT:=Lib.hid hgt
       have f0:=hxr.cell (HE6.out.cell HF0.out)
       have b3r:=hxr.cell b3
       clear hgt kr hxr
       go_wp2_with fail
       go_loopw [15] (fun t wr=>∃ m:Nat,m≤na∧t = .int .i64 ((na:Int) - 1 - (m:Int))∧Hid (RvA w6.heap.size W gt m (r.ats.reverse.take m) wr)) (fun t _=>((intOf t) + 1).toNat)
       case atStart =>
        refine ⟨0,Nat.zero_le _,?_,HA0⟩
        congr 1
        omega
       case round =>
        clear f0 b3r
        obtain ⟨m,hm,rfl,HA⟩:=hrel
        obtain ⟨W2,rfl⟩:∃ W:World,W=wr:=⟨_,rfl⟩
        have HE62:=Lib.hid (HE6.out.trans HA.out.ext)
        have b3r:=HE62.out.cell (HK6.out.cell (i:=3) (by simp))
        simp only [List.getElem_cons_zero,List.getElem_cons_succ] at b3r
        have f0:=HE62.out.cell HF0.out
        by_cases hmt:m < na
        ·obtain ⟨k,hk⟩:∃ k:Nat,k + 1 + m=na:=⟨na - 1 - m,by omega⟩
         have ek:(na:Int) - 1 - (m:Int)=(k:Int):=by omega
         have k1:(0:Int)≤(k:Int):=by omega
         have k2:(k:Int) < (na:Int):=by omega
         rw [ek]
         have hkx:k < r.ats.length:=by have:=HNA.out;omega
         obtain ⟨ae,C,dd,rfl,hae,c0,c1,c2,hd,htc⟩:=HAT.out k hkx
         have hT:Ts (fun k=>k < w6.heap.size) w6 (.slice C r.ats[k].terms.length dd) r.ats[k].terms:=⟨_,_,rfl,hd,htc⟩
         have htk2:r.ats.reverse.take (m + 1)=r.ats.reverse.take m ++ [r.ats[k]]:=by
          have hm':m < r.ats.reverse.length:=by rw [List.length_reverse];have:=HNA.out;omega
          rw [List.take_succ_eq_append_getElem hm',List.getElem_reverse]
          congr 3
          have:=HNA.out
          omega
         obtain ⟨a,ha⟩:∃ a,a=r.ats[k]:=⟨_,rfl⟩
         rw [← ha] at c0 c1 c2 hT htk2
         have hRd:rdAt.R (fun k=>k < w6.heap.size) W2 [.bool a.neg,.string a.rel,.slice C a.terms.length dd] a:=⟨_,rfl,hT.ext HE62.out⟩
         obtain ⟨A0,cr0,css,hrow,hbk⟩:=HA.out.row
         obtain ⟨nt,hnt⟩:∃ n,n=a.terms.length:=⟨_,rfl⟩
         obtain ⟨s,hs⟩:∃ s,s=a.rel:=⟨_,rfl⟩
         obtain ⟨ng,hng⟩:∃ n,n=a.neg:=⟨_,rfl⟩
         rw [← hng] at c0 hRd
         rw [← hs] at c1 hRd
         rw [← hnt] at c2 hRd
         replace c0:=HE62.out.cell c0;replace c1:=HE62.out.cell c1;replace c2:=HE62.out.cell c2
         have hg0:g0 < w6.heap.size:=HK6.out.lt
         have hW6:=HE6.out.size
         have hgt:gt=W.heap.size:=HGT.out
         have hn1:∀ z,z < w6.heap.size→¬ ((Value.slice A0 m cr0).ownBlock=some z ∨ z=gt):=fun z hz e=>by
          rcases e with e | e
          ·have:=own_ge hrow.own e
           omega
          ·omega
         have q1:=hn1 _ hg0;have q2:=hn1 _ HAD.out;have q3:=hn1 _ hae
         have hgF:¬ gt < w6.heap.size:=by omega
         have HTK2:=Lib.hid htk2
         have HNX:=Lib.hid (fun (W3:World) (A9:Option Addr) (c9:Nat) (xs':List At) (css':List (List Value))=>RvA.next (N:=w6.heap.size) (gt:=gt) (W3:=W3) (A9:=A9) (c9:=c9) (xs':=xs') (css':=css') HA.out.ext (by omega) hrow)
         have hsz:=HA.out.ext.size
         clear hn1 hg0 hd htc hT hkx htk2 ha hng hs hnt
         go_upto_region 18 with fail
         refine wp_then ?_
         intro KK hKK
         refine apa_reg i1 i2 k1 k2 b3r f0 c0 c1 c2 hbk rfl hrow hsz (by omega) hRd hgF q1 q2 q3 ?_
         intro A9 c9 t72 t82 t83 t84 W3 hfr hrw hb
         have HN3:=Lib.hid (HNX.out W3 A9 c9 _ _ hfr hrw hb)
         clear hfr hrw hb HNX c0 c1 c2 hbk hrow hRd q1 q2 q3
         rw [hKK]
         clear hKK KK
         go_wp2_with fail
         go_roundw
         case rel=>exact ⟨m + 1,by omega,by congr 1;omega,by rw [HTK2.out];exact HN3⟩
         case measure=>simp [intOf]
        ·obtain rfl:m=na:=by omega
         rw [show (m:Int) - 1 - (m:Int) = -1 by omega]
         have hall:r.ats.reverse.take m=r.ats.reverse:=List.take_of_length_le (by rw [List.length_reverse];have:=HNA.out;omega)
         have HC0:Hid (RvC w6.heap.size W gt m r.ats.reverse 0 (r.cds.reverse.take 0) W2):=Lib.hid (by
          have h:=HA.out
          rw [hall] at h
          exact h.conds HE6.out.size)
         have f1:=HE62.out.cell HF1.out
         clear hall f0
         go_wp2_with fail
         go_loopw [16] (fun t wr=>∃ z:Nat,z≤nc∧t = .int .i64 ((nc:Int) - 1 - (z:Int))∧Hid (RvC w6.heap.size W gt m r.ats.reverse z (r.cds.reverse.take z) wr)) (fun t _=>((intOf t) + 1).toNat)
         case atStart =>
          refine ⟨0,Nat.zero_le _,?_,HC0⟩
          congr 1
          omega
         case round =>
          clear b3r f1
          obtain ⟨z,hz,rfl,HC⟩:=hrel
          obtain ⟨W3,rfl⟩:∃ W:World,W=wr:=⟨_,rfl⟩
          have HE63:=Lib.hid (HE6.out.trans HC.out.ext)
          have b3r:=HE63.out.cell (HK6.out.cell (i:=3) (by simp))
          simp only [List.getElem_cons_zero,List.getElem_cons_succ] at b3r
          have f1:=HE63.out.cell HF1.out
          by_cases hzt:z < nc
          ·obtain ⟨k,hk⟩:∃ k:Nat,k + 1 + z=nc:=⟨nc - 1 - z,by omega⟩
           have ek:(nc:Int) - 1 - (z:Int)=(k:Int):=by omega
           have k1:(0:Int)≤(k:Int):=by omega
           have k2:(k:Int) < (nc:Int):=by omega
           rw [ek]
           have hkx:k < r.cds.length:=by have:=HNC.out;omega
           obtain ⟨ae,rfl,hae,c0,c1,c2,c3,c4⟩:=HCD.out.cd hkx
           have htk2:r.cds.reverse.take (z + 1)=r.cds.reverse.take z ++ [r.cds[k]]:=by
            have hm':z < r.cds.reverse.length:=by rw [List.length_reverse];have:=HNC.out;omega
            rw [List.take_succ_eq_append_getElem hm',List.getElem_reverse]
            congr 3
            have:=HNC.out
            omega
           obtain ⟨a,ha⟩:∃ a,a=r.cds[k]:=⟨_,rfl⟩
           rw [← ha] at c0 c1 c2 c3 c4 htk2
           have hRd:rdCd.R (fun k=>k < w6.heap.size) W3 [.string a.var,.int .i64 a.op,.int .i64 a.kind,.int .i64 a.int,.string a.str] a:=rfl
           obtain ⟨Aa,ca9,cz,A0,cr0,css,b1,hra,hrow,hbk,hb1,hb2,hb3⟩:=HC.out.row
           obtain ⟨s0,hs0⟩:∃ n,n=a.var:=⟨_,rfl⟩
           obtain ⟨s4,hs4⟩:∃ n,n=a.str:=⟨_,rfl⟩
           obtain ⟨z1,hz1⟩:∃ n,n=a.op:=⟨_,rfl⟩
           obtain ⟨z2,hz2⟩:∃ n,n=a.kind:=⟨_,rfl⟩
           obtain ⟨z3,hz3⟩:∃ n,n=a.int:=⟨_,rfl⟩
           rw [← hs0] at c0 hRd
           rw [← hz1] at c1 hRd
           rw [← hz2] at c2 hRd
           rw [← hz3] at c3 hRd
           rw [← hs4] at c4 hRd
           replace c0:=HE63.out.cell c0;replace c1:=HE63.out.cell c1;replace c2:=HE63.out.cell c2;replace c3:=HE63.out.cell c3;replace c4:=HE63.out.cell c4
           have hg0:g0 < w6.heap.size:=HK6.out.lt
           have hW6:=HE6.out.size
           have hgt:gt=W.heap.size:=HGT.out
           have hn1:∀ y,y < w6.heap.size→¬ ((Value.slice A0 z cr0).ownBlock=some y ∨ y=gt):=fun y hy e=>by
            rcases e with e | e
            ·have:=own_ge hrow.own e
             omega
            ·omega
           have q1:=hn1 _ hg0;have q2:=hn1 _ HAD.out;have q3:=hn1 _ hae
           have hgF:¬ gt < w6.heap.size:=by omega
           have HTK2:=Lib.hid htk2
           have HNX:=Lib.hid (fun (W4:World) (A9:Option Addr) (c9:Nat) (xs':List Cd) (css':List (List Value))=>RvC.next (N:=w6.heap.size) (gt:=gt) (W3:=W4) (A9:=A9) (c9:=c9) (cs':=xs') (css':=css') HC.out.ext (by omega) hra hrow hbk hb1 hb2 hb3 hW6)
           clear hn1 hg0 hkx htk2 ha hs0 hs4 hz1 hz2 hz3 hra hb2 hb3
           go_upto_region 22 with fail
           refine wp_then ?_
           intro KK hKK
           refine apc_reg i1 i2 k1 k2 b3r f1 c0 c1 c2 c3 c4 hbk rfl hrow hb1 (by omega) hRd hgF q1 q2 q3 ?_
           intro A9 c9 t72 t82 t83 t84 W4 hfr hrw hb
           have HN4:=Lib.hid (HNX.out W4 A9 c9 _ _ hfr hrw hb)
           clear hfr hrw hb HNX c0 c1 c2 c3 c4 hbk hrow hRd q1 q2 q3 hb1
           rw [hKK]
           clear hKK KK
           go_wp2_with fail
           go_roundw
           case rel=>exact ⟨z + 1,by omega,by congr 1;omega,by rw [HTK2.out];exact HN4⟩
           case measure=>simp [intOf]
          ·obtain rfl:z=nc:=by omega
           rw [show (z:Int) - 1 - (z:Int) = -1 by omega]
           have hall:r.cds.reverse.take z=r.cds.reverse:=List.take_of_length_le (by rw [List.length_reverse];have:=HNC.out;omega)
           obtain ⟨Aa,ca9,Ac,cc9,hbk,hrl⟩:=HC.out.rule
           rw [hall] at hrl
           change rdRl.R _ _ _ (revR r) at hrl
           obtain ⟨A0,cr0,css,Fo,hrow,hFo,hbp⟩:=HO.out.row
           have hxa:=(Ext.refl W3).alloc (.cells #[.slice Aa m ca9,.slice Ac z cc9] 46)
           have HNX:=Lib.hid (fun (W4:World) (A9:Option Addr) (c9:Nat)=>RvO.next (W4:=W4) (A9:=A9) (c9:=c9) HO.out.ext ⟨HBS.out.1,HBS.out.2,HE8.out⟩ hrow hFo hbp HC.out.ext hrl)
           have hbp3:=hbp.ext HC.out.ext
           have p3:=hbp3.cell (i:=3) (by simp)
           have t0:=hbk.cell (i:=0) (by simp);have t1:=hbk.cell (i:=1) (by simp)
           simp only [List.getElem_cons_zero,List.getElem_cons_succ] at p3 t0 t1
           have HOW:=Lib.hid (own_ext' hrow.own (HC.out.ext.trans hxa))
           have HBP3:=Lib.hid (hbp3.ext hxa)
           have HSZ:Hid (w8.heap.size≤W3.heap.size):=Lib.hid (Nat.le_trans HE8.out HC.out.ext.size)
           obtain ⟨j0,hj0,hz0,hz1,hz2⟩:=info_parts info_rule
           have HJ0:=Lib.hid (And.intro hj0 (And.intro hz0 (And.intro hz1 hz2)))
           clear hj0 hz0 hz1 hz2 hall hrl hrow hFo hbp hbp3 hbk hxa b3r f1
           go_wp2_with (first
            | (at_builtin;refine wpList_append_at rfl _ _ 25 rfl w8.heap.size 46 j0 (.agg #[.slice none 0 0,.slice none 0 0]) 2 48 Tryz.underlying25 HJ0.out.1 HJ0.out.2.1 HJ0.out.2.2.1 HJ0.out.2.2.2 rfl (by omega) (.slice A0 j cr0) j css.flatten rfl HOW.out ⟨W3.heap.size,0,none⟩ 1 1 [.slice Aa m ca9,.slice Ac z cc9] rfl rfl (laid_news W3 _ _) (by simp [Value.oneCell']) (by simp only [maxLen];omega) (by omega) (by have:=HSZ.out;simp;omega) ?_;intro v8 W4 hr4 hg4 hl4;obtain ⟨A9,c9,e9⟩:=own_slice hr4;subst e9;have hb4:=HBP3.out.fr (grown_fr hg4) (fun e=>own_bk HOW.out HBP3.out (by decide) e rfl);have p4:=hb4.cell (i:=3) (by simp);have fp4:=hb4.free 3;simp only [List.getElem_cons_zero,List.getElem_cons_succ] at p4;have HS4:=Lib.hid hg4.size;have HN4:=Lib.hid (HNX.out W4 A9 c9 hr4 hg4 hl4);clear hr4 hg4 hl4 hb4))
           go_roundw
           case rel=>exact ⟨j + 1,by omega,by congr 1;omega,Lib.hid (by have:=HSZ.out;have:=HS4.out;simp at this ⊢;omega),by rw [HTK.out];exact HN4⟩
           case measure=>simp [intOf]
      ·obtain rfl:j=nr:=by omega
       rw [show (j:Int) - 1 - (j:Int) = -1 by omega]
       have hall:(q.rs.map revR).reverse.take j=(revQ q).rs:=List.take_of_length_le (by rw [List.length_reverse,List.length_map];have:=HNR.out;omega)
       have hrn:(revQ q).rs.length=j:=by
        show (q.rs.map revR).reverse.length=j
        rw [List.length_reverse,List.length_map,← HNR.out]
       obtain ⟨A0,cr0,css,Fo,hrow,hFo,hbp⟩:=HO.out.row
       rw [hall] at hrow
       have hin:=HIN.out.ext (HX6.out.trans HO.out.ext)
       have hqr:QyR (fun _=>True) W A ca A0 cr0 O co (revQ q):=⟨hin.qr.hd.mono (fun _ _ _=>trivial),by rw [hrn];exact hrow.sl (by decide) (fun _ _=>trivial) (fun _ _=>trivial),hin.qr.od.mono (by decide) (fun _ _ _=>trivial)⟩
       have HAN:=answers_any hqr (HDBB.out.ext (HX45.out.trans (HX56.out.trans HO.out.ext))) (revQ_z hin.z) (by have:=HS.out.o;show q.od.length≤100000;omega) HDI.out.db HNB.out HNM.out (revQ_prod HPR.out) hin.tab
       have hev0:checkE (schL M l) (revQ q)=0:=(check_M HNM.out).2 (revQ_chk HCHK.out)
       rw [hev0,hrn] at HAN
       change Calls _ _ #[.agg #[.slice A q.hd.length ca,.int .i64 q.ag,.string q.av,.slice A0 j cr0,.slice O q.od.length co],_] _ _ at HAN
       rw [← HNH.out,← HNO.out,← HAG.out,← HAV.out] at HAN
       have HAN7:=Lib.hid HAN
       have b0:=hbp.cell (i:=0) (by simp);have b1:=hbp.cell (i:=1) (by simp);have b2:=hbp.cell (i:=2) (by simp);have b3':=hbp.cell (i:=3) (by simp);have b4:=hbp.cell (i:=4) (by simp)
       have d0:=(HKD6.out.ext HO.out.ext).cell (i:=0) (by simp)
       simp only [List.getElem_cons_zero,List.getElem_cons_succ] at b0 b1 b2 b3' b4 d0
       clear hall hrn hrow hFo hbp hin hqr HAN hev0 b3
       go_wp2_with fail
       refine HAN7.out.mono ?_
       rintro e w9 ⟨hx9,hans⟩
       obtain ⟨A7,n7,c7,R',rfl,hR',hsl⟩:∃ A n c R,e = .returned (.tuple #[.slice A n c,.int .i64 0])∧AnsOk M (revQ q) R∧Sl rdRow (fun k=>W.heap.size≤k) w9 (.slice A n c) R:=by
        rcases hans with ⟨h,-⟩ | ⟨-,h,-⟩ | ⟨-,-,h⟩
        ·exact absurd rfl h
        ·exact absurd HAG0.out h
        ·exact h
       obtain rfl:R=R':=AnsOk.uniq HR6.out hR' rfl rfl (fun x=>(revQ_ans x).symm)
       have hlen:=HR6.out.len HDI.out.db HCHK.out HPR.out
       have hw:=HR6.out.wide
       have hr4:=HS.out.r
       have hh8:=HS.out.h
       have hRl:R.length≤1048576:=by omega
       have hsame:=sameall23 (HSL6.out.ext (HO.out.ext.trans hx9)) hsl (by rw [HSL6.out.cap.1];exact hRl) (by rw [hsl.cap.1];exact hRl) (fun x hx=>by rw [hw x hx];omega) (fun x hx=>by rw [hw x hx];omega)
       rw [show decide (R=R)=true from decide_eq_true rfl] at hsame
       have HSM:=Lib.hid hsame
       have HX9:=Lib.hid (HX6.out.trans (HO.out.ext.trans hx9))
       clear hsame hRl hh8 hr4 hw hlen hR' hsl hans hx9 b0 b1 b2 b3' b4 d0
       go_wp2_with fail
       refine HSM.out.mono ?_
       rintro e w10 ⟨v,rfl,he10,rfl⟩
       have HA10:=Lib.hid (HAW.out w10 (HX9.out.trans he10))
       have HE10:=Lib.hid he10
       clear he10
       go_wp2_with fail
       refine HA10.out.mono ?_
       rintro e w11 ⟨v,rfl,he11,rfl⟩
       go_wp2_with fail
       exact HRET.out _ (HX9.out.trans (HE10.out.trans he11))
   ·have HA5:=Lib.hid (HAW.out w5 HX5.out)
    clear hz hx5 b3
    go_wp2_with fail
    refine HA5.out.mono ?_
    rintro e w6 ⟨v,rfl,he,rfl⟩
    go_wp2_with fail
    exact HRET.out _ (HX5.out.trans he)
 ·have HA2:=Lib.hid (HAW.out w2 HX2.out)
  clear hz hx2 b0 b1 b2 b3 b4
  go_wp2_with fail
  refine HA2.out.mono ?_
  rintro e w3 ⟨v,rfl,he,rfl⟩
  go_wp2_with fail
  exact HRET.out _ (HX2.out.trans he)
end Go.Proofs.YtplldnnnhgnbjaaGreatDoor
