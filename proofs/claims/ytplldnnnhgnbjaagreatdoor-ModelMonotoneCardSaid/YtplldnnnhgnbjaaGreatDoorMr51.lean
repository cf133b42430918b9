/- packed -/
import Derived.Test.YtplldnnnhgnbjaaGreatDoorMr50
namespace Go.Proofs.YtplldnnnhgnbjaaGreatDoor
open Go.RowKit Go.Maps
theorem rl_one {F:Nat→Prop} {w:World} {cs:List Value} {r:Rl} (h:rdRl.R F w cs r):∀ u ∈ cs,u.oneCell'=true:=by
 obtain ⟨u,v,rfl,h1,h2⟩:=h
 obtain ⟨_,_,rfl⟩:=h1.sl
 obtain ⟨_,_,rfl⟩:=h2.sl
 intro x hx
 simp only [List.mem_cons,List.not_mem_nil,or_false] at hx
 rcases hx with rfl | rfl <;> rfl
theorem own_addr {w:World} {base sz n c:Nat} {E:TypeId} {A:Option Addr} {us:List Value} (h:w.ownsRow base E sz (.slice A n c) n us) (hn : 0 < n):∃ g,A=some ⟨g,0,none⟩:=by
 rcases h.2 with ⟨e,h0⟩ | ⟨g,cap,cur,e,-⟩
 ·omega
 ·injection e with e1
  exact ⟨g,e1⟩
theorem take_chk {M:Dm} {q:Qy} {n:Nat} (h:ChkM M q) (h0 : 0 < n) (hn:n≤q.rs.length):ChkM M (q.withRs (q.rs.take n)):=by
 refine chk_rules h (fun e=>?_) (by rw [List.length_take];omega) (fun r hr=>⟨r,List.mem_of_mem_take hr,id,fun _=>id⟩)
 have h9:=congrArg List.length e
 rw [List.length_take,List.length_nil] at h9
 omega
theorem take_ans {M:Dm} {q:Qy} {n:Nat} {x:List Vl} (h:ansP M (q.withRs (q.rs.take n)) x):ansP M q x :=
 let ⟨r,hr,h⟩:=h;⟨r,List.mem_of_mem_take hr,h⟩
set_option maxRecDepth 20000 in
set_option maxHeartbeats 6400000 in
theorem monotone_any {F G H:Nat→Prop} {w:World} {S U A B O:Option Addr} {ns cs nu cu ca cb co:Nat} {ss:List Sc} {us:List Up} {q:Qy} (h:LawIn F G H w S U A B O ns cs nu cu ca cb co ss us q) :
  Calls Tryz.prog 3 #[.slice S ns cs,.slice U nu cu,.agg #[.slice A q.hd.length ca,.int .i64 q.ag,.string q.av,.slice B q.rs.length cb,.slice O q.od.length co]] w (TrueE w):=by
 have kb:=Bk.new w 28 [.slice A q.hd.length ca,.int .i64 q.ag,.string q.av,.slice B q.rs.length cb,.slice O q.od.length co]
 have hx:=(Ext.refl w).alloc (.cells #[.slice A q.hd.length ca,.int .i64 q.ag,.string q.av,.slice B q.rs.length cb,.slice O q.od.length co] 28)
 have HRET:Hid (∀ V,Ext w V→TrueE w (.returned (.bool true)) V):=Lib.hid (fun V hV=>⟨hV,rfl⟩)
 obtain ⟨PP,hPP⟩:∃ P,P=TrueE w:=⟨_,rfl⟩
 rw [← hPP] at HRET ⊢
 have HG:=fun (V:World) (hV:Ext w V)=>(h.ext hV).great
 have HDB:=fun (V:World) (hV:Ext w V)=>(h.ext hV).database
 have HHV:=fun (V:World) (hV:Ext w V) (l:List ByteArray) (M:Dm) (T:Nat→Prop) (D:Option Addr) (m d:Nat)=>(h.ext hV).heavy (l:=l) (M:=M) (T:=T) (D:=D) (m:=m) (d:=d)
 obtain ⟨nh,hnh⟩:∃ n,n=q.hd.length:=⟨_,rfl⟩
 obtain ⟨nr,hnr⟩:∃ n,n=q.rs.length:=⟨_,rfl⟩
 obtain ⟨no,hno⟩:∃ n,n=q.od.length:=⟨_,rfl⟩
 obtain ⟨ag,hag⟩:∃ n,n=q.ag:=⟨_,rfl⟩
 obtain ⟨av,hav⟩:∃ n,n=q.av:=⟨_,rfl⟩
 rw [← hnh,← hnr,← hno,← hag,← hav] at kb hx HG ⊢
 rw [← hnr] at HHV
 have HNH:=Lib.hid hnh;have HNR:=Lib.hid hnr;have HNO:=Lib.hid hno;have HAG:=Lib.hid hag;have HAV:=Lib.hid hav
 have HIN:=Lib.hid h
 have HAW:=Lib.hid (fun (V:World) (hV:Ext w V)=>(h.ext hV).awake)
 have HDBH:=Lib.hid HDB;have HHVH:=Lib.hid HHV
 have HG1:=Lib.hid (HG _ hx)
 clear h hnh hnr hno hag hav hPP HG HDB HHV
 go_enter Tryz.func3,Tryz.ntmps3
 go_upto_region 1 with fail
 change Bk (w.alloc (.cells #[.slice A nh ca,.int .i64 ag,.string av,.slice B nr cb,.slice O no co] 28)) _ _ _ at kb
 generalize (w.alloc (.cells #[.slice A nh ca,.int .i64 ag,.string av,.slice B nr cb,.slice O no co] 28))=w1 at *
 have HKB:=Lib.hid kb;have HX:=Lib.hid hx
 have b0:=kb.cell (i:=0) (by simp);have b1:=kb.cell (i:=1) (by simp);have b2:=kb.cell (i:=2) (by simp);have b3:=kb.cell (i:=3) (by simp);have b4:=kb.cell (i:=4) (by simp)
 simp only [List.getElem_cons_zero,List.getElem_cons_succ] at b0 b1 b2 b3 b4
 obtain ⟨g0,hg0⟩:∃ g,g=w.heap.size:=⟨_,rfl⟩
 rw [← hg0] at HKB b0 b1 b2 b3 b4 ⊢
 have HG0:=Lib.hid hg0
 clear kb hx hg0
 go_wp2_with fail
 refine HG1.out.mono ?_
 rintro e w2 ⟨hx2,z,rfl,hz⟩
 have HX2:=Lib.hid (HX.out.trans hx2)
 rcases z with _ | _
 ·have HS:=Lib.hid (hz rfl)
  have HD2:=Lib.hid (HDBH.out w2 HX2.out HS.out)
  have HXB:=Lib.hid hx2
  clear hz hx2 b0 b1 b2 b3 b4
  go_wp2_with fail
  refine HD2.out.mono ?_
  rintro e w3 ⟨hx3,mb,Ad,nd,cd,z,rfl,hz,-⟩
  have HXB3:=Lib.hid (HXB.out.trans hx3)
  have HX3:=Lib.hid (HX2.out.trans hx3)
  have HZ:=Lib.hid hz
  have kd:=Bk.new w3 33 [.map mb]
  have hx4:=(Ext.refl w3).alloc (.cells #[.map mb] 33)
  clear hx3 hz
  go_upto_region 4 with fail
  change Bk (w3.alloc (.cells #[.map mb] 33)) _ _ _ at kd
  generalize (w3.alloc (.cells #[.map mb] 33))=w4 at *
  obtain ⟨g1,hg1⟩:∃ g,g=w3.heap.size:=⟨_,rfl⟩
  rw [← hg1] at kd ⊢
  have HG1':=Lib.hid hg1
  have HKD:=Lib.hid kd
  have HXB4:=Lib.hid (HXB3.out.trans hx4);have HX4:=Lib.hid (HX3.out.trans hx4);have HX34:=Lib.hid hx4
  clear kd hg1 hx4
  have b3:=HXB4.out.cell (HKB.out.cell (i:=3) (by simp))
  simp only [List.getElem_cons_zero,List.getElem_cons_succ] at b3
  rcases z with _ | _
  ·clear b3
   have HA4:=Lib.hid (HAW.out w4 HX4.out)
   go_wp2_with fail
   refine HA4.out.mono ?_
   rintro e w5 ⟨v,rfl,he,rfl⟩
   go_wp2_with fail
   exact HRET.out _ (HX4.out.trans he)
  ·obtain ⟨b,nb,M,W,T,rfl,hnb,hdb,hdi,hM,hxW,A9,c9,l,e9,hnm,hll,hsl⟩:=HZ.out rfl
   injection e9 with e1 e2 e3
   subst e1 e2 e3
   have HH5:=Lib.hid (HHVH.out w4 HX4.out l M _ _ _ _ HS.out (hsl.ext HX34.out) hnm (by omega) hdi)
   have HDBB:=Lib.hid (hdb.ext HX34.out);have HDI:=Lib.hid hdi;have HNM:=Lib.hid hnm;have HNB:Hid (nb≤1000000):=Lib.hid (by omega)
   clear hdb hdi hM hxW hnm hll hsl HZ hnb
   go_wp2_with fail
   refine HH5.out.mono ?_
   rintro e w5 ⟨hx5,z,rfl,hz⟩
   have HX5:=Lib.hid (HX4.out.trans hx5);have HX45:=Lib.hid hx5
   rcases z with _ | _
   ·have HPR:=Lib.hid (hz rfl)
    have k5:=HKB.out.ext (HXB4.out.trans hx5);have kd5:=HKD.out.ext hx5
    have b0:=k5.cell (i:=0) (by simp);have b1:=k5.cell (i:=1) (by simp);have b2:=k5.cell (i:=2) (by simp);have b3':=k5.cell (i:=3) (by simp);have b4:=k5.cell (i:=4) (by simp)
    have d0:=kd5.cell (i:=0) (by simp)
    simp only [List.getElem_cons_zero,List.getElem_cons_succ] at b0 b1 b2 b3' b4 d0
    have hin:=HIN.out.ext HX5.out
    have HAN:=answers_any hin.qr (HDBB.out.ext hx5) hin.z (by have:=HS.out.o;omega) HDI.out.db HNB.out HNM.out HPR.out hin.tab
    obtain ⟨ev,hev⟩:∃ x,x=checkE (schL M l) q:=⟨_,rfl⟩
    rw [← hev,← HNH.out,← HNR.out,← HNO.out,← HAG.out,← HAV.out] at HAN
    have HAN6:=Lib.hid HAN;have HEV:=Lib.hid hev
    have HK5:=Lib.hid k5;have HKD5:=Lib.hid kd5
    clear hz hx5 b3 k5 kd5 hin HAN hev
    go_wp2_with fail
    refine HAN6.out.mono ?_
    rintro e w6 ⟨hx6,hans⟩
    have HX6:=Lib.hid (HX5.out.trans hx6);have HX56:=Lib.hid hx6
    clear b0 b1 b2 b3' b4 d0 HAN6
    rcases hans with ⟨h0,rfl⟩ | ⟨h0,h1,rfl⟩ | ⟨h0,h1,A6,n6,c6,R,rfl,hR,hsl⟩
    ·have HA6:=Lib.hid (HAW.out w6 HX6.out)
     clear hx6
     go_wp2_with fail
     refine HA6.out.mono ?_
     rintro e w7 ⟨v,rfl,he,rfl⟩
     go_wp2_with fail
     exact HRET.out _ (HX6.out.trans he)
    ·have HA6:=Lib.hid (HAW.out w6 HX6.out)
     clear hx6
     go_wp2_with fail
     refine HA6.out.mono ?_
     rintro e w7 ⟨v,rfl,he,rfl⟩
     go_wp2_with fail
     exact HRET.out _ (HX6.out.trans he)
    ·subst h0
     have HR6:=Lib.hid hR;have HSL6:=Lib.hid hsl;have HAG0:Hid (q.ag=0):=Lib.hid h1
     have HCHK:Hid (ChkM M q):=Lib.hid ((check_M HNM.out).1 HEV.out.symm)
     have k6:=HK5.out.ext hx6
     have kd6:=HKD5.out.ext hx6
     have b0:=k6.cell (i:=0) (by simp);have b1:=k6.cell (i:=1) (by simp);have b2:=k6.cell (i:=2) (by simp);have b3:=k6.cell (i:=3) (by simp);have b4:=k6.cell (i:=4) (by simp)
     simp only [List.getElem_cons_zero,List.getElem_cons_succ] at b0 b1 b2 b3 b4
     have HK6:=Lib.hid k6;have HKD6:=Lib.hid kd6
     clear hR hsl h1 hx6 k6 kd6
     have hnr4:nr≤4:=by rw [HNR.out];exact HS.out.r
     have HRS:Hid (Sl rdRl (fun k=>k < w6.heap.size) w6 (.slice B nr cb) q.rs):=Lib.hid (by rw [HNR.out];exact (HIN.out.ext HX6.out).qr.rs.mono (by decide) (fun k hk _=>hk))
     by_cases hn1 : 1 < nr
     ·have hn1':(1:Int) < (nr:Int):=by omega
      have kp:=Bk.new w6 28 [.slice A nh ca,.int .i64 ag,.string av,.slice B nr cb,.slice O no co]
      have HX67:=(Ext.refl w6).alloc (.cells #[.slice A nh ca,.int .i64 ag,.string av,.slice B nr cb,.slice O no co] 28)
      go_upto_region 11 with fail
      change Bk (w6.alloc (.cells #[.slice A nh ca,.int .i64 ag,.string av,.slice B nr cb,.slice O no co] 28)) _ _ _ at kp
      generalize (w6.alloc (.cells #[.slice A nh ca,.int .i64 ag,.string av,.slice B nr cb,.slice O no co] 28))=w7 at *
      obtain ⟨gp,hgp⟩:∃ g,g=w6.heap.size:=⟨_,rfl⟩
      rw [← hgp] at kp ⊢
      clear b0 b1 b2 b4
      replace b3:=HX67.cell b3
      have fp3:=kp.free 3
      have p3:=kp.cell (i:=3) (by simp)
      simp only [List.getElem_cons_zero,List.getElem_cons_succ] at p3
      have hcb:nr≤cb:=by rw [HNR.out];exact HIN.out.qr.rs.cap.2
      have HKP:=Lib.hid kp;have HX67':=Lib.hid HX67;have HGP:=Lib.hid hgp
      clear kp HX67 hgp
      go_upto_region 12 with fail
      have kp8:=HKP.out.set 3 (.slice B (nr - 1) cb)
      simp only [List.set_cons_succ,List.set_cons_zero] at kp8
      have hx8:=HX67'.out.setCell (p:=⟨gp,3,none⟩) (by rw [HGP.out];exact Nat.le_refl _) (.slice B (nr - 1) cb)
      generalize (w7.setCell ⟨gp,3,none⟩ (.slice B (nr - 1) cb))=w8 at *
      have hin:=HIN.out.ext (HX6.out.trans hx8)
      have hrn:(q.rs.take (nr - 1)).length=nr - 1:=by rw [List.length_take,← HNR.out];omega
      have hqr:QyR H w8 A ca B cb O co (q.withRs (q.rs.take (nr - 1))):=⟨hin.qr.hd,by
       show Sl rdRl H w8 (.slice B (q.rs.take (nr - 1)).length cb) (q.rs.take (nr - 1))
       rw [hrn]
       exact hin.qr.rs.take (by rw [← HNR.out];omega),hin.qr.od⟩
      have hev0:checkE (schL M l) (q.withRs (q.rs.take (nr - 1)))=0:=(check_M HNM.out).2 (take_chk HCHK.out (by omega) (by rw [← HNR.out];omega))
      have HAN:=answers_any hqr (HDBB.out.ext (HX45.out.trans (HX56.out.trans hx8))) ⟨hin.z.hd,hin.z.av,fun r hr=>hin.z.rs r (List.mem_of_mem_take hr),hin.z.od⟩ (by have:=HS.out.o;show q.od.length≤100000;omega) HDI.out.db HNB.out HNM.out (fun r hr=>HPR.out r (List.mem_of_mem_take hr)) hin.tab
      rw [hev0] at HAN
      change Calls _ _ #[.agg #[.slice A q.hd.length ca,.int .i64 q.ag,.string q.av,.slice B (q.rs.take (nr - 1)).length cb,.slice O q.od.length co],_] _ _ at HAN
      rw [hrn,← HNH.out,← HNO.out,← HAG.out,← HAV.out] at HAN
      have HAN8:=Lib.hid HAN
      clear p3 fp3 b3 hin hqr hev0 HAN hrn
      have b0:=kp8.cell (i:=0) (by simp);have b1:=kp8.cell (i:=1) (by simp);have b2:=kp8.cell (i:=2) (by simp);have b3':=kp8.cell (i:=3) (by simp);have b4:=kp8.cell (i:=4) (by simp)
      have d0:=(HKD6.out.ext hx8).cell (i:=0) (by simp)
      simp only [List.getElem_cons_zero,List.getElem_cons_succ] at b0 b1 b2 b3' b4 d0
      have HX68:=Lib.hid hx8
      clear kp8 hx8
      go_wp2_with fail
      refine HAN8.out.mono ?_
      rintro e w9 ⟨hx9,hans⟩
      obtain ⟨A7,n7,c7,R',rfl,hR',hsl⟩:∃ A n c R,e = .returned (.tuple #[.slice A n c,.int .i64 0])∧AnsOk M (q.withRs (q.rs.take (nr - 1))) R∧Sl rdRow (fun k=>w8.heap.size≤k) w9 (.slice A n c) R:=by
       rcases hans with ⟨h,-⟩ | ⟨-,h,-⟩ | ⟨-,-,h⟩
       ·exact absurd rfl h
       ·exact absurd HAG0.out h
       ·exact h
      have hlen:=HR6.out.len HDI.out.db HCHK.out HPR.out
      have hw:=HR6.out.wide
      have hr4:=HS.out.r
      have hh8:=HS.out.h
      have hlen':=hR'.len HDI.out.db (take_chk HCHK.out (by omega) (by rw [← HNR.out];omega)) (fun r hr=>HPR.out r (List.mem_of_mem_take hr))
      have hrn:(q.withRs (q.rs.take (nr - 1))).rs.length≤q.rs.length:=by show (q.rs.take (nr - 1)).length≤_;rw [List.length_take];omega
      have hw':=hR'.wide
      change ∀ x ∈ R',x.length=q.hd.length at hw'
      have hsub:=subset23 hsl (HSL6.out.ext (HX68.out.trans hx9)) (by rw [hsl.cap.1];omega) (by rw [HSL6.out.cap.1];omega) (fun x hx=>by rw [hw' x hx];omega) (fun x hx=>by rw [hw x hx];omega)
      rw [show decide (∀ x ∈ R',x ∈ R)=true from decide_eq_true (fun x hx=>(HR6.out.mem x).2 (take_ans ((hR'.mem x).1 hx)))] at hsub
      have HSB:=Lib.hid hsub
      have HX69:=Lib.hid (HX68.out.trans hx9)
      clear hlen hw hr4 hh8 hlen' hrn hw' hsub hR' hsl hans hx9 b0 b1 b2 b3' b4 d0
      go_wp2_with fail
      refine HSB.out.mono ?_
      rintro e w10 ⟨v,rfl,he10,rfl⟩
      have HXZ:=Lib.hid (HX69.out.trans he10)
      clear he10
      go_upto_region 16 with fail
      go_loopw [15] (fun t wr=>∃ i:Nat,i≤nr∧t = .int .i64 (i:Int)∧Hid (Ext w6 wr)) (fun t _=>nr - (intOf t).toNat)
      case atStart=>exact ⟨0,Nat.zero_le _,rfl,HXZ⟩
      case round =>
       clear HXZ
       obtain ⟨i,hi,rfl,HE⟩:=hrel
       obtain ⟨W,rfl⟩:∃ W:World,W=wr:=⟨_,rfl⟩
       have kq:=HK6.out.ext HE.out
       have b0:=kq.cell (i:=0) (by simp);have b1:=kq.cell (i:=1) (by simp);have b2:=kq.cell (i:=2) (by simp);have b3:=kq.cell (i:=3) (by simp);have b4:=kq.cell (i:=4) (by simp)
       simp only [List.getElem_cons_zero,List.getElem_cons_succ] at b0 b1 b2 b3 b4
       clear kq
       by_cases hlt:i < nr
       ·have i1:(0:Int)≤(i:Int):=by omega
        have i2:(i:Int) < (nr:Int):=by omega
        have hix:i < q.rs.length:=by have:=HNR.out;omega
        obtain ⟨ad,B1,d1,C1,e1,rfl,had,f0,f1,hA1,hC1⟩:=HRS.out.rl hix
        obtain ⟨css,hcl,hcf,hcr,hcn⟩:=HRS.out.news (by decide)
        have hone:∀ u ∈ css.flatten,u.oneCell'=true:=fun u hu=>by
         obtain ⟨cs,hcs,hu⟩:=List.mem_flatten.1 hu
         obtain ⟨k,hk,rfl⟩:=List.getElem_of_mem hcs
         exact rl_one (hcr k (by omega) hk) u hu
        have HCF:=Lib.hid hcf;have HCR:=Lib.hid hcr;have HCL:=Lib.hid hcl;have HCN:=Lib.hid hcn;have HONE:=Lib.hid hone
        have HF0:=Lib.hid f0;have HAT:=Lib.hid hA1;have HCD:=Lib.hid hC1;have HAD:=Lib.hid had
        have kp:=Bk.new W 28 [.slice A nh ca,.int .i64 ag,.string av,.slice (some ad) nr cb,.slice O no co]
        have HXW:=(Ext.refl W).alloc (.cells #[.slice A nh ca,.int .i64 ag,.string av,.slice (some ad) nr cb,.slice O no co] 28)
        clear hcl hcf hcr hcn hone f0 f1 hA1 hC1 had
        go_upto_region 19 with fail
        change Bk (W.alloc (.cells #[.slice A nh ca,.int .i64 ag,.string av,.slice (some ad) nr cb,.slice O no co] 28)) _ _ _ at kp
        generalize (W.alloc (.cells #[.slice A nh ca,.int .i64 ag,.string av,.slice (some ad) nr cb,.slice O no co] 28))=wp at *
        obtain ⟨gr,hgr⟩:∃ g,g=W.heap.size:=⟨_,rfl⟩
        rw [← hgr] at kp ⊢
        replace b3:=HXW.cell b3
        have HGR:=Lib.hid hgr;have HXWp:=Lib.hid HXW
        have hxa:=(Ext.refl wp).alloc (.cells #[] 46)
        have HKP4:=Lib.hid (kp.ext hxa)
        have HLT:Hid (gr < wp.heap.size):=Lib.hid kp.lt
        have HCN2:Hid (∀ j u,css.flatten[j]?=some u→(wp.alloc (.cells #[] 46)).cell? (ad.add j)=some u):=Lib.hid (fun j u hu=>(HE.out.trans (HXW.trans hxa)).cell (HCN.out j u hu))
        obtain ⟨j0,hj0,hz0,hz1,hz2⟩:=info_parts info_rule
        have HJ0:=Lib.hid (And.intro hj0 (And.intro hz0 (And.intro hz1 hz2)))
        have b3a:=hxa.cell b3
        clear hj0 hz0 hz1 hz2 hgr HXW kp hxa b3
        have HSZ:Hid (w6.heap.size≤W.heap.size):=Lib.hid HE.out.size
        go_upto_region 20 with (first
         | (at_builtin;refine wpList_append_at rfl _ _ 25 rfl wp.heap.size 46 j0 (.agg #[.slice none 0 0,.slice none 0 0]) 2 48 Tryz.underlying25 HJ0.out.1 HJ0.out.2.1 HJ0.out.2.2.1 HJ0.out.2.2.2 rfl (by omega) (.slice (some ⟨wp.heap.size,0,none⟩) 0 0) 0 [] rfl (World.ownsRow_made wp #[] 0 (Nat.le_refl _) (Nat.zero_le _) rfl) ad nr cb css.flatten rfl HCF.out HCN2.out HONE.out (by simp only [maxLen];omega) (by omega) (by simp) ?_;intro v9 w11 hr9 hg9 hl9;rw [Nat.zero_add,List.nil_append] at hr9;obtain ⟨A9,c9,e9⟩:=own_slice hr9;subst e9;have hk9:=HKP4.out.fr (grown_fr hg9) (fun e=>by have:=HLT.out;simp [Value.ownBlock] at e;omega);have p3:=hk9.cell (i:=3) (by simp);have fp3:=hk9.free 3;simp only [List.getElem_cons_zero,List.getElem_cons_succ] at p3;have HR9:=Lib.hid hr9;have HG9:=Lib.hid hg9;have HL9:=Lib.hid hl9;have HK9:=Lib.hid hk9;clear hr9 hg9 hl9 hk9))
        obtain ⟨g9,rfl⟩:=own_addr HR9.out (by omega)
        have hset:Fr (fun k=>k=gr) w11 (w11.setCell ⟨gr,3,none⟩ (.slice (some ⟨g9,0,none⟩) nr c9)):=(Fr.refl (fun k=>k=gr) w11).setCell (p:=⟨gr,3,none⟩) (.inl rfl) _
        have hk12:=HK9.out.set 3 (.slice (some ⟨g9,0,none⟩) nr c9)
        simp only [List.set_cons_succ,List.set_cons_zero] at hk12
        have hne:g9 ≠ gr:=own_bk HR9.out HK9.out (by decide) rfl
        have hr12:=own_fr HR9.out hset (fun k hk e=>own_bk HR9.out HK9.out (by decide) hk e)
        have hx11:Ext w6 w11:=(((HE.out.trans HXWp.out).alloc (.cells #[] 46)).grown HG9.out (fun k hk=>by have:=HXWp.out.size;have:=HSZ.out;simp [Value.ownBlock] at hk;omega))
        have hx12:=hx11.setCell (p:=⟨gr,3,none⟩) (by have:=HGR.out;have:=HSZ.out;show w6.heap.size≤gr;omega) (.slice (some ⟨g9,0,none⟩) nr c9)
        generalize (w11.setCell ⟨gr,3,none⟩ (.slice (some ⟨g9,0,none⟩) nr c9))=w12 at *
        have HG12:Hid (RwG rdRl (fun k=>k < w6.heap.size) w12 wp.heap.size 46 (.slice (some ⟨g9,0,none⟩) nr c9) nr q.rs css):=Lib.hid ⟨HCL.out,hr12,fun k h1 h2=>rdRl.ext (HCR.out k h1 h2) hx12,fun k hk=>⟨fun e=>by
         have h1:=own_ge hr12 e
         have h2:=HXWp.out.size
         have h3:=HSZ.out
         omega,Nat.lt_of_lt_of_le hk hx12.size⟩⟩
        have p3':=hk12.cell (i:=3) (by simp)
        simp only [List.getElem_cons_zero,List.getElem_cons_succ] at p3'
        obtain ⟨⟨cv,hcv⟩,hcf⟩:=own_cellS hr12 (i:=i * 2 + 1) (by omega)
        clear p3 fp3 b3a
        go_upto_region 21 with fail
        have hcl:i < css.length:=by rw [HCL.out];exact hix
        have hRi:=HCR.out i hix hcl
        have hG13:=HG12.out.setc (j:=1) (u:=.slice none 0 0) (x:=noCds q.rs[i]) hix hcl (by decide) (by
         have hs12:Fr (fun k=>k=g9) w12 (w12.setCell ⟨g9,i * rdRl.sz + 1,none⟩ (.slice none 0 0)):=(Fr.refl (fun k=>k=g9) w12).setCell (p:=⟨g9,i * rdRl.sz + 1,none⟩) (.inl rfl) _
         have h9:=rdRl.fr (rdRl.ext hRi hx12) hs12 (fun k hk e=>(HG12.out.sep k hk).1 (by rw [e];rfl))
         obtain ⟨u,v,e,k1,k2⟩:=h9
         rw [e]
         exact ⟨u,_,rfl,k1,Sl.nil _ _ _⟩)
        change RwG rdRl _ (w12.setCell ⟨g9,i * 2 + 1,none⟩ (.slice none 0 0)) _ _ _ _ _ _ at hG13
        have hge9:wp.heap.size≤g9:=own_ge hr12 rfl
        have hk13:=hk12.fr ((Fr.refl (fun k=>k=g9) w12).setCell (p:=⟨g9,i * 2 + 1,none⟩) (.inl rfl) (.slice none 0 0)) (fun e=>hne e.symm)
        have hx13:=hx12.setCell (p:=⟨g9,i * 2 + 1,none⟩) (by have:=HXWp.out.size;have:=HSZ.out;show w6.heap.size≤g9;omega) (.slice none 0 0)
        generalize (w12.setCell ⟨g9,i * 2 + 1,none⟩ (.slice none 0 0))=w13 at *
        have hin:=HIN.out.ext (HX6.out.trans hx13)
        obtain ⟨q1,hq1⟩:∃ x,x=q.withRs (q.rs.set i (noCds q.rs[i])):=⟨_,rfl⟩
        have hrn1:q1.rs.length=nr:=by rw [hq1];show (q.rs.set i _).length=nr;rw [List.length_set,← HNR.out]
        have hqr:QyR (fun _=>True) w13 A ca (some ⟨g9,0,none⟩) c9 O co q1:=by
         refine ⟨?_,?_,?_⟩
         ·rw [hq1];exact hin.qr.hd.mono (fun _ _ _=>trivial)
         ·rw [hrn1,hq1];exact hG13.sl (by decide) (fun _ _=>trivial) (fun _ _=>trivial)
         ·rw [hq1];exact hin.qr.od.mono (by decide) (fun _ _ _=>trivial)
        have hz1:QyZ q1:=by rw [hq1];exact set_z hin.z (noCds_z (hin.z.rs _ (List.getElem_mem hix)))
        have hc1:ChkM M q1:=by rw [hq1];exact set_chk HCHK.out hix (fun κ h=>noCds_ok) (fun κ h=>noCds_ty h)
        have hp1:∀ r ∈ q1.rs,prodA M (posL r)≤1500:=by rw [hq1];exact set_prod hix HPR.out rfl
        have hev0:checkE (schL M l) q1=0:=(check_M HNM.out).2 hc1
        have HAN:=answers_any hqr (HDBB.out.ext (HX45.out.trans (HX56.out.trans hx13))) hz1 (by rw [hq1];have:=HS.out.o;show q.od.length≤100000;omega) HDI.out.db HNB.out HNM.out hp1 hin.tab
        rw [hev0,hrn1] at HAN
        rw [show q1.hd=q.hd by rw [hq1];rfl,show q1.ag=q.ag by rw [hq1];rfl,show q1.av=q.av by rw [hq1];rfl,show q1.od=q.od by rw [hq1];rfl,← HNH.out,← HNO.out,← HAG.out,← HAV.out] at HAN
        have HANX:=Lib.hid HAN
        have HQ1:=Lib.hid hq1;have HC1:=Lib.hid hc1;have HP1:=Lib.hid hp1;have HRN1:=Lib.hid hrn1
        clear hin hqr hz1 hc1 hp1 hev0 HAN hrn1 hq1
        have HK13:=Lib.hid hk13;have HG13:=Lib.hid hG13;have HX613:=Lib.hid hx13;have HGE9:=Lib.hid hge9
        have p0:=hk13.cell (i:=0) (by simp);have p1:=hk13.cell (i:=1) (by simp);have p2:=hk13.cell (i:=2) (by simp);have p3:=hk13.cell (i:=3) (by simp);have p4:=hk13.cell (i:=4) (by simp)
        have d0:=(HKD6.out.ext hx13).cell (i:=0) (by simp)
        simp only [List.getElem_cons_zero,List.getElem_cons_succ] at p0 p1 p2 p3 p4 d0
        clear hk13 hG13 hx13 hge9 hr12 hk12 hx12 hx11 HG12 hRi hcv hcf p3' hset
        go_wp2_with fail
        refine HANX.out.mono ?_
        rintro e w14 ⟨hx14,hans⟩
        obtain ⟨A7,n7,c7,R1,rfl,hR',hsl⟩:∃ A n c R,e = .returned (.tuple #[.slice A n c,.int .i64 0])∧AnsOk M q1 R∧Sl rdRow (fun k=>w13.heap.size≤k) w14 (.slice A n c) R:=by
         rcases hans with ⟨h,-⟩ | ⟨-,h,-⟩ | ⟨-,-,h⟩
         ·exact absurd rfl h
         ·rw [HQ1.out] at h;exact absurd HAG0.out h
         ·exact h
        have hlen:=HR6.out.len HDI.out.db HCHK.out HPR.out
        have hw:=HR6.out.wide
        have hr4:=HS.out.r
        have hh8:=HS.out.h
        have hlen':=hR'.len HDI.out.db HC1.out HP1.out
        rw [HRN1.out] at hlen'
        have hw':=hR'.wide
        rw [HQ1.out] at hw'
        change ∀ x ∈ R1,x.length=q.hd.length at hw'
        have hsub:=subset23 (HSL6.out.ext (HX613.out.trans hx14)) hsl (by rw [HSL6.out.cap.1];omega) (by rw [hsl.cap.1];omega) (fun x hx=>by rw [hw x hx];omega) (fun x hx=>by rw [hw' x hx];omega)
        rw [show decide (∀ x ∈ R,x ∈ R1)=true from decide_eq_true (fun x hx=>(hR'.mem x).2 (by rw [HQ1.out];exact set_ans hix (fun σ=>satF_noCds) ((HR6.out.mem x).1 hx)))] at hsub
        have HSB1:=Lib.hid hsub
        have HX1314:=Lib.hid hx14;have HR1:=Lib.hid hR';have HSL1:=Lib.hid hsl;have HW1:=Lib.hid hw';have HL1:Hid (R1.length≤1048576):=Lib.hid (by omega)
        have HQ11:=HQ1
        clear hlen hw hr4 hh8 hlen' hw' hsub hR' hsl hans hx14 p0 p1 p2 p3 p4 d0 HQ1 HC1 HP1 HRN1 HANX
        go_wp2_with fail
        refine HSB1.out.mono ?_
        rintro e w15 ⟨v,rfl,he15,rfl⟩
        have HX1315:=Lib.hid (HX1314.out.trans he15);have HX1415:=Lib.hid he15
        have HX615:=Lib.hid (HX613.out.trans HX1315.out)
        clear he15
        obtain ⟨na,hna⟩:∃ n,n=q.rs[i].ats.length:=⟨_,rfl⟩
        obtain ⟨_,_,e9,-,hat2⟩:=HAT.out.at'
        injection e9 with e1 e2 e3
        subst e1
        have hf0:=HF0.out
        rw [← hna] at hf0
        have hna7:na≤7:=by rw [hna];exact (HS.out.l _ (List.getElem_mem hix)).la
        have HF02:=Lib.hid hf0;have HNA:=Lib.hid hna;have HAT2:=Lib.hid hat2
        obtain ⟨j1,hj1,hy0,hy1,hy2⟩:=info_parts info_atom
        have HJ1:=Lib.hid (And.intro hj1 (And.intro hy0 (And.intro hy1 hy2)))
        clear hj1 hy0 hy1 hy2 hat2 hf0 hna e2 e3
        go_wp2_with fail
        go_loopw [19,20] (fun v t wr=>∃ (k m:Nat) (P:Option Addr) (cp:Nat) (css3:List (List Value)),k≤na∧t = .int .i64 (k:Int)∧v = .slice P m cp∧Hid (m≤k)∧Hid (RwF rdAt (fun k=>k < w6.heap.size) wr w15.heap.size 49 (.slice P m cp) m (posA (q.rs[i].ats.take k)) css3)∧Hid (Ext w15 wr)) (fun _ t _=>na - (intOf t).toNat)
        case atStart=>exact ⟨0,0,none,0,[],Nat.zero_le _,rfl,rfl,Lib.hid (Nat.le_refl _),Lib.hid (RwF.empty (fun k hk=>Nat.lt_of_lt_of_le hk HX615.out.size)),Lib.hid (Ext.refl _)⟩
        case round =>
         obtain ⟨k,m,P,cp,css3,hk,rfl,rfl,HMK,HO,HE2⟩:=hrel
         obtain ⟨W2,rfl⟩:∃ W:World,W=wr:=⟨_,rfl⟩
         have HE62:=Lib.hid (HX615.out.trans HE2.out)
         have b3:=HE62.out.cell (HK6.out.cell (i:=3) (by simp))
         simp only [List.getElem_cons_zero,List.getElem_cons_succ] at b3
         have f0:=HE62.out.cell HF02.out
         by_cases hkt:k < na
         ·have k1:(0:Int)≤(k:Int):=by omega
          have k2:(k:Int) < (na:Int):=by omega
          have hkx:k < q.rs[i].ats.length:=by have:=HNA.out;omega
          obtain ⟨ae,C,dd,e9,hae,c0,c1,c2,hd,htc⟩:=HAT2.out k hkx
          have hT:Ts (fun k=>k < w6.heap.size) w6 (.slice C q.rs[i].ats[k].terms.length dd) q.rs[i].ats[k].terms:=⟨_,_,rfl,hd,htc⟩
          have htk:=posA_one hkx
          obtain ⟨a,ha⟩:∃ a,a=q.rs[i].ats[k]:=⟨_,rfl⟩
          rw [← ha] at c0 c1 c2 hT htk
          have hRd:rdAt.R (fun k=>k < w6.heap.size) W2 [.bool a.neg,.string a.rel,.slice C a.terms.length dd] a:=⟨_,rfl,hT.ext HE62.out⟩
          obtain ⟨nt,hnt⟩:∃ n,n=a.terms.length:=⟨_,rfl⟩
          obtain ⟨s,hs⟩:∃ s,s=a.rel:=⟨_,rfl⟩
          rw [← hs] at c1 hRd
          rw [← hnt] at c2 hRd
          replace c0:=HE62.out.cell c0;replace c1:=HE62.out.cell c1;replace c2:=HE62.out.cell c2
          have hmk:=HMK.out
          have HWS:Hid (w15.heap.size≤W2.heap.size):=Lib.hid HE2.out.size
          subst e9
          rcases hng:a.neg with _ | _
          ·rw [hng] at c0 hRd
           rw [if_pos hng] at htk
           have HRD:=Lib.hid hRd;have HTK:=Lib.hid htk
           clear hd htc hT hkx htk ha hng hs hnt hae hRd
           go_wp2_with (first
            | (at_builtin;refine wpList_append_at rfl _ _ 43 rfl w15.heap.size 49 j1 (.agg #[.bool false,.string ⟨#[]⟩,.slice none 0 0]) 3 48 Tryz.underlying43 HJ1.out.1 HJ1.out.2.1 HJ1.out.2.2.1 HJ1.out.2.2.2 rfl (by omega) (.slice P m cp) m css3.flatten rfl (HO.out.own.alloc _) ⟨W2.heap.size,0,none⟩ 1 1 [.bool false,.string s,.slice C nt dd] rfl rfl (laid_news W2 _ _) (by simp [Value.oneCell']) (by simp only [maxLen];omega) (by omega) (by have:=HWS.out;simp;omega) ?_;intro v3 W3 hr3 hg3 hl3;obtain ⟨P3,c3,e3⟩:=own_slice hr3;subst e3;have HR3:=Lib.hid (HO.out.more ((Ext.refl W2).alloc _) (rdAt.ext HRD.out ((Ext.refl W2).alloc _)) hr3 hg3);have HX3:=Lib.hid ((HE2.out.alloc _).grown hg3 (fun k hk=>own_ge HO.out.own hk));clear hr3 hg3 hl3))
           go_roundw
           case rel=>exact ⟨k + 1,m + 1,P3,c3,_,by omega,by go_num,rfl,Lib.hid (by omega),Lib.hid (by rw [HTK.out];exact HR3.out),HX3⟩
           case measure=>simp [intOf];omega
          ·rw [hng] at c0
           rw [if_neg (by rw [hng];decide)] at htk
           have HTK:=Lib.hid htk
           clear hd htc hT hkx htk ha hng hs hnt hae hRd
           go_wp2_with fail
           go_roundw
           case rel=>exact ⟨k + 1,m,P,cp,css3,by omega,by go_num,rfl,Lib.hid (by omega),Lib.hid (by rw [HTK.out];exact HO.out),HE2⟩
           case measure=>simp [intOf];omega
         ·obtain rfl:k=na:=by omega
          have hall:posA (q.rs[i].ats.take k)=posL q.rs[i]:=by rw [List.take_of_length_le (by have:=HNA.out;omega)];rfl
          have ho:=HO.out
          rw [hall] at ho
          have hgb:g9 < w15.heap.size:=Nat.lt_of_lt_of_le (own_lt HG13.out.own rfl) HX1315.out.size
          have hk2:=HK13.out.ext (HX1315.out.trans HE2.out)
          have p3:=hk2.cell (i:=3) (by simp)
          simp only [List.getElem_cons_zero,List.getElem_cons_succ] at p3
          obtain ⟨⟨cv,hcv⟩,hcf⟩:=own_cellS (HG13.out.ext (HX1315.out.trans HE2.out)).own (i:=i * 2) (by show i * 2 < nr * 2;omega)
          obtain ⟨css4,hG16⟩:=RwG.only hix (HG13.out.ext (HX1315.out.trans HE2.out)) ho hgb HE2.out.size
          have hk16:=hk2.fr ((Fr.refl (fun k=>k=g9) W2).setCell (p:=⟨g9,i * 2 + 0,none⟩) (.inl rfl) (.slice P m cp)) (fun e=>hne e.symm)
          have hx16:=HE62.out.setCell (p:=⟨g9,i * 2 + 0,none⟩) (by have:=HXWp.out.size;have:=HSZ.out;have:=HGE9.out;show w6.heap.size≤g9;omega) (.slice P m cp)
          have hs16:=(HSL1.out.ext (HX1415.out.trans HE2.out)).fr ((Fr.refl (fun k=>k=g9) W2).setCell (p:=⟨g9,i * 2 + 0,none⟩) (.inl rfl) (.slice P m cp)) (fun k hk e=>by have:=own_lt HG13.out.own (k:=g9) rfl;omega)
          rw [Nat.add_zero] at hG16 hk16 hx16 hs16
          clear ho hall hk2
          go_upto_region 31 with fail
          clear f0 b3 p3 hcv hcf
          generalize (W2.setCell ⟨g9,i * 2,none⟩ (.slice P m cp))=w16 at *
          have hin:=HIN.out.ext (HX6.out.trans hx16)
          obtain ⟨q2,hq1⟩:∃ x,x=q.withRs (q.rs.set i (onlyPos q.rs[i])):=⟨_,rfl⟩
          have hrn1:q2.rs.length=nr:=by rw [hq1];show (q.rs.set i _).length=nr;rw [List.length_set,← HNR.out]
          have hqr:QyR (fun _=>True) w16 A ca (some ⟨g9,0,none⟩) c9 O co q2:=by
           refine ⟨?_,?_,?_⟩
           ·rw [hq1];exact hin.qr.hd.mono (fun _ _ _=>trivial)
           ·rw [hrn1,hq1];exact hG16.sl (by decide) (fun _ _=>trivial) (fun _ _=>trivial)
           ·rw [hq1];exact hin.qr.od.mono (by decide) (fun _ _ _=>trivial)
          have hz1:QyZ q2:=by rw [hq1];exact set_z hin.z (onlyPos_z (hin.z.rs _ (List.getElem_mem hix)))
          have hc1:ChkM M q2:=by rw [hq1];exact set_chk HCHK.out hix (fun κ h=>onlyPos_ok h) (fun κ h=>onlyPos_ty h)
          have hp1:∀ r ∈ q2.rs,prodA M (posL r)≤1500:=by rw [hq1];exact set_prod hix HPR.out (posL_only _)
          have hev0:checkE (schL M l) q2=0:=(check_M HNM.out).2 hc1
          have HAN:=answers_any hqr (HDBB.out.ext (HX45.out.trans (HX56.out.trans hx16))) hz1 (by rw [hq1];have:=HS.out.o;show q.od.length≤100000;omega) HDI.out.db HNB.out HNM.out hp1 hin.tab
          rw [hev0,hrn1] at HAN
          rw [show q2.hd=q.hd by rw [hq1];rfl,show q2.ag=q.ag by rw [hq1];rfl,show q2.av=q.av by rw [hq1];rfl,show q2.od=q.od by rw [hq1];rfl,← HNH.out,← HNO.out,← HAG.out,← HAV.out] at HAN
          have HANX:=Lib.hid HAN
          have HQ2:=Lib.hid hq1;have HC2:=Lib.hid hc1;have HP2:=Lib.hid hp1;have HRN2:=Lib.hid hrn1
          clear hin hqr hz1 hc1 hp1 hev0 HAN hrn1 hq1
          have HX616:=Lib.hid hx16;have HS16:=Lib.hid hs16
          have p0:=hk16.cell (i:=0) (by simp);have p1:=hk16.cell (i:=1) (by simp);have p2:=hk16.cell (i:=2) (by simp);have p3:=hk16.cell (i:=3) (by simp);have p4:=hk16.cell (i:=4) (by simp)
          have d0:=(HKD6.out.ext hx16).cell (i:=0) (by simp)
          simp only [List.getElem_cons_zero,List.getElem_cons_succ] at p0 p1 p2 p3 p4 d0
          clear hk16 hG16 hx16 hs16
          go_wp2_with fail
          refine HANX.out.mono ?_
          rintro e w17 ⟨hx17,hans⟩
          obtain ⟨A8,n8,c8,R2,rfl,hR',hsl⟩:∃ A n c R,e = .returned (.tuple #[.slice A n c,.int .i64 0])∧AnsOk M q2 R∧Sl rdRow (fun k=>w16.heap.size≤k) w17 (.slice A n c) R:=by
           rcases hans with ⟨h,-⟩ | ⟨-,h,-⟩ | ⟨-,-,h⟩
           ·exact absurd rfl h
           ·rw [HQ2.out] at h;exact absurd HAG0.out h
           ·exact h
          have hr4:=HS.out.r
          have hh8:=HS.out.h
          have hw:=HW1.out
          have hlen:=HL1.out
          have hlen':=hR'.len HDI.out.db HC2.out HP2.out
          rw [HRN2.out] at hlen'
          have hw':=hR'.wide
          rw [HQ2.out] at hw'
          change ∀ x ∈ R2,x.length=q.hd.length at hw'
          have hsub:=subset23 (HS16.out.ext hx17) hsl (by rw [HS16.out.cap.1];omega) (by rw [hsl.cap.1];omega) (fun x hx=>by rw [hw x hx];omega) (fun x hx=>by rw [hw' x hx];omega)
          rw [show decide (∀ x ∈ R1,x ∈ R2)=true from decide_eq_true (fun x hx=>(hR'.mem x).2 (by
           rw [HQ2.out]
           refine set_ans2 hix ?_
           rw [← HQ11.out]
           exact (HR1.out.mem x).1 hx))] at hsub
          have HSB2:=Lib.hid hsub
          have HX1617:=Lib.hid hx17
          clear hr4 hh8 hw hlen hlen' hw' hsub hR' hsl hans hx17 p0 p1 p2 p3 p4 d0 HQ2 HC2 HP2 HRN2 HANX
          go_wp2_with fail
          refine HSB2.out.mono ?_
          rintro e w18 ⟨v,rfl,he18,rfl⟩
          have HF:=Lib.hid (HX616.out.trans (HX1617.out.trans he18))
          clear he18
          go_wp2_with fail
          go_roundw
          case rel=>exact ⟨i + 1,by omega,by go_num,HF⟩
          case measure=>simp [intOf];omega
       ·obtain rfl:i=nr:=by omega
        have HA6:=Lib.hid (HAW.out W (HX6.out.trans HE.out))
        clear b0 b1 b2 b4
        go_wp2_with fail
        refine HA6.out.mono ?_
        rintro e w7 ⟨v,rfl,he,rfl⟩
        go_wp2_with fail
        exact HRET.out _ (HX6.out.trans (HE.out.trans he))
     ·have hn1':¬ (1:Int) < (nr:Int):=by omega
      have HXZ:=Lib.hid (Ext.refl w6)
      clear b0 b1 b2 b4
      go_upto_region 16 with fail
      clear b3
      go_loopw [15] (fun t wr=>∃ i:Nat,i≤nr∧t = .int .i64 (i:Int)∧Hid (Ext w6 wr)) (fun t _=>nr - (intOf t).toNat)
      case atStart=>exact ⟨0,Nat.zero_le _,rfl,HXZ⟩
      case round =>
       clear HXZ
       obtain ⟨i,hi,rfl,HE⟩:=hrel
       obtain ⟨W,rfl⟩:∃ W:World,W=wr:=⟨_,rfl⟩
       have kq:=HK6.out.ext HE.out
       have b0:=kq.cell (i:=0) (by simp);have b1:=kq.cell (i:=1) (by simp);have b2:=kq.cell (i:=2) (by simp);have b3:=kq.cell (i:=3) (by simp);have b4:=kq.cell (i:=4) (by simp)
       simp only [List.getElem_cons_zero,List.getElem_cons_succ] at b0 b1 b2 b3 b4
       clear kq
       by_cases hlt:i < nr
       ·have i1:(0:Int)≤(i:Int):=by omega
        have i2:(i:Int) < (nr:Int):=by omega
        have hix:i < q.rs.length:=by have:=HNR.out;omega
        obtain ⟨ad,B1,d1,C1,e1,rfl,had,f0,f1,hA1,hC1⟩:=HRS.out.rl hix
        obtain ⟨css,hcl,hcf,hcr,hcn⟩:=HRS.out.news (by decide)
        have hone:∀ u ∈ css.flatten,u.oneCell'=true:=fun u hu=>by
         obtain ⟨cs,hcs,hu⟩:=List.mem_flatten.1 hu
         obtain ⟨k,hk,rfl⟩:=List.getElem_of_mem hcs
         exact rl_one (hcr k (by omega) hk) u hu
        have HCF:=Lib.hid hcf;have HCR:=Lib.hid hcr;have HCL:=Lib.hid hcl;have HCN:=Lib.hid hcn;have HONE:=Lib.hid hone
        have HF0:=Lib.hid f0;have HAT:=Lib.hid hA1;have HCD:=Lib.hid hC1;have HAD:=Lib.hid had
        have kp:=Bk.new W 28 [.slice A nh ca,.int .i64 ag,.string av,.slice (some ad) nr cb,.slice O no co]
        have HXW:=(Ext.refl W).alloc (.cells #[.slice A nh ca,.int .i64 ag,.string av,.slice (some ad) nr cb,.slice O no co] 28)
        clear hcl hcf hcr hcn hone f0 f1 hA1 hC1 had
        go_upto_region 19 with fail
        change Bk (W.alloc (.cells #[.slice A nh ca,.int .i64 ag,.string av,.slice (some ad) nr cb,.slice O no co] 28)) _ _ _ at kp
        generalize (W.alloc (.cells #[.slice A nh ca,.int .i64 ag,.string av,.slice (some ad) nr cb,.slice O no co] 28))=wp at *
        obtain ⟨gr,hgr⟩:∃ g,g=W.heap.size:=⟨_,rfl⟩
        rw [← hgr] at kp ⊢
        replace b3:=HXW.cell b3
        have HGR:=Lib.hid hgr;have HXWp:=Lib.hid HXW
        have hxa:=(Ext.refl wp).alloc (.cells #[] 46)
        have HKP4:=Lib.hid (kp.ext hxa)
        have HLT:Hid (gr < wp.heap.size):=Lib.hid kp.lt
        have HCN2:Hid (∀ j u,css.flatten[j]?=some u→(wp.alloc (.cells #[] 46)).cell? (ad.add j)=some u):=Lib.hid (fun j u hu=>(HE.out.trans (HXW.trans hxa)).cell (HCN.out j u hu))
        obtain ⟨j0,hj0,hz0,hz1,hz2⟩:=info_parts info_rule
        have HJ0:=Lib.hid (And.intro hj0 (And.intro hz0 (And.intro hz1 hz2)))
        have b3a:=hxa.cell b3
        clear hj0 hz0 hz1 hz2 hgr HXW kp hxa b3
        have HSZ:Hid (w6.heap.size≤W.heap.size):=Lib.hid HE.out.size
        go_upto_region 20 with (first
         | (at_builtin;refine wpList_append_at rfl _ _ 25 rfl wp.heap.size 46 j0 (.agg #[.slice none 0 0,.slice none 0 0]) 2 48 Tryz.underlying25 HJ0.out.1 HJ0.out.2.1 HJ0.out.2.2.1 HJ0.out.2.2.2 rfl (by omega) (.slice (some ⟨wp.heap.size,0,none⟩) 0 0) 0 [] rfl (World.ownsRow_made wp #[] 0 (Nat.le_refl _) (Nat.zero_le _) rfl) ad nr cb css.flatten rfl HCF.out HCN2.out HONE.out (by simp only [maxLen];omega) (by omega) (by simp) ?_;intro v9 w11 hr9 hg9 hl9;rw [Nat.zero_add,List.nil_append] at hr9;obtain ⟨A9,c9,e9⟩:=own_slice hr9;subst e9;have hk9:=HKP4.out.fr (grown_fr hg9) (fun e=>by have:=HLT.out;simp [Value.ownBlock] at e;omega);have p3:=hk9.cell (i:=3) (by simp);have fp3:=hk9.free 3;simp only [List.getElem_cons_zero,List.getElem_cons_succ] at p3;have HR9:=Lib.hid hr9;have HG9:=Lib.hid hg9;have HL9:=Lib.hid hl9;have HK9:=Lib.hid hk9;clear hr9 hg9 hl9 hk9))
        obtain ⟨g9,rfl⟩:=own_addr HR9.out (by omega)
        have hset:Fr (fun k=>k=gr) w11 (w11.setCell ⟨gr,3,none⟩ (.slice (some ⟨g9,0,none⟩) nr c9)):=(Fr.refl (fun k=>k=gr) w11).setCell (p:=⟨gr,3,none⟩) (.inl rfl) _
        have hk12:=HK9.out.set 3 (.slice (some ⟨g9,0,none⟩) nr c9)
        simp only [List.set_cons_succ,List.set_cons_zero] at hk12
        have hne:g9 ≠ gr:=own_bk HR9.out HK9.out (by decide) rfl
        have hr12:=own_fr HR9.out hset (fun k hk e=>own_bk HR9.out HK9.out (by decide) hk e)
        have hx11:Ext w6 w11:=(((HE.out.trans HXWp.out).alloc (.cells #[] 46)).grown HG9.out (fun k hk=>by have:=HXWp.out.size;have:=HSZ.out;simp [Value.ownBlock] at hk;omega))
        have hx12:=hx11.setCell (p:=⟨gr,3,none⟩) (by have:=HGR.out;have:=HSZ.out;show w6.heap.size≤gr;omega) (.slice (some ⟨g9,0,none⟩) nr c9)
        generalize (w11.setCell ⟨gr,3,none⟩ (.slice (some ⟨g9,0,none⟩) nr c9))=w12 at *
        have HG12:Hid (RwG rdRl (fun k=>k < w6.heap.size) w12 wp.heap.size 46 (.slice (some ⟨g9,0,none⟩) nr c9) nr q.rs css):=Lib.hid ⟨HCL.out,hr12,fun k h1 h2=>rdRl.ext (HCR.out k h1 h2) hx12,fun k hk=>⟨fun e=>by
         have h1:=own_ge hr12 e
         have h2:=HXWp.out.size
         have h3:=HSZ.out
         omega,Nat.lt_of_lt_of_le hk hx12.size⟩⟩
        have p3':=hk12.cell (i:=3) (by simp)
        simp only [List.getElem_cons_zero,List.getElem_cons_succ] at p3'
        obtain ⟨⟨cv,hcv⟩,hcf⟩:=own_cellS hr12 (i:=i * 2 + 1) (by omega)
        clear p3 fp3 b3a
        go_upto_region 21 with fail
        have hcl:i < css.length:=by rw [HCL.out];exact hix
        have hRi:=HCR.out i hix hcl
        have hG13:=HG12.out.setc (j:=1) (u:=.slice none 0 0) (x:=noCds q.rs[i]) hix hcl (by decide) (by
         have hs12:Fr (fun k=>k=g9) w12 (w12.setCell ⟨g9,i * rdRl.sz + 1,none⟩ (.slice none 0 0)):=(Fr.refl (fun k=>k=g9) w12).setCell (p:=⟨g9,i * rdRl.sz + 1,none⟩) (.inl rfl) _
         have h9:=rdRl.fr (rdRl.ext hRi hx12) hs12 (fun k hk e=>(HG12.out.sep k hk).1 (by rw [e];rfl))
         obtain ⟨u,v,e,k1,k2⟩:=h9
         rw [e]
         exact ⟨u,_,rfl,k1,Sl.nil _ _ _⟩)
        change RwG rdRl _ (w12.setCell ⟨g9,i * 2 + 1,none⟩ (.slice none 0 0)) _ _ _ _ _ _ at hG13
        have hge9:wp.heap.size≤g9:=own_ge hr12 rfl
        have hk13:=hk12.fr ((Fr.refl (fun k=>k=g9) w12).setCell (p:=⟨g9,i * 2 + 1,none⟩) (.inl rfl) (.slice none 0 0)) (fun e=>hne e.symm)
        have hx13:=hx12.setCell (p:=⟨g9,i * 2 + 1,none⟩) (by have:=HXWp.out.size;have:=HSZ.out;show w6.heap.size≤g9;omega) (.slice none 0 0)
        generalize (w12.setCell ⟨g9,i * 2 + 1,none⟩ (.slice none 0 0))=w13 at *
        have hin:=HIN.out.ext (HX6.out.trans hx13)
        obtain ⟨q1,hq1⟩:∃ x,x=q.withRs (q.rs.set i (noCds q.rs[i])):=⟨_,rfl⟩
        have hrn1:q1.rs.length=nr:=by rw [hq1];show (q.rs.set i _).length=nr;rw [List.length_set,← HNR.out]
        have hqr:QyR (fun _=>True) w13 A ca (some ⟨g9,0,none⟩) c9 O co q1:=by
         refine ⟨?_,?_,?_⟩
         ·rw [hq1];exact hin.qr.hd.mono (fun _ _ _=>trivial)
         ·rw [hrn1,hq1];exact hG13.sl (by decide) (fun _ _=>trivial) (fun _ _=>trivial)
         ·rw [hq1];exact hin.qr.od.mono (by decide) (fun _ _ _=>trivial)
        have hz1:QyZ q1:=by rw [hq1];exact set_z hin.z (noCds_z (hin.z.rs _ (List.getElem_mem hix)))
        have hc1:ChkM M q1:=by rw [hq1];exact set_chk HCHK.out hix (fun κ h=>noCds_ok) (fun κ h=>noCds_ty h)
        have hp1:∀ r ∈ q1.rs,prodA M (posL r)≤1500:=by rw [hq1];exact set_prod hix HPR.out rfl
        have hev0:checkE (schL M l) q1=0:=(check_M HNM.out).2 hc1
        have HAN:=answers_any hqr (HDBB.out.ext (HX45.out.trans (HX56.out.trans hx13))) hz1 (by rw [hq1];have:=HS.out.o;show q.od.length≤100000;omega) HDI.out.db HNB.out HNM.out hp1 hin.tab
        rw [hev0,hrn1] at HAN
        rw [show q1.hd=q.hd by rw [hq1];rfl,show q1.ag=q.ag by rw [hq1];rfl,show q1.av=q.av by rw [hq1];rfl,show q1.od=q.od by rw [hq1];rfl,← HNH.out,← HNO.out,← HAG.out,← HAV.out] at HAN
        have HANX:=Lib.hid HAN
        have HQ1:=Lib.hid hq1;have HC1:=Lib.hid hc1;have HP1:=Lib.hid hp1;have HRN1:=Lib.hid hrn1
        clear hin hqr hz1 hc1 hp1 hev0 HAN hrn1 hq1
        have HK13:=Lib.hid hk13;have HG13:=Lib.hid hG13;have HX613:=Lib.hid hx13;have HGE9:=Lib.hid hge9
        have p0:=hk13.cell (i:=0) (by simp);have p1:=hk13.cell (i:=1) (by simp);have p2:=hk13.cell (i:=2) (by simp);have p3:=hk13.cell (i:=3) (by simp);have p4:=hk13.cell (i:=4) (by simp)
        have d0:=(HKD6.out.ext hx13).cell (i:=0) (by simp)
        simp only [List.getElem_cons_zero,List.getElem_cons_succ] at p0 p1 p2 p3 p4 d0
        clear hk13 hG13 hx13 hge9 hr12 hk12 hx12 hx11 HG12 hRi hcv hcf p3' hset
        go_wp2_with fail
        refine HANX.out.mono ?_
        rintro e w14 ⟨hx14,hans⟩
        obtain ⟨A7,n7,c7,R1,rfl,hR',hsl⟩:∃ A n c R,e = .returned (.tuple #[.slice A n c,.int .i64 0])∧AnsOk M q1 R∧Sl rdRow (fun k=>w13.heap.size≤k) w14 (.slice A n c) R:=by
         rcases hans with ⟨h,-⟩ | ⟨-,h,-⟩ | ⟨-,-,h⟩
         ·exact absurd rfl h
         ·rw [HQ1.out] at h;exact absurd HAG0.out h
         ·exact h
        have hlen:=HR6.out.len HDI.out.db HCHK.out HPR.out
        have hw:=HR6.out.wide
        have hr4:=HS.out.r
        have hh8:=HS.out.h
        have hlen':=hR'.len HDI.out.db HC1.out HP1.out
        rw [HRN1.out] at hlen'
        have hw':=hR'.wide
        rw [HQ1.out] at hw'
        change ∀ x ∈ R1,x.length=q.hd.length at hw'
        have hsub:=subset23 (HSL6.out.ext (HX613.out.trans hx14)) hsl (by rw [HSL6.out.cap.1];omega) (by rw [hsl.cap.1];omega) (fun x hx=>by rw [hw x hx];omega) (fun x hx=>by rw [hw' x hx];omega)
        rw [show decide (∀ x ∈ R,x ∈ R1)=true from decide_eq_true (fun x hx=>(hR'.mem x).2 (by rw [HQ1.out];exact set_ans hix (fun σ=>satF_noCds) ((HR6.out.mem x).1 hx)))] at hsub
        have HSB1:=Lib.hid hsub
        have HX1314:=Lib.hid hx14;have HR1:=Lib.hid hR';have HSL1:=Lib.hid hsl;have HW1:=Lib.hid hw';have HL1:Hid (R1.length≤1048576):=Lib.hid (by omega)
        have HQ11:=HQ1
        clear hlen hw hr4 hh8 hlen' hw' hsub hR' hsl hans hx14 p0 p1 p2 p3 p4 d0 HQ1 HC1 HP1 HRN1 HANX
        go_wp2_with fail
        refine HSB1.out.mono ?_
        rintro e w15 ⟨v,rfl,he15,rfl⟩
        have HX1315:=Lib.hid (HX1314.out.trans he15);have HX1415:=Lib.hid he15
        have HX615:=Lib.hid (HX613.out.trans HX1315.out)
        clear he15
        obtain ⟨na,hna⟩:∃ n,n=q.rs[i].ats.length:=⟨_,rfl⟩
        obtain ⟨_,_,e9,-,hat2⟩:=HAT.out.at'
        injection e9 with e1 e2 e3
        subst e1
        have hf0:=HF0.out
        rw [← hna] at hf0
        have hna7:na≤7:=by rw [hna];exact (HS.out.l _ (List.getElem_mem hix)).la
        have HF02:=Lib.hid hf0;have HNA:=Lib.hid hna;have HAT2:=Lib.hid hat2
        obtain ⟨j1,hj1,hy0,hy1,hy2⟩:=info_parts info_atom
        have HJ1:=Lib.hid (And.intro hj1 (And.intro hy0 (And.intro hy1 hy2)))
        clear hj1 hy0 hy1 hy2 hat2 hf0 hna e2 e3
        go_wp2_with fail
        go_loopw [19,20] (fun v t wr=>∃ (k m:Nat) (P:Option Addr) (cp:Nat) (css3:List (List Value)),k≤na∧t = .int .i64 (k:Int)∧v = .slice P m cp∧Hid (m≤k)∧Hid (RwF rdAt (fun k=>k < w6.heap.size) wr w15.heap.size 49 (.slice P m cp) m (posA (q.rs[i].ats.take k)) css3)∧Hid (Ext w15 wr)) (fun _ t _=>na - (intOf t).toNat)
        case atStart=>exact ⟨0,0,none,0,[],Nat.zero_le _,rfl,rfl,Lib.hid (Nat.le_refl _),Lib.hid (RwF.empty (fun k hk=>Nat.lt_of_lt_of_le hk HX615.out.size)),Lib.hid (Ext.refl _)⟩
        case round =>
         obtain ⟨k,m,P,cp,css3,hk,rfl,rfl,HMK,HO,HE2⟩:=hrel
         obtain ⟨W2,rfl⟩:∃ W:World,W=wr:=⟨_,rfl⟩
         have HE62:=Lib.hid (HX615.out.trans HE2.out)
         have b3:=HE62.out.cell (HK6.out.cell (i:=3) (by simp))
         simp only [List.getElem_cons_zero,List.getElem_cons_succ] at b3
         have f0:=HE62.out.cell HF02.out
         by_cases hkt:k < na
         ·have k1:(0:Int)≤(k:Int):=by omega
          have k2:(k:Int) < (na:Int):=by omega
          have hkx:k < q.rs[i].ats.length:=by have:=HNA.out;omega
          obtain ⟨ae,C,dd,e9,hae,c0,c1,c2,hd,htc⟩:=HAT2.out k hkx
          have hT:Ts (fun k=>k < w6.heap.size) w6 (.slice C q.rs[i].ats[k].terms.length dd) q.rs[i].ats[k].terms:=⟨_,_,rfl,hd,htc⟩
          have htk:=posA_one hkx
          obtain ⟨a,ha⟩:∃ a,a=q.rs[i].ats[k]:=⟨_,rfl⟩
          rw [← ha] at c0 c1 c2 hT htk
          have hRd:rdAt.R (fun k=>k < w6.heap.size) W2 [.bool a.neg,.string a.rel,.slice C a.terms.length dd] a:=⟨_,rfl,hT.ext HE62.out⟩
          obtain ⟨nt,hnt⟩:∃ n,n=a.terms.length:=⟨_,rfl⟩
          obtain ⟨s,hs⟩:∃ s,s=a.rel:=⟨_,rfl⟩
          rw [← hs] at c1 hRd
          rw [← hnt] at c2 hRd
          replace c0:=HE62.out.cell c0;replace c1:=HE62.out.cell c1;replace c2:=HE62.out.cell c2
          have hmk:=HMK.out
          have HWS:Hid (w15.heap.size≤W2.heap.size):=Lib.hid HE2.out.size
          subst e9
          rcases hng:a.neg with _ | _
          ·rw [hng] at c0 hRd
           rw [if_pos hng] at htk
           have HRD:=Lib.hid hRd;have HTK:=Lib.hid htk
           clear hd htc hT hkx htk ha hng hs hnt hae hRd
           go_wp2_with (first
            | (at_builtin;refine wpList_append_at rfl _ _ 43 rfl w15.heap.size 49 j1 (.agg #[.bool false,.string ⟨#[]⟩,.slice none 0 0]) 3 48 Tryz.underlying43 HJ1.out.1 HJ1.out.2.1 HJ1.out.2.2.1 HJ1.out.2.2.2 rfl (by omega) (.slice P m cp) m css3.flatten rfl (HO.out.own.alloc _) ⟨W2.heap.size,0,none⟩ 1 1 [.bool false,.string s,.slice C nt dd] rfl rfl (laid_news W2 _ _) (by simp [Value.oneCell']) (by simp only [maxLen];omega) (by omega) (by have:=HWS.out;simp;omega) ?_;intro v3 W3 hr3 hg3 hl3;obtain ⟨P3,c3,e3⟩:=own_slice hr3;subst e3;have HR3:=Lib.hid (HO.out.more ((Ext.refl W2).alloc _) (rdAt.ext HRD.out ((Ext.refl W2).alloc _)) hr3 hg3);have HX3:=Lib.hid ((HE2.out.alloc _).grown hg3 (fun k hk=>own_ge HO.out.own hk));clear hr3 hg3 hl3))
           go_roundw
           case rel=>exact ⟨k + 1,m + 1,P3,c3,_,by omega,by go_num,rfl,Lib.hid (by omega),Lib.hid (by rw [HTK.out];exact HR3.out),HX3⟩
           case measure=>simp [intOf];omega
          ·rw [hng] at c0
           rw [if_neg (by rw [hng];decide)] at htk
           have HTK:=Lib.hid htk
           clear hd htc hT hkx htk ha hng hs hnt hae hRd
           go_wp2_with fail
           go_roundw
           case rel=>exact ⟨k + 1,m,P,cp,css3,by omega,by go_num,rfl,Lib.hid (by omega),Lib.hid (by rw [HTK.out];exact HO.out),HE2⟩
           case measure=>simp [intOf];omega
         ·obtain rfl:k=na:=by omega
          have hall:posA (q.rs[i].ats.take k)=posL q.rs[i]:=by rw [List.take_of_length_le (by have:=HNA.out;omega)];rfl
          have ho:=HO.out
          rw [hall] at ho
          have hgb:g9 < w15.heap.size:=Nat.lt_of_lt_of_le (own_lt HG13.out.own rfl) HX1315.out.size
          have hk2:=HK13.out.ext (HX1315.out.trans HE2.out)
          have p3:=hk2.cell (i:=3) (by simp)
          simp only [List.getElem_cons_zero,List.getElem_cons_succ] at p3
          obtain ⟨⟨cv,hcv⟩,hcf⟩:=own_cellS (HG13.out.ext (HX1315.out.trans HE2.out)).own (i:=i * 2) (by show i * 2 < nr * 2;omega)
          obtain ⟨css4,hG16⟩:=RwG.only hix (HG13.out.ext (HX1315.out.trans HE2.out)) ho hgb HE2.out.size
          have hk16:=hk2.fr ((Fr.refl (fun k=>k=g9) W2).setCell (p:=⟨g9,i * 2 + 0,none⟩) (.inl rfl) (.slice P m cp)) (fun e=>hne e.symm)
          have hx16:=HE62.out.setCell (p:=⟨g9,i * 2 + 0,none⟩) (by have:=HXWp.out.size;have:=HSZ.out;have:=HGE9.out;show w6.heap.size≤g9;omega) (.slice P m cp)
          have hs16:=(HSL1.out.ext (HX1415.out.trans HE2.out)).fr ((Fr.refl (fun k=>k=g9) W2).setCell (p:=⟨g9,i * 2 + 0,none⟩) (.inl rfl) (.slice P m cp)) (fun k hk e=>by have:=own_lt HG13.out.own (k:=g9) rfl;omega)
          rw [Nat.add_zero] at hG16 hk16 hx16 hs16
          clear ho hall hk2
          go_upto_region 31 with fail
          clear f0 b3 p3 hcv hcf
          generalize (W2.setCell ⟨g9,i * 2,none⟩ (.slice P m cp))=w16 at *
          have hin:=HIN.out.ext (HX6.out.trans hx16)
          obtain ⟨q2,hq1⟩:∃ x,x=q.withRs (q.rs.set i (onlyPos q.rs[i])):=⟨_,rfl⟩
          have hrn1:q2.rs.length=nr:=by rw [hq1];show (q.rs.set i _).length=nr;rw [List.length_set,← HNR.out]
          have hqr:QyR (fun _=>True) w16 A ca (some ⟨g9,0,none⟩) c9 O co q2:=by
           refine ⟨?_,?_,?_⟩
           ·rw [hq1];exact hin.qr.hd.mono (fun _ _ _=>trivial)
           ·rw [hrn1,hq1];exact hG16.sl (by decide) (fun _ _=>trivial) (fun _ _=>trivial)
           ·rw [hq1];exact hin.qr.od.mono (by decide) (fun _ _ _=>trivial)
          have hz1:QyZ q2:=by rw [hq1];exact set_z hin.z (onlyPos_z (hin.z.rs _ (List.getElem_mem hix)))
          have hc1:ChkM M q2:=by rw [hq1];exact set_chk HCHK.out hix (fun κ h=>onlyPos_ok h) (fun κ h=>onlyPos_ty h)
          have hp1:∀ r ∈ q2.rs,prodA M (posL r)≤1500:=by rw [hq1];exact set_prod hix HPR.out (posL_only _)
          have hev0:checkE (schL M l) q2=0:=(check_M HNM.out).2 hc1
          have HAN:=answers_any hqr (HDBB.out.ext (HX45.out.trans (HX56.out.trans hx16))) hz1 (by rw [hq1];have:=HS.out.o;show q.od.length≤100000;omega) HDI.out.db HNB.out HNM.out hp1 hin.tab
          rw [hev0,hrn1] at HAN
          rw [show q2.hd=q.hd by rw [hq1];rfl,show q2.ag=q.ag by rw [hq1];rfl,show q2.av=q.av by rw [hq1];rfl,show q2.od=q.od by rw [hq1];rfl,← HNH.out,← HNO.out,← HAG.out,← HAV.out] at HAN
          have HANX:=Lib.hid HAN
          have HQ2:=Lib.hid hq1;have HC2:=Lib.hid hc1;have HP2:=Lib.hid hp1;have HRN2:=Lib.hid hrn1
          clear hin hqr hz1 hc1 hp1 hev0 HAN hrn1 hq1
          have HX616:=Lib.hid hx16;have HS16:=Lib.hid hs16
          have p0:=hk16.cell (i:=0) (by simp);have p1:=hk16.cell (i:=1) (by simp);have p2:=hk16.cell (i:=2) (by simp);have p3:=hk16.cell (i:=3) (by simp);have p4:=hk16.cell (i:=4) (by simp)
          have d0:=(HKD6.out.ext hx16).cell (i:=0) (by simp)
          simp only [List.getElem_cons_zero,List.getElem_cons_succ] at p0 p1 p2 p3 p4 d0
          clear hk16 hG16 hx16 hs16
          go_wp2_with fail
          refine HANX.out.mono ?_
          rintro e w17 ⟨hx17,hans⟩
          obtain ⟨A8,n8,c8,R2,rfl,hR',hsl⟩:∃ A n c R,e = .returned (.tuple #[.slice A n c,.int .i64 0])∧AnsOk M q2 R∧Sl rdRow (fun k=>w16.heap.size≤k) w17 (.slice A n c) R:=by
           rcases hans with ⟨h,-⟩ | ⟨-,h,-⟩ | ⟨-,-,h⟩
           ·exact absurd rfl h
           ·rw [HQ2.out] at h;exact absurd HAG0.out h
           ·exact h
          have hr4:=HS.out.r
          have hh8:=HS.out.h
          have hw:=HW1.out
          have hlen:=HL1.out
          have hlen':=hR'.len HDI.out.db HC2.out HP2.out
          rw [HRN2.out] at hlen'
          have hw':=hR'.wide
          rw [HQ2.out] at hw'
          change ∀ x ∈ R2,x.length=q.hd.length at hw'
          have hsub:=subset23 (HS16.out.ext hx17) hsl (by rw [HS16.out.cap.1];omega) (by rw [hsl.cap.1];omega) (fun x hx=>by rw [hw x hx];omega) (fun x hx=>by rw [hw' x hx];omega)
          rw [show decide (∀ x ∈ R1,x ∈ R2)=true from decide_eq_true (fun x hx=>(hR'.mem x).2 (by
           rw [HQ2.out]
           refine set_ans2 hix ?_
           rw [← HQ11.out]
           exact (HR1.out.mem x).1 hx))] at hsub
          have HSB2:=Lib.hid hsub
          have HX1617:=Lib.hid hx17
          clear hr4 hh8 hw hlen hlen' hw' hsub hR' hsl hans hx17 p0 p1 p2 p3 p4 d0 HQ2 HC2 HP2 HRN2 HANX
          go_wp2_with fail
          refine HSB2.out.mono ?_
          rintro e w18 ⟨v,rfl,he18,rfl⟩
          have HF:=Lib.hid (HX616.out.trans (HX1617.out.trans he18))
          clear he18
          go_wp2_with fail
          go_roundw
          case rel=>exact ⟨i + 1,by omega,by go_num,HF⟩
          case measure=>simp [intOf];omega
       ·obtain rfl:i=nr:=by omega
        have HA6:=Lib.hid (HAW.out W (HX6.out.trans HE.out))
        clear b0 b1 b2 b4
        go_wp2_with fail
        refine HA6.out.mono ?_
        rintro e w7 ⟨v,rfl,he,rfl⟩
        go_wp2_with fail
        exact HRET.out _ (HX6.out.trans (HE.out.trans he))
   ·have HA5:=Lib.hid (HAW.out w5 HX5.out)
    clear hz hx5 b3
    go_wp2_with fail
    refine HA5.out.mono ?_
    rintro e w6 ⟨v,rfl,he,rfl⟩
    go_wp2_with fail
    exact HRET.out _ (HX5.out.trans he)
 ·have HA2:=Lib.hid (HAW.out w2 HX2.out)
  clear hz hx2 b0 b1 b2 b3 b4
  go_wp2_with fail
  refine HA2.out.mono ?_
  rintro e w3 ⟨v,rfl,he,rfl⟩
  go_wp2_with fail
  exact HRET.out _ (HX2.out.trans he)
end Go.Proofs.YtplldnnnhgnbjaaGreatDoor
