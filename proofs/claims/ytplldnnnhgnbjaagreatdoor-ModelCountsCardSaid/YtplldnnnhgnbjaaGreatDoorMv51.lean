/- packed -/
import Derived.Test.YtplldnnnhgnbjaaGreatDoorMv50
namespace Go.Proofs.YtplldnnnhgnbjaaGreatDoor
open Go.RowKit Go.Maps
set_option maxRecDepth 20000 in
set_option maxHeartbeats 6400000 in
theorem counts_any{F G H:Nat→Prop}{w:World}{S U A B O:Option Addr}{ns cs nu cu ca cb co:Nat}{ss:List Sc}{us:List Up}{q:Qy}(h:gN F G H w S U A B O ns cs nu cu ca cb co ss us q) :
  Calls Tryz.prog 7 #[.slice S ns cs,.slice U nu cu,.agg #[.slice A q.hd.length ca,.int .i64 q.ag,.string q.av,.slice B q.rs.length cb,.slice O q.od.length co]] w (TrueE w):=by
 have kb:=Bk.new w 28 [.slice A q.hd.length ca,.int .i64 q.ag,.string q.av,.slice B q.rs.length cb,.slice O q.od.length co]
 have hx:=(Ext.refl w).alloc (.cells #[.slice A q.hd.length ca,.int .i64 q.ag,.string q.av,.slice B q.rs.length cb,.slice O q.od.length co] 28)
 have sg:Hid (∀V,Ext w V→TrueE w (.returned (.bool true)) V):=zN (fun V hV=>⟨hV,rfl⟩)
 obtain⟨PP,uM⟩:=sd (TrueE w)
 rw[←uM]at sg ⊢
 have HG:=fun (V:World) (hV:Ext w V)=>(h.ext hV).great
 have uH:=fun (V:World) (hV:Ext w V)=>(h.ext hV).database
 obtain⟨nh,ut⟩:=sd q.hd.length
 obtain⟨nr,ux⟩:=sd q.rs.length
 obtain⟨no,uw⟩:=sd q.od.length
 obtain⟨ag,uO⟩:=sd q.ag
 obtain⟨av,uP⟩:=sd q.av
 rw[←ut,←ux,←uw,←uO,←uP]at kb hx HG ⊢
 have uJ:=zN ut;have tX:=zN ux;have uK:=zN uw
 have sR:=zN h
 have sQ:=zN (fun (V:World) (hV:Ext w V)=>(h.ext hV).awake)
 have tR:=zN uH
 have vq:=zN (HG _ hx)
 clear h ut ux uw uO uP uM HG uH
 go_enter Tryz.func7,Tryz.ntmps7
 go_upto_region 1 with fail
 change Bk (w.alloc (.cells #[.slice A nh ca,.int .i64 ag,.string av,.slice B nr cb,.slice O no co] 28)) _ _ _ at kb
 generalize (w.alloc (.cells #[.slice A nh ca,.int .i64 ag,.string av,.slice B nr cb,.slice O no co] 28))=w1 at *
 have HX:=zN hx
 obtain⟨g0,uo⟩:=sd w.heap.size
 rw[←uo]at kb ⊢
 have vw:=zN kb;have tG:=zN uo
 have b0:=kb.c0;have b1:=kb.c1;have b2:=kb.c2;have b3:=kb.c3;have b4:=kb.c4
 clear kb hx uo
 go_wp2_with fail
 refine vq.out.mono ?_
 rintro e w2 ⟨hx2,z,rfl,hz⟩
 have sT:=zN (HX.out.trans hx2)
 have sF:=zN (vw.out.ext hx2)
 clear b0 b1 b2 b3 b4
 rcases z with _|_
 ·have HS:=zN (hz rfl)
  have b3:=sF.out.c3
  by_cases hr0:nr=0
  ·have uy:(nr:Int)=0:=by omega
   clear hz hx2
   have sp:=zN (sQ.out w2 sT.out)
   go_wp2_with fail
   refine sp.out.mono ?_
   rintro e wx ⟨v,rfl,he,rfl⟩
   go_wp2_with fail
   exact sg.out _ (sT.out.trans he)
  ·have uy:¬(nr:Int)=0:=by omega
   have vm:=zN (tR.out w2 sT.out HS.out)
   clear hz hx2
   go_wp2_with fail
   refine vm.out.mono ?_
   rintro e w3 ⟨hx3,mb,Ad,nd,cd,z,rfl,hz,-⟩
   have vK:=zN (sT.out.trans hx3)
   have HZ:=zN hz
   have kd:=Bk.new w3 33 [.map mb]
   have hx4:=(Ext.refl w3).alloc (.cells #[.map mb] 33)
   have td:=zN (sF.out.ext (hx3.trans hx4))
   have tJ:=zN (vK.out.trans hx4);have tq:=zN hx4
   clear b3 hx3 hz hx4
   go_upto_region 4 with fail
   change Bk (w3.alloc (.cells #[.map mb] 33)) _ _ _ at kd
   generalize (w3.alloc (.cells #[.map mb] 33))=w4 at *
   obtain⟨g1,uR⟩:=sd w3.heap.size
   rw[←uR]at kd ⊢
   have vy:=zN kd
   clear kd uR
   have b3:=td.out.c3
   rcases z with _|_
   ·clear b3
    have sp:=zN (sQ.out w4 tJ.out)
    go_wp2_with fail
    refine sp.out.mono ?_
    rintro e wx ⟨v,rfl,he,rfl⟩
    go_wp2_with fail
    exact sg.out _ (tJ.out.trans he)
   ·obtain⟨b,nb,M,W,T,rfl,vU,uQ,um,hM,wf,A9,c9,l,e9,uv,vR,sU⟩:=HZ.out rfl
    injection e9 with e1 e2 e3
    subst e1 e2 e3
    have uW : 0<q.rs.length:=by have:=tX.out;omega
    obtain⟨r,hr⟩:=sd (q.rs[0])
    have sN:q.rs.take 1=[r]:=by
     rw[jj uW,hr]
     rfl
    have tM:r∈q.rs:=by rw[hr];exact jf uW
    have vZ:nr≤4:=by rw[tX.out];exact HS.out.r
    have wn:nr≤cb:=by rw[tX.out];exact sR.out.qr.rs.cap.2
    have sM:Sl rz H w (.slice B 1 cb) [r]:=by
     have h9:=sR.out.qr.rs.take (i:=1) (by omega)
     rw[sN]at h9
     exact h9
    have tN:=HS.out.l _ tM
    have vt:=zN (heavy_any (sU.ext tq.out) (sM.ext tJ.out) uv (by omega) um.ln (by simp) (fun x hx=>by
     obtain rfl:=jq.1 hx
     exact⟨jr tN.la (by omega),jr tN.ps (by omega),sR.out.z.rs _ tM⟩))
    have ta:Hid (g0<w2.heap.size):=zN sF.out.lt
    have tQ:=zN (uQ.ext tq.out);have tS:=zN um;have tI:=zN uv;have uI:Hid (nb≤1000000):=zN (by omega)
    have sG:=zN sM;have vB:=zN tM;have vE:=zN tN
    have vY:(1:Int)≤(nr:Int):=by omega
    have vN:(1:Int)≤(cb:Int):=by omega
    have vO:(nr:Int)≤(cb:Int):=by omega
    clear uQ um hM wf uv vR sU HZ vU sM hr sN tM tN
    go_wp2_with fail
    refine vt.out.mono ?_
    rintro e w5 ⟨hx5,z,rfl,hz⟩
    have uc:=zN (tJ.out.trans hx5);have ub:=zN hx5
    have se:=zN (td.out.ext hx5);have su:=zN (vy.out.ext hx5)
    clear b3
    rcases z with _|_
    ·have tY:Hid (bM M (bL r)≤1500):=zN (hz rfl r (by simp))
     have b3:=se.out.c3;have b1:=se.out.c1;have b2:=se.out.c2
     have f1:=se.out.free 1;have f2:=se.out.free 2;have f3:=se.out.free 3
     clear hz hx5
     go_upto_region 7 with fail
     have k6:=se.out.set 3 (.slice B 1 cb)
     have hx6:=uc.out.setCell (p:=⟨g0,3,none⟩) (by rw[tG.out];exact jo _) (.slice B 1 cb)
     have wg:=su.out.fr ((Fr.refl (fun k=>k=g0) w5).setCell (p:=⟨g0,3,none⟩) (.inl rfl) (.slice B 1 cb)) (su.out.ne se.out (by decide))
     have uX:Fr (fun k=>k=g0) w5 (w5.setCell ⟨g0,3,none⟩ (.slice B 1 cb)):=(Fr.refl (fun k=>k=g0) w5).setCell (p:=⟨g0,3,none⟩) (.inl rfl) _
     simp only[ji,jh]at k6
     clear b1 b2 b3 f1 f2 f3
     generalize (w5.setCell ⟨g0,3,none⟩ (.slice B 1 cb))=w6 at *
     have b1:=k6.c1;have b2:=k6.c2;have f1:=k6.free 1;have f2:=k6.free 2
     have k7:=(k6.set 1 (.int .i64 1)).set 2 (.string ⟨#[]⟩)
     simp only[ji,jh]at k7
     have uB:Fr (fun k=>k=g0) w5 ((w6.setCell ⟨g0,1,none⟩ (.int .i64 1)).setCell ⟨g0,2,none⟩ (.string ⟨#[]⟩)):=(uX.setCell (p:=⟨g0,1,none⟩) (.inl rfl) _).setCell (p:=⟨g0,2,none⟩) (.inl rfl) _
     have hx7:=(hx6.setCell (p:=⟨g0,1,none⟩) (by rw[tG.out];exact jo _) (.int .i64 1)).setCell (p:=⟨g0,2,none⟩) (by rw[tG.out];exact jo _) (.string ⟨#[]⟩)
     clear k6 hx6 wg uX
     go_upto_region 8 with fail
     generalize ((w6.setCell ⟨g0,1,none⟩ (.int .i64 1)).setCell ⟨g0,2,none⟩ (.string ⟨#[]⟩))=w7 at *
     have ud:=zN hx7;have tU:=zN k7;have sw:=zN (su.out.fr uB (su.out.ne se.out (by decide)))
     have sK:=tQ.out.ext ub.out
     have uk:b≠g0:=by
      obtain⟨f,h1,-⟩:=sK
      exact(h1.ne se.out).symm
     have sL:=sK.fr uB uk (fun k hk e=>by have:=hk.2;have:=ta.out;omega)
     obtain⟨ad,B1,d1,C1,e1,rfl,-,f0,tK,uh,ui⟩:=sG.out.rl (i:=0) (by simp)
     simp only[ja,Nat.zero_mul]at f0 tK uh ui
     rw[show ad.add 0=ad by simp[Addr.add]]at f0 tK
     have sj:=sR.out.ext ud.out
     have tD:QyR (fun _=>True) w7 A ca (some ad) cb O co (q.one r 1):=⟨sj.qr.hd.mono (fun _ _ _=>trivial),(sG.out.ext ud.out).mono (by decide) (fun _ _ _=>trivial),sj.qr.od.mono (by decide) (fun _ _ _=>trivial)⟩
     have uA:=sj.z.rs _ vB.out
     have tH:=groups_any (q:=q.one r 1) (r:=r) tD rfl rfl rfl sL (one_z sj.z uA) (by have:=HS.out.o;show q.od.length≤100000;omega) tS.out.db uI.out tI.out tY.out sj.tab
     change Calls _ _ #[.agg #[.slice A q.hd.length ca,.int .i64 1,.string ⟨#[]⟩,.slice (some ad) 1 cb,.slice O q.od.length co],_] _ _ at tH
     obtain⟨ev,un⟩:=sd (aZ (cH M l) (q.one r 1))
     rw[←uJ.out,←uK.out,←un]at tH
     have tc:=zN tH;have vn:=zN un;have sZ:=zN sL;have ve:=zN uk
     have vo:=zN f0;have vp:=zN tK;have vd:=zN uh;have vh:=zN ui;have uL:=zN uA
     have c0:=k7.c0;have c1:=k7.c1;have c2:=k7.c2;have c3:=k7.c3;have c4:=k7.c4
     have d0:=sw.out.c0
     clear k7 uB hx7 sK sL uk f0 tK uh ui sj tD uA tH un b1 b2 f1 f2
     go_wp2_with fail
     refine tc.out.mono ?_
     rintro e w8 ⟨hx8,hg⟩
     have sq:=zN hx8;have sA:=zN (ud.out.trans hx8)
     clear c0 c1 c2 c3 c4 d0 tc hx8
     rcases hg with ⟨h0,rfl⟩|⟨h0,AG,ng,cg,L,R,rfl,j1,j2,j3,j4,j5,j6,j7⟩
     ·have wm:(ev != 0)=true:=bne_iff_ne.2 h0
      clear h0
      have sp:=zN (sQ.out w8 sA.out)
      go_wp2_with fail
      refine sp.out.mono ?_
      rintro e wx ⟨v,rfl,he,rfl⟩
      go_wp2_with fail
      exact sg.out _ (sA.out.trans he)
     ·subst h0
      change lD (cN q.hd q.od) R at j4
      change R.Perm (cB (aC (aj r) q.hd) [] L) at j5
      change Sl rdGp _ w8 _ (gpL (aC (aj r) q.hd) L R) at j7
      have sJ:mC M (q.one r 1):=(mH tI.out).1 vn.out.symm
      have sB:=one_chk sJ
      obtain⟨uZ,uV,-⟩:=ep sJ (r:=r) (jq.2 rfl)
      have sS:=zN (And.intro j1 (And.intro j2 j3));have tg:=zN (And.intro j4 j5);have te:=zN j6;have vD:=zN j7;have sY:=zN sB;have vJ:=zN uZ
      obtain⟨nl,uU⟩:=sd L.length
      have tW:=zN uU
      have tL:=vE.out
      have we:(aj r).length≤8:=(eN uV).2.2.2
      have uG:Hid (∀V,Ext w8 V→Calls Tryz.prog 20 #[.agg #[.slice B1 r.ats.length d1,.slice C1 r.cds.length e1],.agg #[.map (some b)]] V (fun e W=>Ext V W∧∃A c,e=.returned (.tuple #[.slice A nl c,.int .i64 0]))):=zN (fun V hV=>(qw (vd.out.ext (sA.out.trans hV)) (vh.out.ext (sA.out.trans hV)) (sZ.out.ext (sq.out.trans hV)) uL.out (by have:=tL.la;omega) (fun a ha=>by have:=tL.tm a ha;omega) (by have:=tL.lc;omega) tS.out.db tY.out (by omega) (sR.out.ext (sA.out.trans hV)).tab).mono (by
       rintro e W' ⟨he,⟨k0,-⟩|⟨-,A',c',L',rfl,k1,k2,k3⟩⟩
       ·exact absurd vJ.out k0
       ·refine⟨he,A',c',?_⟩
        rw[tW.out,len_eq sS.out.1 k2 (fun z=>(sS.out.2.2 z).trans (k3 z).symm)]))
      have k8:=tU.out.ext sq.out
      have c3:=k8.c3;have c1:=k8.c1;have d0:=(sw.out.ext sq.out).c0
      have f0:=sA.out.cell vo.out;have f1:=sA.out.cell vp.out
      have vu:=zN k8
      clear j1 j2 j3 j4 j5 j6 j7 sJ sB uZ uV uU tL we k8
      go_upto_region 11 with fail
      refine cS ?_
      intro KK tt
      refine cas_reg c3 f0 f1 d0 uG ?_
      intro wh wk t61 t67 t68 t69 w9 hx9
      have sI:=zN hx9;have vL:=zN (sA.out.trans hx9)
      have k9:=vu.out.ext hx9
      rw[tt]
      clear tt KK c3 c1 d0 f0 f1 hx9 uG
      have c1:=k9.c1;have ff:=k9.free 1
      have sP:=k9.set 1 (.int .i64 0)
      simp only[ji,jh]at sP
      have sx:Fr (fun k=>k=g0) w9 (w9.setCell ⟨g0,1,none⟩ (.int .i64 0)):=(Fr.refl (fun k=>k=g0) w9).setCell (p:=⟨g0,1,none⟩) (.inl rfl) _
      have hx10:=vL.out.setCell (p:=⟨g0,1,none⟩) (by rw[tG.out];exact jo _) (.int .i64 0)
      go_upto_region 13 with fail
      clear c1 ff
      generalize (w9.setCell ⟨g0,1,none⟩ (.int .i64 0))=w10 at *
      have sH:=zN hx10
      have vP:g0<w7.heap.size:=tU.out.lt
      have sE:=(vD.out.ext sI.out).fr sx (fun k hk e=>by omega)
      have sC:=(sZ.out.ext (sq.out.trans sI.out)).fr sx ve.out (fun k hk e=>by have:=hk.2;have:=ta.out;omega)
      have sD:=(sw.out.ext (sq.out.trans sI.out)).fr sx (sw.out.ne tU.out (by decide))
      have sj:=sR.out.ext sH.out
      have tC:QyR (fun _=>True) w10 A ca (some ad) cb O co (q.one r 0):=⟨sj.qr.hd.mono (fun _ _ _=>trivial),(sG.out.ext sH.out).mono (by decide) (fun _ _ _=>trivial),sj.qr.od.mono (by decide) (fun _ _ _=>trivial)⟩
      have sW:=mo tC sC (one_z sj.z uL.out) (by have:=HS.out.o;show q.od.length≤100000;omega) tS.out.db uI.out tI.out (fun x hx=>by rw[jq.1 hx];exact tY.out) sj.tab
      have tA:aZ (cH M l) (q.one r 0)=0:=(mH tI.out).2 sY.out
      rw[tA]at sW
      change Calls _ _ #[.agg #[.slice A q.hd.length ca,.int .i64 0,.string ⟨#[]⟩,.slice (some ad) 1 cb,.slice O q.od.length co],_] _ _ at sW
      rw[←uJ.out,←uK.out]at sW
      have sX:=zN sW;have th:=zN sE
      have c0:=sP.c0;have c1:=sP.c1;have c2:=sP.c2;have c3:=sP.c3;have c4:=sP.c4
      have d0:=sD.c0
      clear k9 sP sx hx10 vP sE sC sD sj tC sW tA
      go_wp2_with fail
      refine sX.out.mono ?_
      rintro e uE ⟨hx11,tz⟩
      obtain⟨A7,n7,c7,Ra,rfl,uN,sU⟩:∃A n c R,e=.returned (.tuple #[.slice A n c,.int .i64 0])∧iP M (q.one r 0) R∧Sl aG (fun k=>w10.heap.size≤k) uE (.slice A n c) R:=by
       rcases tz with ⟨h,-⟩|⟨-,h,-⟩|⟨-,-,h⟩
       ·exact absurd rfl h
       ·exact absurd rfl h
       ·exact h
      obtain rfl:R=Ra:=one_rows sY.out sS.out.2.1 sS.out.2.2 tg.out.1 tg.out.2 uN
      have vT:n7=ng:=by rw[sU.cap.1,te.out]
      subst vT
      have ua:=zN (sH.out.trans hx11)
      have tj:=zN (th.out.ext hx11);have vC:=zN sU
      have vV:n7≤1500:=by
       have h1:R.length=(cB (aC (aj r) q.hd) [] L).length:=tg.out.2.length_eq
       have h2:=fx (aC (aj r) q.hd) [] L
       rw[jQ]at h2
       have h3:=sS.out.2.1
       have h4:=te.out
       omega
      have tn:Hid (l7 (gpL (aC (aj r) q.hd) L R)=nl):=zN (by rw[tW.out];exact sumC_all tg.out.2)
      have tf:Hid (nl≤1500):=zN (by rw[tW.out];exact sS.out.2.1)
      clear tz uN sU hx11 c0 c1 c2 c3 c4 d0 sX
      go_wp2_with fail
      go_loopw [16,17] (fun v t wr=>∃i:Nat,i≤n7∧t=.int .i64 (i:Int)∧Hid (N1.Nz wr v (l7 ((gpL (aC (aj r) q.hd) L R).take i)))∧Hid (Ext uE wr)) (fun _ t _=>n7-(intOf t).toNat)
      case atStart=>exact⟨0,jn _,rfl,zN (N1.Nz.nil _),zN (Ext.refl _)⟩
      case round =>
       obtain⟨i,hi,rfl,HV,HE⟩:=hrel
       obtain⟨W,rfl⟩:∃W:World,W=wr:=⟨_,rfl⟩
       by_cases hlt:i<n7
       ·have i1:(0:Int)≤(i:Int):=by omega
        have i2:(i:Int)<(n7:Int):=by omega
        have uq:i<(gpL (aC (aj r) q.hd) L R).length:=by
         have h4:=te.out
         unfold gpL
         rw[jk]
         omega
        have uS:i<R.length:=by have:=te.out;omega
        obtain⟨ug,wl,e9,-,⟨u2,gn,rfl,hu,-,hb⟩,h4,h5⟩:=tj.out.at uq
        subst e9
        have c0:=HE.out.cell (h4 (by simp[grC]));have c1:=HE.out.cell (h5 0 (by simp[grC]))
        change W.cell? (ug.add (i*8))=some u2 at c0
        change W.cell? ⟨(ug.add (i*8)).block,(ug.add (i*8)).off+1,none⟩=some (.slice (some ⟨gn,0,none⟩) 1 1) at c1
        have sN:l7 ((gpL (aC (aj r) q.hd) L R).take (i+1))=l7 ((gpL (aC (aj r) q.hd) L R).take i)+((gpL (aC (aj r) q.hd) L R)[i]).cnt:=by
         rw[jj uq,sumC_snoc]
        have vQ:=sumC_take (gpL (aC (aj r) q.hd) L R) (i+1)
        have wc:=tn.out
        have wd:=tf.out
        have tE:((gpL (aC (aj r) q.hd) L R)[i]).row=R[i]:=by simp[gpL]
        rw[tE]at hu
        obtain⟨kc,uT⟩:=sd (((gpL (aC (aj r) q.hd) L R)[i]).cnt)
        obtain⟨sm,uC⟩:=sd (l7 ((gpL (aC (aj r) q.hd) L R).take i))
        rw[←uT]at hb sN
        rw[←uC]at sN
        have tu:=N1.add_nv (w:=W) (b:=kc) (by have h9:=HV.out;rw[←uC]at h9;exact N1.Nz.nv h9) (n32_nv (hb.ext HE.out) (by omega)) (jr (dig_len _) (by omega)) (jr (dig_len _) (by omega))
        have sV:=zN tu;have vH:=zN sN
        obtain⟨Au,vM,eu⟩:=hu.sl
        subst eu
        obtain⟨wj,B7,d7,e7,-,p0,uY⟩:=vC.out.row uS
        subst e7
        have tF:=HE.out.cell p0
        have HU:=zN hu;have vG:=zN uY
        have uD:R[i].length≤1048576:=by
         have h9:=HU.out.cap
         have h8:R[i].length=q.hd.length:=by
          have h1:=tg.out.2.mem_iff.1 (jf uS)
          rcases ix.1 h1 with h1|⟨z,-,e⟩
          ·cases h1
          ·rw[e]
           unfold be aC
           rw[jk,jk]
         have:=HS.out.h
         omega
        have sy:=zN (fun (V:World) (hV:Ext uE V)=>same23 (HU.out.ext hV) (vG.out.ext hV) uD uD)
        obtain⟨rl,wa⟩:=sd (R[i].length)
        rw[←wa]at c0 tF sy
        clear h4 h5 hu hb vQ wc wd tE uT uC tu sN p0 uY uD uq
        go_wp2_with fail
        refine sV.out.mono ?_
        rintro e tO ⟨v2,rfl,si,sr⟩
        have sh:Hid (Ext W tO):=zN si
        have ue:=zN sr
        replace c0:=sh.out.cell c0;replace tF:=sh.out.cell tF
        have tZ:Hid (∀V,Ext tO V→Calls Tryz.prog 25 #[.slice Au rl vM,.slice B7 rl d7] V (fun e W'=>Ext V W'∧e=.returned (.bool true))):=zN (fun V hV=>(sy.out V (HE.out.trans (sh.out.trans hV))).mono (by
         rintro e W' ⟨x,rfl,he,rfl⟩
         exact⟨he,by simp⟩))
        clear c1 si sr sV
        go_upto_region 21 with fail
        refine cS ?_
        intro KK tt
        refine csr_reg i1 i2 c0 tF tZ ?_
        intro t112 uF sO
        have tT:=zN (HE.out.trans (sh.out.trans sO))
        have uf:=zN (ue.out.ext sO)
        rw[tt]
        clear tt KK c0 tF sO
        go_wp2_with fail
        go_roundw
        case rel=>exact⟨i+1,by omega,by go_num,zN (by rw[vH.out];exact uf.out),tT⟩
        case measure=>simp[intOf];omega
       ·obtain rfl:i=n7:=by omega
        have tw:(gpL (aC (aj r) q.hd) L R).take i=gpL (aC (aj r) q.hd) L R:=jp (by unfold gpL;rw[jk];have:=te.out;omega)
        have hv:=HV.out
        rw[tw,tn.out]at hv
        have vW:=tf.out
        have vz:Hid (N1.Nv W _ nl):=zN (N1.Nz.nv hv)
        have vA:=zN (N1.of_nz nl (by omega) W)
        have vX:(nl:Int)≤1500:=by omega
        clear tw hv
        go_wp2_with fail
        refine vA.out.mono ?_
        rintro e tO ⟨v2,rfl,si,sr⟩
        have tP:=zN (N1.cmp_nv (vz.out.ext si) (N1.Nz.nv sr))
        have sh:Hid (Ext W tO):=zN si
        clear si sr
        go_wp2_with fail
        refine tP.out.mono ?_
        rintro e uF ⟨rfl,tB⟩
        have tp:Hid (Ext w uF):=zN (ua.out.trans (HE.out.trans (sh.out.trans tB.ext)))
        rw[show N1.cmpI nl nl=0 by unfold N1.cmpI;simp]
        clear tB
        have sp:=zN (sQ.out uF tp.out)
        go_wp2_with fail
        refine sp.out.mono ?_
        rintro e wx ⟨v,rfl,he,rfl⟩
        go_wp2_with fail
        exact sg.out _ (tp.out.trans he)
    ·clear hz hx5
     have sp:=zN (sQ.out w5 uc.out)
     go_wp2_with fail
     refine sp.out.mono ?_
     rintro e wx ⟨v,rfl,he,rfl⟩
     go_wp2_with fail
     exact sg.out _ (uc.out.trans he)
 ·clear hz hx2
  have sp:=zN (sQ.out w2 sT.out)
  go_wp2_with fail
  refine sp.out.mono ?_
  rintro e wx ⟨v,rfl,he,rfl⟩
  go_wp2_with fail
  exact sg.out _ (sT.out.trans he)
