/- packed -/
import Derived.Test.YtplldnnnhgnbjaaGreatDoorMv09
namespace Go.Proofs.YtplldnnnhgnbjaaGreatDoor
open Go.RowKit Go.Maps
def kmF(m:Km):ByteArray→Option Value:=fun s=>(m s).map I64
theorem dO(m:Km)(s:ByteArray):(kmF m s).getD (.int .i64 0)=.int .i64 ((m s).getD 0):=by
 unfold kmF
 cases m s <;> rfl
theorem kmF_upd(m:Km)(s:ByteArray)(k:Int):cI (kmF m) s (some (.int .i64 k))=kmF (oA m s k):=by
 funext t
 unfold cI kmF oA
 by_cases h:t=s
 ·rw[if_pos h,if_pos h];rfl
 ·rw[if_neg h,if_neg h]
def InferPost(ss:List Sc)(r:Rl)(w:World)(e:Ending)(w':World):Prop :=
 Ext w w'∧((∃km b m,aU ss r=.ok km∧e=.returned (.tuple #[.map (some b),.int .i64 0])∧w.heap.size≤b∧m≤1048576∧aI w' b m (kmF km)) ∨
  ∃x,aU ss r=.error x∧x≠0∧e=.returned (.tuple #[.map none,.int .i64 x]))
theorem o6{m:Km}{t:Tm}{k:Int}(h:t.var=⟨#[]⟩):cV m (t,k)=if t.kind=k then .ok m else .error 5:=if_pos h
theorem o7{m:Km}{t:Tm}{k k0:Int}(h:¬t.var=⟨#[]⟩)(h1:m t.var=some k0):cV m (t,k)=if k0=k then .ok m else .error 5:=by
 unfold cV
 rw[if_neg h]
 simp only[h1]
theorem kindT_new{m:Km}{t:Tm}{k:Int}(h:¬t.var=⟨#[]⟩)(h1:m t.var=none):cV m (t,k)=.ok (oA m t.var k):=by
 unfold cV
 rw[if_neg h]
 simp only[h1]
theorem aO(w:World):(zeroValue 3).run Tryz.prog w=.ok (.int .i64 0) w:=by kernel_rfl
set_option maxRecDepth 20000 in
set_option maxHeartbeats 6400000 in
theorem infer_any{F G H:Nat→Prop}{w:World}{va vc vs:Value}{r:Rl}{ss:List Sc}(hA:Ats F w va r.ats)(hC:Sl eL H w vc r.cds)(hS:Sl el G w vs ss)(hz:RlZ r)(tX:r.ats.length≤524288)(tB:(aY r.ats).length≤524288)(tC:ss.length≤maxLen) :
  Calls Tryz.prog 64 #[.agg #[va,vc],vs] w (InferPost ss r w):=by
 obtain⟨C,cc,rfl⟩:=hC.sl
 obtain⟨nc,tG⟩:=sd r.cds.length
 rw[←tG]
 clear tG hC
 obtain⟨S,cs,rfl⟩:=hS.sl
 obtain⟨nS,tF⟩:=sd ss.length
 rw[←tF]at hS ⊢
 clear tF
 replace hS:Sl el (fun k=>k<w.heap.size) w (.slice S nS cs) ss:=hS.mono (by decide) (fun k hk _=>hk)
 obtain⟨A,c,rfl,hc,tp⟩:=hA.at'
 obtain⟨n,hn⟩:=sd r.ats.length
 rw[←hn]at hc tX ⊢
 have HN:=zN hn;have tJ:=zN tp;have HZ:=zN hz;have sW:=zN tB;have HS:=zN hS;have tN:=zN tC
 have tZ:=@run_makeMap Tryz.prog
 clear hn tp hz hA tB hS tC
 go_enter Tryz.func64,Tryz.ntmps64
 go_wp2_with fail
 have hx:Ext w ((w.alloc (.cells #[.slice A n c,.slice C nc cc] 46)).alloc (.map #[] 0)):=((Ext.refl w).alloc _).alloc _
 have tc:=aI.made (w.alloc (.cells #[.slice A n c,.slice C nc cc] 46))
 rw[show (w.alloc (.cells #[.slice A n c,.slice C nc cc] 46)).heap.size=w.heap.size+1 by simp]at tc
 generalize ((w.alloc (.cells #[.slice A n c,.slice C nc cc] 46)).alloc (.map #[] 0))=w1 at *
 have tO:Hid (aI w1 (w.heap.size+1) 0 (kmF (fun _=>none))):=zN tc
 clear tc tZ
 go_loopw [19] (fun t wr=>∃(i m:Nat) (km:Km),i≤n∧m≤(aY (r.ats.take i)).length∧t=.int .i64 (i:Int)∧Hid (dz (dG ss) (r.ats.take i) (fun _=>none)=.ok km)∧aI wr (w.heap.size+1) m (kmF km)∧Ext w wr) (fun t _=>n-(intOf t).toNat)
 case atStart=>exact⟨0,0,fun _=>none,jn _,jn _,rfl,zN rfl,tO.out,hx⟩
 case round =>
  obtain⟨i,m0,km,hi,tD,rfl,si,hM,tf⟩:=hrel
  obtain⟨W,rfl⟩:∃W:World,W=wr:=⟨_,rfl⟩
  have HX:=zN tf;have tj:=zN hM;have sI:=zN tD
  have um:w.heap.size≤W.heap.size:=tf.size
  clear hM tD
  by_cases hlt:i<n
  ·have i1:(0:Int)≤(i:Int):=by omega
   have i2:(i:Int)<(n:Int):=by omega
   have sx:i<r.ats.length:=by have:=HN.out;omega
   obtain⟨ad,Bt,dt,rfl,-,c0,c1,c2,hd,sA⟩:=tJ.out i sx
   replace c0:=HX.out.cell c0;replace c1:=HX.out.cell c1;replace c2:=HX.out.cell c2
   have sU:=HZ.out.tms _ (jf sx)
   have sT:=lw sx
   have sy:=kT (xs:=r.ats) (i+1)
   rw[cK sx,jm]at sy
   have sr:=zN (cK sx)
   have sg:=fun e=>po (f:=dG ss) (e:=e) sx si.out
   have sh:=lY (f:=dG ss) sx si.out
   obtain⟨⟨ng,rl,ts⟩,ha⟩:=sd (r.ats[i])
   rw[←ha]at c0 c1 c2 hd sA sU sT sy sr sg sh
   simp only at c0 c1 c2 hd sA sU sT sy sr
   obtain⟨nt,td⟩:=sd ts.length
   rw[←td]at c2 hd sT sy
   have ub:nt≤524288:=by have:=sW.out;omega
   have tI:=zN sy;have se:=zN sg;have sD:=zN sh
   have sJ:=zN td;have tK:=zN sA;have tT:=zN sU
   clear td sA sU ha sT sy tf sg sh
   go_wp2_with fail
   have kx:=Bk.new W 49 [.bool ng,.string rl,.slice Bt nt dt]
   change Bk (W.alloc (.cells #[.bool ng,.string rl,.slice Bt nt dt] 49)) _ _ _ at kx
   have hx1:Ext W (W.alloc (.cells #[.bool ng,.string rl,.slice Bt nt dt] 49)):=(Ext.refl W).alloc _
   generalize (W.alloc (.cells #[.bool ng,.string rl,.slice Bt nt dt] 49))=W1 at *
   refine(find_any (s:=rl) (HS.out.ext (HX.out.trans hx1)) tN.out).mono ?_
   rintro e W2 ⟨sY,sF⟩
   have tg:=zN (kx.ext sY);have sN:=zN (hx1.trans sY)
   have tY:W.heap.size<W2.heap.size:=tg.out.lt
   clear kx hx1 sY c0 c1 c2
   rcases sF with ⟨sp,rfl⟩|⟨⟨xn,xk⟩,B,d,sq,-,rfl,hk⟩
   ·have HQ:=zN (se.out 7 (by unfold dG;simp only[sp]))
    clear sp
    go_wp2_with fail
    go_ret2
    exact⟨(HX.out.trans sN.out).alloc _,.inr ⟨7,HQ.out,by decide,rfl⟩⟩
   obtain⟨nk,sQ⟩:=sd xk.length
   simp only at hk ⊢
   rw[←sQ]at hk ⊢
   have tw:∀m,dG ss m ⟨ng,rl,ts⟩=if nt=nk then dz cV (ts.zip xk) m else .error 6:=fun m=>by
    unfold dG
    simp only[sq]
    rw[sJ.out,sQ]
   have sV:=zN tw;have tQ:=zN sQ;have HK:=zN hk
   clear sq tw sQ hk
   have g2:=tg.out.c2
   by_cases hne:¬nt=nk
   ·have HQ:=zN (se.out 6 (by rw[sV.out,if_neg hne]))
    have ua:((nt:Int) != (nk:Int))=true:=by rw[bne_iff_ne];omega
    clear hne
    go_wp2_with fail
    go_ret2
    exact⟨(HX.out.trans sN.out).alloc _,.inr ⟨6,HQ.out,by decide,rfl⟩⟩
   obtain rfl:nt=nk:=by omega
   clear hne
   go_wp2_with fail
   have kz:=Bk.new W2 92 [.string xn,.slice B nt d]
   change Bk (W2.alloc (.cells #[.string xn,.slice B nt d] 92)) _ _ _ at kz
   have hx3:Ext W2 (W2.alloc (.cells #[.string xn,.slice B nt d] 92)):=(Ext.refl W2).alloc _
   generalize (W2.alloc (.cells #[.string xn,.slice B nt d] 92))=W3 at *
   have th:=zN kz;have tS:=zN (HX.out.trans (sN.out.trans hx3));have sC:=zN (tj.out.ext (sN.out.trans hx3));have tM:=zN (HK.out.ext hx3)
   clear kz hx3 g2
   go_loopw [42] (fun t wr=>∃(j m:Nat) (kj:Km),j≤nt∧m≤m0+j∧t=.int .i64 (j:Int)∧Hid (dz cV ((ts.zip xk).take j) km=.ok kj)∧aI wr (w.heap.size+1) m (kmF kj)∧Fr (fun b=>b=w.heap.size+1) W3 wr) (fun t _=>nt-(intOf t).toNat)
   case atStart=>exact⟨0,m0,km,jn _,jo _,rfl,zN rfl,sC.out,Fr.refl _ _⟩
   case round =>
    obtain⟨j,m,kj,hj,hm,rfl,sK,hM,sO⟩:=hrel
    have te:Ext w wr:=sO.new tS.out (fun b hb=>by omega)
    have sE:W2.heap.size≠w.heap.size+1:=sC.out.ne th.out
    have ta:=th.out.fr sO sE
    have z1:=ta.c1
    have sw:=zN te;have su:=zN hM;have sH:=zN sO
    have ue:W2.heap.size<wr.heap.size:=ta.lt
    have hW:w.heap.size≤wr.heap.size:=te.size
    have uk:m<1048576:=by have:=tI.out;have:=sW.out;have:=sI.out;omega
    clear hM te sO ta
    by_cases hjt:j<nt
    ·have j1:(0:Int)≤(j:Int):=by omega
     have j2:(j:Int)<(nt:Int):=by omega
     have tt:j<ts.length:=by have:=sJ.out;omega
     have tU:j<xk.length:=by have:=tQ.out;omega
     have tu:j<(ts.zip xk).length:=by rw[zu];omega
     obtain⟨ud,rfl,hF,d0,d1,d2,d3⟩:=tK.out.term tt
     replace d0:=sw.out.cell d0;replace d1:=sw.out.cell d1;replace d2:=sw.out.cell d2;replace d3:=sw.out.cell d3
     obtain⟨sj,kk,hB,tz,tA,ui⟩:∃sj kk,B=some sj∧wr.cell? (sj.add j)=some (.int .i64 kk)∧kk=xk[j]∧sj.block<w.heap.size:=by
      obtain⟨B',d',e,-,sA⟩:=tM.out
      injection e with e1
      subst e1
      obtain⟨sj,rfl,hG,h1⟩:=sA.int tU
      exact⟨sj,_,rfl,sH.out.cell h1 (by rw[aT];omega),rfl,hG⟩
     subst hB
     have sB:=(tT.out _ (jf tt)).1
     have sG:(ts.zip xk)[j]=(ts[j],kk):=by rw[tA];exact zB
     have sR:=fun e=>po (f:=cV) (e:=e) tu sK.out
     have sS:=lY (f:=cV) tu sK.out
     rw[sG]at sR sS
     obtain⟨x,hx⟩:=sd (ts[j])
     rw[←hx]at d0 d1 d2 d3 sB sR sS
     have tn:Hid (cV kj (x,kk)=.error 5→aU ss r=.error 5):=zN (fun h=>se.out 5 (by rw[sV.out];simpa using sR 5 h))
     have sX:=zN sS
     clear tA sG sR sS hx
     obtain⟨xv,kd,it,st⟩:=x
     simp only at d0 d1 d2 d3 sB
     have tW:=((Ext.refl wr).alloc (.cells #[.string xv,.int .i64 kd,.int .i64 it,.string st] 132)).cell tz
     have sZ:(sj.add j).block≠w.heap.size+1:=by rw[aT];omega
     by_cases hv:xv=⟨#[]⟩
     ·have uc:=gw hv
      by_cases hkd:kd=kk
      ·have HG:=zN (show dz cV ((ts.zip xk).take (j+1)) km=.ok kj by rw[sX.out,o6 hv,if_pos hkd])
       have hb:(kd != kk)=false:=by rw[hkd];simp
       clear hv hkd
       go_wp2_with fail
       go_roundw
       case rel=>exact⟨j+1,m,kj,by omega,by omega,by go_num,HG,su.out.ext ((Ext.refl wr).alloc _),sH.out.alloc _⟩
       case measure=>simp[intOf];omega
      ·have HQ:=zN (tn.out (by rw[o6 hv,if_neg hkd]))
       have hb:(kd != kk)=true:=by rw[bne_iff_ne];exact hkd
       clear hv hkd
       go_wp2_with fail
       go_ret2
       exact⟨sw.out.alloc _,.inr ⟨5,HQ.out,by decide,rfl⟩⟩
     ·have uc:=gy hv
      have HV:=zN hv
      rcases hkj:kj xv with _|k0
      ·have HG:=zN (show dz cV ((ts.zip xk).take (j+1)) km=.ok (oA kj xv kk) by rw[sX.out,kindT_new hv hkj])
       have sL:Hid ((kmF kj xv).getD (.int .i64 0)=.int .i64 0):=zN (by rw[dO,hkj];rfl)
       have sM:Hid ((kmF kj xv).isSome=false):=zN (by unfold kmF;rw[hkj];rfl)
       have hb:(kk != kk)=false:=by simp
       clear hv hkj
       have tH:∀w5,(wr.alloc (.cells #[.string xv,.int .i64 kd,.int .i64 it,.string st] 132)).grownBy w5 (some (w.heap.size+1))→Hid (Fr (fun b=>b=w.heap.size+1) wr w5∧w5.cell? ⟨W2.heap.size,1,none⟩=some (.slice (some sj) nt d)∧w5.cell? (sj.add j)=some (.int .i64 kk)):=fun w5 sP=>zN (by
        have h1:Fr (fun b=>b=w.heap.size+1) wr w5:=((Fr.refl (fun b=>b=w.heap.size+1) wr).alloc (.cells #[.string xv,.int .i64 kd,.int .i64 it,.string st] 132)).grown sP (fun k e=>.inl (by injection e with e;exact e.symm))
        exact⟨h1,h1.cell z1 sE,h1.cell tz sZ⟩)
       have tR:=zN tH
       clear tH
       go_wp2_with (first
        | (refine az rfl _ _ 145 3 rfl Tryz.underlying145 (.int .i64 0) (aO _) (w.heap.size+1) m _ rfl (su.out.ext ((Ext.refl wr).alloc _)) xv rfl sB (.int .i64 0) sL.out false sM.out ?_)
        | (refine aN rfl _ _ _ 145 3 rfl Tryz.underlying145 (w.heap.size+1) m (kmF kj) rfl (su.out.ext ((Ext.refl wr).alloc _)) (by simp only[maxLen];omega) xv (.int .i64 kk) rfl sB rfl ?_;intro w5 tE sP;obtain⟨tq,un,uh⟩:=(tR.out w5 sP).out;have tP:=zN tE;have tL:=zN tq;clear tE sP tq))
       go_roundw
       case rel=>exact⟨j+1,m+1,oA kj xv kk,by omega,by omega,by go_num,HG,by rw[←kmF_upd];exact tP.out,sH.out.trans tL.out⟩
       case measure=>simp[intOf];omega
      ·have sL:Hid ((kmF kj xv).getD (.int .i64 0)=.int .i64 k0):=zN (by rw[dO,hkj];rfl)
       have sM:Hid ((kmF kj xv).isSome=true):=zN (by unfold kmF;rw[hkj];rfl)
       by_cases hkd:k0=kk
       ·have HG:=zN (show dz cV ((ts.zip xk).take (j+1)) km=.ok kj by rw[sX.out,o7 hv hkj,if_pos hkd])
        have hb:(k0 != kk)=false:=by rw[hkd];simp
        clear hv hkj hkd
        go_wp2_with (first
         | (refine az rfl _ _ 145 3 rfl Tryz.underlying145 (.int .i64 0) (aO _) (w.heap.size+1) m _ rfl (su.out.ext ((Ext.refl wr).alloc _)) xv rfl sB (.int .i64 k0) sL.out true sM.out ?_))
        go_roundw
        case rel=>exact⟨j+1,m,kj,by omega,by omega,by go_num,HG,su.out.ext ((Ext.refl wr).alloc _),sH.out.alloc _⟩
        case measure=>simp[intOf];omega
       ·have HQ:=zN (tn.out (by rw[o7 hv hkj,if_neg hkd]))
        have hb:(k0 != kk)=true:=by rw[bne_iff_ne];exact hkd
        clear hv hkj hkd
        go_wp2_with (first
         | (refine az rfl _ _ 145 3 rfl Tryz.underlying145 (.int .i64 0) (aO _) (w.heap.size+1) m _ rfl (su.out.ext ((Ext.refl wr).alloc _)) xv rfl sB (.int .i64 k0) sL.out true sM.out ?_))
        go_ret2
        exact⟨sw.out.alloc _,.inr ⟨5,HQ.out,by decide,rfl⟩⟩
    ·obtain rfl:j=nt:=by omega
     have ug:¬(j:Int)<(j:Int):=by omega
     have et:(ts.zip xk).take j=ts.zip xk:=by rw[sJ.out];exact jp (by rw[zu];omega)
     rw[et]at sK
     have HG:=zN (show dz (dG ss) (r.ats.take (i+1)) (fun _=>none)=.ok kj by rw[sD.out,sV.out];simpa using sK.out)
     clear et z1
     go_wp2_with fail
     go_roundw
     case rel=>exact⟨i+1,m,kj,by omega,by rw[sr.out,jm,←sJ.out];have:=sI.out;omega,by go_num,HG,su.out,sw.out⟩
     case measure=>simp[intOf];omega
  ·obtain rfl:i=n:=by omega
   have uf:¬(i:Int)<(i:Int):=by omega
   have et:r.ats.take i=r.ats:=by rw[HN.out];exact jT
   rw[et]at si sI
   clear et
   go_wp2_with fail
   go_ret2
   exact⟨HX.out,.inl ⟨km,w.heap.size+1,m0,si.out,rfl,by omega,by have:=sI.out;have:=sW.out;omega,tj.out⟩⟩
