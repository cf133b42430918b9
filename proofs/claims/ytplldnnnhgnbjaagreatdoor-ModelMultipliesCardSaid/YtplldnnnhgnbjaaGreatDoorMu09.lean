/- packed -/
import Derived.Test.YtplldnnnhgnbjaaGreatDoorMu08
namespace Go.Proofs.YtplldnnnhgnbjaaGreatDoor
open Go.RowKit Go.Maps
def kmF(m:Km):ByteArray→Option Value:=fun s=>(m s).map I64
theorem kmF_get(m:Km)(s:ByteArray):(kmF m s).getD (.int .i64 0)=.int .i64 ((m s).getD 0):=by
 unfold kmF
 cases m s <;> rfl
theorem kmF_upd(m:Km)(s:ByteArray)(k:Int):updV (kmF m) s (some (.int .i64 k))=kmF (updK m s k):=by
 funext t
 unfold updV kmF updK
 by_cases h:t=s
 ·rw[if_pos h,if_pos h];rfl
 ·rw[if_neg h,if_neg h]
def InferPost(ss:List Sc)(r:Rl)(w:World)(e:Ending)(w':World):Prop :=
 Ext w w'∧((∃km b m,inferX ss r=.ok km∧e=.returned (.tuple #[.map (some b),.int .i64 0])∧w.heap.size≤b∧m≤1048576∧MapV w' b m (kmF km)) ∨
  ∃x,inferX ss r=.error x∧x≠0∧e=.returned (.tuple #[.map none,.int .i64 x]))
theorem kindT_con{m:Km}{t:Tm}{k:Int}(h:t.var=⟨#[]⟩):kindT m (t,k)=if t.kind=k then .ok m else .error 5:=if_pos h
theorem kindT_old{m:Km}{t:Tm}{k k0:Int}(h:¬t.var=⟨#[]⟩)(h1:m t.var=some k0):kindT m (t,k)=if k0=k then .ok m else .error 5:=by
 unfold kindT
 rw[if_neg h]
 simp only[h1]
theorem kindT_new{m:Km}{t:Tm}{k:Int}(h:¬t.var=⟨#[]⟩)(h1:m t.var=none):kindT m (t,k)=.ok (updK m t.var k):=by
 unfold kindT
 rw[if_neg h]
 simp only[h1]
theorem zero_int(w:World):(zeroValue 3).run Tryz.prog w=.ok (.int .i64 0) w:=by kernel_rfl
set_option maxRecDepth 20000 in
set_option maxHeartbeats 6400000 in
theorem infer_any{F G H:Nat→Prop}{w:World}{va vc vs:Value}{r:Rl}{ss:List Sc}(hA:Ats F w va r.ats)(hC:Sl rdCd H w vc r.cds)(hS:Sl rdSc G w vs ss)(hz:RlZ r)(hl1:r.ats.length≤524288)(hl2:(allT r.ats).length≤524288)(hls:ss.length≤maxLen) :
  Calls Tryz.prog 64 #[.agg #[va,vc],vs] w (InferPost ss r w):=by
 obtain⟨C,cc,rfl⟩:=hC.sl
 obtain⟨nc,hnc⟩:∃nc,nc=r.cds.length:=⟨_,rfl⟩
 rw[←hnc]
 clear hnc hC
 obtain⟨S,cs,rfl⟩:=hS.sl
 obtain⟨nS,hnS⟩:∃nS,nS=ss.length:=⟨_,rfl⟩
 rw[←hnS]at hS ⊢
 clear hnS
 replace hS:Sl rdSc (fun k=>k<w.heap.size) w (.slice S nS cs) ss:=hS.mono (by decide) (fun k hk _=>hk)
 obtain⟨A,c,rfl,hc,hat⟩:=hA.at'
 obtain⟨n,hn⟩:∃n,n=r.ats.length:=⟨_,rfl⟩
 rw[←hn]at hc hl1 ⊢
 have HN:=zO hn;have HAT:=zO hat;have HZ:=zO hz;have HL2:=zO hl2;have HS:=zO hS;have HLS:=zO hls
 have hmm:=@run_makeMap Tryz.prog
 clear hn hat hz hA hl2 hS hls
 go_enter Tryz.func64,Tryz.ntmps64
 go_wp2_with fail
 have hx:Ext w ((w.alloc (.cells #[.slice A n c,.slice C nc cc] 46)).alloc (.map #[] 0)):=((Ext.refl w).alloc _).alloc _
 have hm1:=MapV.made (w.alloc (.cells #[.slice A n c,.slice C nc cc] 46))
 rw[show (w.alloc (.cells #[.slice A n c,.slice C nc cc] 46)).heap.size=w.heap.size+1 by simp]at hm1
 generalize ((w.alloc (.cells #[.slice A n c,.slice C nc cc] 46)).alloc (.map #[] 0))=w1 at *
 have HM1:Hid (MapV w1 (w.heap.size+1) 0 (kmF (fun _=>none))):=zO hm1
 clear hm1 hmm
 go_loopw [19] (fun t wr=>∃(i m:Nat) (km:Km),i≤n∧m≤(allT (r.ats.take i)).length∧t=.int .i64 (i:Int)∧Hid (runX (kindA ss) (r.ats.take i) (fun _=>none)=.ok km)∧MapV wr (w.heap.size+1) m (kmF km)∧Ext w wr) (fun t _=>n-(intOf t).toNat)
 case atStart=>exact⟨0,0,fun _=>none,jn _,jn _,rfl,zO rfl,HM1.out,hx⟩
 case round =>
  obtain⟨i,m0,km,hi,hm0,rfl,HRUN,hM,hxr⟩:=hrel
  obtain⟨W,rfl⟩:∃W:World,W=wr:=⟨_,rfl⟩
  have HX:=zO hxr;have HMM:=zO hM;have HM0:=zO hm0
  have hwW:w.heap.size≤W.heap.size:=hxr.size
  clear hM hm0
  by_cases hlt:i<n
  ·have i1:(0:Int)≤(i:Int):=by omega
   have i2:(i:Int)<(n:Int):=by omega
   have hix:i<r.ats.length:=by have:=HN.out;omega
   obtain⟨ad,Bt,dt,rfl,-,c0,c1,c2,hd,hcl⟩:=HAT.out i hix
   replace c0:=HX.out.cell c0;replace c1:=HX.out.cell c1;replace c2:=HX.out.cell c2
   have hzx:=HZ.out.tms _ (jg hix)
   have htl:=terms_le hix
   have hal:=allT_le (xs:=r.ats) (i+1)
   rw[allT_take hix,jl]at hal
   have HAT2:=zO (allT_take hix)
   have hstop:=fun e=>runX_stop (f:=kindA ss) (e:=e) hix HRUN.out
   have htake:=runX_take (f:=kindA ss) hix HRUN.out
   obtain⟨⟨ng,rl,ts⟩,ha⟩:∃a,a=r.ats[i]:=⟨_,rfl⟩
   rw[←ha]at c0 c1 c2 hd hcl hzx htl hal HAT2 hstop htake
   simp only at c0 c1 c2 hd hcl hzx htl hal HAT2
   obtain⟨nt,hnt⟩:∃k,k=ts.length:=⟨_,rfl⟩
   rw[←hnt]at c2 hd htl hal
   have hnt2:nt≤524288:=by have:=HL2.out;omega
   have HAL:=zO hal;have HSTOP:=zO hstop;have HTAKE:=zO htake
   have HNT:=zO hnt;have HCL:=zO hcl;have HZX:=zO hzx
   clear hnt hcl hzx ha htl hal hxr hstop htake
   go_wp2_with fail
   have kx:=Bk.new W 49 [.bool ng,.string rl,.slice Bt nt dt]
   change Bk (W.alloc (.cells #[.bool ng,.string rl,.slice Bt nt dt] 49)) _ _ _ at kx
   have hx1:Ext W (W.alloc (.cells #[.bool ng,.string rl,.slice Bt nt dt] 49)):=(Ext.refl W).alloc _
   generalize (W.alloc (.cells #[.bool ng,.string rl,.slice Bt nt dt] 49))=W1 at *
   refine(find_any (s:=rl) (HS.out.ext (HX.out.trans hx1)) HLS.out).mono ?_
   rintro e W2 ⟨he2,hpost⟩
   have HKX:=zO (kx.ext he2);have HX2:=zO (hx1.trans he2)
   have hlt2:W.heap.size<W2.heap.size:=HKX.out.lt
   clear kx hx1 he2 c0 c1 c2
   rcases hpost with ⟨hnone,rfl⟩|⟨⟨xn,xk⟩,B,d,hsome,-,rfl,hk⟩
   ·have HQ:=zO (HSTOP.out 7 (by unfold kindA;simp only[hnone]))
    clear hnone
    go_wp2_with fail
    go_ret2
    exact⟨(HX.out.trans HX2.out).alloc _,.inr ⟨7,HQ.out,by decide,rfl⟩⟩
   obtain⟨nk,hnk⟩:∃nk,nk=xk.length:=⟨_,rfl⟩
   simp only at hk ⊢
   rw[←hnk]at hk ⊢
   have hkA:∀m,kindA ss m ⟨ng,rl,ts⟩=if nt=nk then runX kindT (ts.zip xk) m else .error 6:=fun m=>by
    unfold kindA
    simp only[hsome]
    rw[HNT.out,hnk]
   have HKA:=zO hkA;have HNK:=zO hnk;have HK:=zO hk
   clear hsome hkA hnk hk
   have g2:=HKX.out.cell (i:=2) (by simp)
   simp only[ja,je]at g2
   by_cases hne:¬nt=nk
   ·have HQ:=zO (HSTOP.out 6 (by rw[HKA.out,if_neg hne]))
    have hne2:((nt:Int) != (nk:Int))=true:=by rw[bne_iff_ne];omega
    clear hne
    go_wp2_with fail
    go_ret2
    exact⟨(HX.out.trans HX2.out).alloc _,.inr ⟨6,HQ.out,by decide,rfl⟩⟩
   obtain rfl:nt=nk:=by omega
   clear hne
   go_wp2_with fail
   have kz:=Bk.new W2 92 [.string xn,.slice B nt d]
   change Bk (W2.alloc (.cells #[.string xn,.slice B nt d] 92)) _ _ _ at kz
   have hx3:Ext W2 (W2.alloc (.cells #[.string xn,.slice B nt d] 92)):=(Ext.refl W2).alloc _
   generalize (W2.alloc (.cells #[.string xn,.slice B nt d] 92))=W3 at *
   have HKZ:=zO kz;have HX3:=zO (HX.out.trans (HX2.out.trans hx3));have HMM3:=zO (HMM.out.ext (HX2.out.trans hx3));have HK3:=zO (HK.out.ext hx3)
   clear kz hx3 g2
   go_loopw [42] (fun t wr=>∃(j m:Nat) (kj:Km),j≤nt∧m≤m0+j∧t=.int .i64 (j:Int)∧Hid (runX kindT ((ts.zip xk).take j) km=.ok kj)∧MapV wr (w.heap.size+1) m (kmF kj)∧Fr (fun b=>b=w.heap.size+1) W3 wr) (fun t _=>nt-(intOf t).toNat)
   case atStart=>exact⟨0,m0,km,jn _,jq _,rfl,zO rfl,HMM3.out,Fr.refl _ _⟩
   case round =>
    obtain⟨j,m,kj,hj,hm,rfl,HRJ,hM,hfr⟩:=hrel
    have hxj:Ext w wr:=hfr.new HX3.out (fun b hb=>by omega)
    have hbne:W2.heap.size≠w.heap.size+1:=HMM3.out.ne HKZ.out
    have hkz:=HKZ.out.fr hfr hbne
    have z1:=hkz.cell (i:=1) (by simp)
    simp only[ja,je]at z1
    have HXJ:=zO hxj;have HMJ:=zO hM;have HFR:=zO hfr
    have hbl:W2.heap.size<wr.heap.size:=hkz.lt
    have hW:w.heap.size≤wr.heap.size:=hxj.size
    have hmb:m<1048576:=by have:=HAL.out;have:=HL2.out;have:=HM0.out;omega
    clear hM hxj hfr hkz
    by_cases hjt:j<nt
    ·have j1:(0:Int)≤(j:Int):=by omega
     have j2:(j:Int)<(nt:Int):=by omega
     have hjl:j<ts.length:=by have:=HNT.out;omega
     have hjk:j<xk.length:=by have:=HNK.out;omega
     have hjz:j<(ts.zip xk).length:=by rw[zr];omega
     obtain⟨adt,rfl,hF,d0,d1,d2,d3⟩:=HCL.out.term hjl
     replace d0:=HXJ.out.cell d0;replace d1:=HXJ.out.cell d1;replace d2:=HXJ.out.cell d2;replace d3:=HXJ.out.cell d3
     obtain⟨adk,kk,hB,hkc,hkk,hkb⟩:∃adk kk,B=some adk∧wr.cell? (adk.add j)=some (.int .i64 kk)∧kk=xk[j]∧adk.block<w.heap.size:=by
      obtain⟨B',d',e,-,hcl⟩:=HK3.out
      injection e with e1
      subst e1
      obtain⟨adk,rfl,hG,h1⟩:=hcl.int hjk
      exact⟨adk,_,rfl,HFR.out.cell h1 (by rw[block_add];omega),rfl,hG⟩
     subst hB
     have hzt:=(HZX.out _ (jg hjl)).1
     have hzip:(ts.zip xk)[j]=(ts[j],kk):=by rw[hkk];exact zA
     have hst:=fun e=>runX_stop (f:=kindT) (e:=e) hjz HRJ.out
     have htk:=runX_take (f:=kindT) hjz HRJ.out
     rw[hzip]at hst htk
     obtain⟨x,hx⟩:∃x,x=ts[j]:=⟨_,rfl⟩
     rw[←hx]at d0 d1 d2 d3 hzt hst htk
     have HST:Hid (kindT kj (x,kk)=.error 5→inferX ss r=.error 5):=zO (fun h=>HSTOP.out 5 (by rw[HKA.out];simpa using hst 5 h))
     have HTK:=zO htk
     clear hkk hzip hst htk hx
     obtain⟨xv,kd,it,st⟩:=x
     simp only at d0 d1 d2 d3 hzt
     have hkca:=((Ext.refl wr).alloc (.cells #[.string xv,.int .i64 kd,.int .i64 it,.string st] 132)).cell hkc
     have hkbn:(adk.add j).block≠w.heap.size+1:=by rw[block_add];omega
     by_cases hv:xv=⟨#[]⟩
     ·have hve:=var_eq hv
      by_cases hkd:kd=kk
      ·have HG:=zO (show runX kindT ((ts.zip xk).take (j+1)) km=.ok kj by rw[HTK.out,kindT_con hv,if_pos hkd])
       have hb:(kd != kk)=false:=by rw[hkd];simp
       clear hv hkd
       go_wp2_with fail
       go_roundw
       case rel=>exact⟨j+1,m,kj,by omega,by omega,by go_num,HG,HMJ.out.ext ((Ext.refl wr).alloc _),HFR.out.alloc _⟩
       case measure=>simp[intOf];omega
      ·have HQ:=zO (HST.out (by rw[kindT_con hv,if_neg hkd]))
       have hb:(kd != kk)=true:=by rw[bne_iff_ne];exact hkd
       clear hv hkd
       go_wp2_with fail
       go_ret2
       exact⟨HXJ.out.alloc _,.inr ⟨5,HQ.out,by decide,rfl⟩⟩
     ·have hve:=var_ne hv
      have HV:=zO hv
      rcases hkj:kj xv with _|k0
      ·have HG:=zO (show runX kindT ((ts.zip xk).take (j+1)) km=.ok (updK kj xv kk) by rw[HTK.out,kindT_new hv hkj])
       have HU1:Hid ((kmF kj xv).getD (.int .i64 0)=.int .i64 0):=zO (by rw[kmF_get,hkj];rfl)
       have HU2:Hid ((kmF kj xv).isSome=false):=zO (by unfold kmF;rw[hkj];rfl)
       have hb:(kk != kk)=false:=by simp
       clear hv hkj
       have hup:∀w5,(wr.alloc (.cells #[.string xv,.int .i64 kd,.int .i64 it,.string st] 132)).grownBy w5 (some (w.heap.size+1))→Hid (Fr (fun b=>b=w.heap.size+1) wr w5∧w5.cell? ⟨W2.heap.size,1,none⟩=some (.slice (some adk) nt d)∧w5.cell? (adk.add j)=some (.int .i64 kk)):=fun w5 hg5=>zO (by
        have h1:Fr (fun b=>b=w.heap.size+1) wr w5:=((Fr.refl (fun b=>b=w.heap.size+1) wr).alloc (.cells #[.string xv,.int .i64 kd,.int .i64 it,.string st] 132)).grown hg5 (fun k e=>.inl (by injection e with e;exact e.symm))
        exact⟨h1,h1.cell z1 hbne,h1.cell hkc hkbn⟩)
       have HUP:=zO hup
       clear hup
       go_wp2_with (first
        | (refine wpList_lookup_okV rfl _ _ 145 3 rfl Tryz.underlying145 (.int .i64 0) (zero_int _) (w.heap.size+1) m _ rfl (HMJ.out.ext ((Ext.refl wr).alloc _)) xv rfl hzt (.int .i64 0) HU1.out false HU2.out ?_)
        | (refine wpList_update_V rfl _ _ _ 145 3 rfl Tryz.underlying145 (w.heap.size+1) m (kmF kj) rfl (HMJ.out.ext ((Ext.refl wr).alloc _)) (by simp only[maxLen];omega) xv (.int .i64 kk) rfl hzt rfl ?_;intro w5 hm5 hg5;obtain⟨hf5,hz5,hk5⟩:=(HUP.out w5 hg5).out;have HM5:=zO hm5;have HF5:=zO hf5;clear hm5 hg5 hf5))
       go_roundw
       case rel=>exact⟨j+1,m+1,updK kj xv kk,by omega,by omega,by go_num,HG,by rw[←kmF_upd];exact HM5.out,HFR.out.trans HF5.out⟩
       case measure=>simp[intOf];omega
      ·have HU1:Hid ((kmF kj xv).getD (.int .i64 0)=.int .i64 k0):=zO (by rw[kmF_get,hkj];rfl)
       have HU2:Hid ((kmF kj xv).isSome=true):=zO (by unfold kmF;rw[hkj];rfl)
       by_cases hkd:k0=kk
       ·have HG:=zO (show runX kindT ((ts.zip xk).take (j+1)) km=.ok kj by rw[HTK.out,kindT_old hv hkj,if_pos hkd])
        have hb:(k0 != kk)=false:=by rw[hkd];simp
        clear hv hkj hkd
        go_wp2_with (first
         | (refine wpList_lookup_okV rfl _ _ 145 3 rfl Tryz.underlying145 (.int .i64 0) (zero_int _) (w.heap.size+1) m _ rfl (HMJ.out.ext ((Ext.refl wr).alloc _)) xv rfl hzt (.int .i64 k0) HU1.out true HU2.out ?_))
        go_roundw
        case rel=>exact⟨j+1,m,kj,by omega,by omega,by go_num,HG,HMJ.out.ext ((Ext.refl wr).alloc _),HFR.out.alloc _⟩
        case measure=>simp[intOf];omega
       ·have HQ:=zO (HST.out (by rw[kindT_old hv hkj,if_neg hkd]))
        have hb:(k0 != kk)=true:=by rw[bne_iff_ne];exact hkd
        clear hv hkj hkd
        go_wp2_with (first
         | (refine wpList_lookup_okV rfl _ _ 145 3 rfl Tryz.underlying145 (.int .i64 0) (zero_int _) (w.heap.size+1) m _ rfl (HMJ.out.ext ((Ext.refl wr).alloc _)) xv rfl hzt (.int .i64 k0) HU1.out true HU2.out ?_))
        go_ret2
        exact⟨HXJ.out.alloc _,.inr ⟨5,HQ.out,by decide,rfl⟩⟩
    ·obtain rfl:j=nt:=by omega
     have hdj:¬(j:Int)<(j:Int):=by omega
     have et:(ts.zip xk).take j=ts.zip xk:=by rw[HNT.out];exact jo (by rw[zr];omega)
     rw[et]at HRJ
     have HG:=zO (show runX (kindA ss) (r.ats.take (i+1)) (fun _=>none)=.ok kj by rw[HTAKE.out,HKA.out];simpa using HRJ.out)
     clear et z1
     go_wp2_with fail
     go_roundw
     case rel=>exact⟨i+1,m,kj,by omega,by rw[HAT2.out,jl,←HNT.out];have:=HM0.out;omega,by go_num,HG,HMJ.out,HXJ.out⟩
     case measure=>simp[intOf];omega
  ·obtain rfl:i=n:=by omega
   have hdi:¬(i:Int)<(i:Int):=by omega
   have et:r.ats.take i=r.ats:=by rw[HN.out];exact jV
   rw[et]at HRUN HM0
   clear et
   go_wp2_with fail
   go_ret2
   exact⟨HX.out,.inl ⟨km,w.heap.size+1,m0,HRUN.out,rfl,by omega,by have:=HM0.out;have:=HL2.out;omega,HMM.out⟩⟩
