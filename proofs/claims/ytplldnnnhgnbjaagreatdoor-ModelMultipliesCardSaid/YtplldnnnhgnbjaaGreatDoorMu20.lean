/- packed -/
import Derived.Test.YtplldnnnhgnbjaaGreatDoorMu13
namespace Go.Proofs.YtplldnnnhgnbjaaGreatDoor
open Go.RowKit Go.Maps
def atomV(m:Dm)(a:At):Int:=match m a.rel with|none=>7|some x=>if a.terms.length=x.kinds.length then 0 else 6
def condV(c:Cd):Int:=if c.op<0∨5<c.op then 2 else if valB c.kind c.int c.str=true then 0 else 4
def posV(r:Rl)(s:ByteArray):Bool:=(posT r.ats).any (fun t=>decide (t.var=s))
def validE(m:Dm)(r:Rl):Int:=if firstE (atomV m) r.ats=0 then (if (varsC r).all (posV r)=true then firstE condV r.cds else 22) else firstE (atomV m) r.ats
def anyF(l:List Tm):ByteArray→Option Value:=fun s=>if l.any (fun t=>decide (t.var=s))=true then some (.bool true) else none
theorem anyF_nil:anyF []=fun _=>none:=by funext s;rfl
theorem anyF_add{l:List Tm}{t:Tm}:updV (anyF l) t.var (some (.bool true))=anyF (l++[t]):=by
 funext s
 unfold updV anyF
 rw[List.any_append]
 by_cases h:s=t.var
 ·rw[if_pos h,if_pos (by rw[Bool.or_eq_true];right;simp[h])]
 ·rw[if_neg h]
  have:([t].any fun t=>decide (t.var=s))=false:=by simp;exact fun e=>h e.symm
  rw[this,Bool.or_false]
theorem anyF_get(l:List Tm)(s:ByteArray):(anyF l s).getD (.bool false)=.bool (l.any (fun t=>decide (t.var=s))):=by
 unfold anyF
 rcases l.any (fun t=>decide (t.var=s)) with _|_ <;> rfl
theorem validE_atom{m:Dm}{r:Rl}(h:firstE (atomV m) r.ats≠0):validE m r=firstE (atomV m) r.ats:=if_neg h
theorem validE_unsafe{m:Dm}{r:Rl}(h:firstE (atomV m) r.ats=0){j:Nat}(hj:j<(varsC r).length)(h1:posV r (varsC r)[j]=false):validE m r=22:=by
 unfold validE
 rw[if_pos h,if_neg]
 rw[jz]
 intro h2
 rw[h2 _ (jg hj)]at h1
 cases h1
theorem validE_cond{m:Dm}{r:Rl}(h:firstE (atomV m) r.ats=0)(h1:∀j (hj:j<(varsC r).length),posV r (varsC r)[j]=true):validE m r=firstE condV r.cds:=by
 unfold validE
 rw[if_pos h,if_pos]
 rw[jz]
 intro x hx
 obtain⟨j,hj,rfl⟩:=jv hx
 exact h1 j hj
set_option maxRecDepth 20000 in
set_option maxHeartbeats 3200000 in
theorem mvalid_any{F G H:Nat→Prop}{w:World}{sv vc:Value}{r:Rl}{b nb:Nat}{m:Dm}(hA:Ats F w sv r.ats)(hC:Sl rdCd G w vc r.cds)(hD:DbB H w b nb m)(hbd:RlB r)(hm:∀s x,m s=some x→s.size≤1000∧x.kinds.length≤1000) :
  Calls Tryz.prog 113 #[.agg #[sv,vc],.agg #[.map (some b)]] w (fun e w'=>e=.returned (.int .i64 (validE m r))∧Ext w w'):=by
 have HVARS:=zO (fun (V:World) (hV:Ext w V)=>vars_any (hA.ext hV) (hC.ext hV) hbd)
 have HSCH:=zO (fun (V:World) (hV:Ext w V) (s:ByteArray) (hs:s.size≤maxLen)=>schema_any (s:=s) (hD.ext hV) hs (hm s))
 have hz:=hbd.z
 have hl2:=hbd.tl;have hl1:=hbd.al;have hl3:=hbd.cl
 obtain⟨xs,cds⟩:=r
 simp only at hA hC hz hl2 hl1 hl3
 obtain⟨Ac,cc,rfl⟩:=hC.sl
 obtain⟨nc,hnc⟩:∃n,n=cds.length:=⟨_,rfl⟩
 rw[←hnc]at hC hl3 HVARS ⊢
 have HNC:=zO hnc;have HC:=zO hC
 clear hnc hC
 obtain⟨A,c,rfl,hc,hat⟩:=hA.at'
 obtain⟨n,hn⟩:∃n,n=xs.length:=⟨_,rfl⟩
 rw[←hn]at hc hl1 HVARS ⊢
 have HN:=zO hn;have HAT:=zO hat;have HL2:=zO hl2;have HZ:=zO hz
 obtain⟨E,hE⟩:∃E,E=validE m ⟨xs,cds⟩:=⟨_,rfl⟩
 rw[←hE]
 have HEE:=zO hE
 have hmm:=@run_makeMap Tryz.prog
 clear hn hat hA hl2 hz hE hD hbd hm
 have k2:=two_blk w 46 33 [.slice A n c,.slice Ac nc cc] [.map (some b)]
 have hx:Ext w ((w.alloc (.cells #[.slice A n c,.slice Ac nc cc] 46)).alloc (.cells #[.map (some b)] 33)):=((Ext.refl w).alloc _).alloc _
 go_enter Tryz.func113,Tryz.ntmps113
 go_upto_region 1 with fail
 change Bk ((w.alloc (.cells #[.slice A n c,.slice Ac nc cc] 46)).alloc (.cells #[.map (some b)] 33)) _ _ _∧Bk ((w.alloc (.cells #[.slice A n c,.slice Ac nc cc] 46)).alloc (.cells #[.map (some b)] 33)) _ _ _ at k2
 obtain⟨ka,kb⟩:=k2
 generalize ((w.alloc (.cells #[.slice A n c,.slice Ac nc cc] 46)).alloc (.cells #[.map (some b)] 33))=w1 at *
 have HX1:=zO hx;have HKA:=zO ka;have HKB:=zO kb
 have hlt:=kb.lt
 clear ka kb hx
 go_upto_region 2 with fail
 have hm1:=MapV.made w1
 rw[←anyF_nil]at hm1
 obtain⟨bm,hbm⟩:∃k,k=w1.heap.size:=⟨_,rfl⟩
 rw[←hbm]at hm1 hlt ⊢
 have hx2:Ext w1 (w1.alloc (.map #[] 0)):=(Ext.refl w1).alloc _
 generalize (w1.alloc (.map #[] 0))=w2 at *
 have HM1:=zO hm1;have HX2:=zO (HX1.out.trans hx2);have HKA2:=zO (HKA.out.ext hx2);have HKB2:=zO (HKB.out.ext hx2)
 have ha0:=HKA2.out.cell (i:=0) (by simp)
 simp only[ja]at ha0
 clear hm1 hmm hbm hx2
 have hmb:w.heap.size+1<bm:=hlt
 go_wp2_with fail
 clear ha0
 go_loopw [20] (fun t wr=>∃i k:Nat,i≤n∧k≤(allT (xs.take i)).length∧t=.int .i64 (i:Int)∧Hid (MapV wr bm k (anyF (posT (xs.take i))))∧Hid (Ext w wr)∧Hid (Bk wr w.heap.size 46 [.slice A n c,.slice Ac nc cc])∧Hid (Bk wr (w.heap.size+1) 33 [.map (some b)])∧Hid (∀j (_:j<i) (_:j<xs.length),atomV m xs[j]=0)) (fun t _=>n-(intOf t).toNat)
 case atStart=>exact⟨0,0,jn _,jn _,rfl,HM1,HX2,HKA2,HKB2,zO (fun j h=>absurd h (by omega))⟩
 case round =>
  obtain⟨i,m0,hi,hm0,rfl,HM,HXR,HA3,HB3,HGO⟩:=hrel
  obtain⟨W,rfl⟩:∃W:World,W=wr:=⟨_,rfl⟩
  have HM0:=zO hm0
  clear hm0
  by_cases hlt:i<n
  ·have i1:(0:Int)≤(i:Int):=by omega
   have i2:(i:Int)<(n:Int):=by omega
   have hix:i<xs.length:=by have:=HN.out;omega
   obtain⟨ad,Bt,dt,rfl,-,c0,c1,c2,hd,hcl⟩:=HAT.out i hix
   replace c0:=HXR.out.cell c0;replace c1:=HXR.out.cell c1;replace c2:=HXR.out.cell c2
   have hzx:=HZ.out.tms _ (jg hix)
   have hzr:=HZ.out.rel _ (jg hix)
   have htk:=posT_take hix
   have htl:=terms_le hix
   have hal:=allT_le (xs:=xs) (i+1)
   rw[allT_take hix,jl]at hal
   have HAT2:=zO (allT_take hix)
   have HBAD:Hid (atomV m xs[i]≠0→E=atomV m xs[i]):=zO (fun h=>by
    rw[HEE.out,validE_atom (by rw[firstE_at hix HGO.out h];exact h)]
    exact firstE_at hix HGO.out h)
   have HNEXT:Hid (atomV m xs[i]=0→∀j (_:j<i+1) (_:j<xs.length),atomV m xs[j]=0):=zO (fun h=>take_ok hix HGO.out h)
   have HSC:=zO (fun (V:World) (hV:Ext W V)=>HSCH.out V (HXR.out.trans hV) _ hzr)
   obtain⟨a,ha⟩:∃a,a=xs[i]:=⟨_,rfl⟩
   rw[←ha]at c0 c1 c2 hd hcl hzx htk htl hal HAT2 HBAD HNEXT HSC hzr
   obtain⟨ng,rl,ts⟩:=a
   simp only at c0 c1 c2 hd hcl hzx htk htl hal HAT2 HSC hzr
   obtain⟨nt,hnt⟩:∃k,k=ts.length:=⟨_,rfl⟩
   rw[←hnt]at c2 hd htl hal
   have hnt2:nt≤524288:=by have:=HL2.out;omega
   have HAL:=zO hal
   have HTK:=zO htk;have HNT:=zO hnt;have HCL:=zO hcl;have HZX:=zO hzx
   clear htk hnt hcl hzx ha htl hal
   go_upto_region 5 with fail
   have kx:=Bk.new W 49 [.bool ng,.string rl,.slice Bt nt dt]
   change Bk (W.alloc (.cells #[.bool ng,.string rl,.slice Bt nt dt] 49)) _ _ _ at kx
   have hx1:Ext W (W.alloc (.cells #[.bool ng,.string rl,.slice Bt nt dt] 49)):=(Ext.refl W).alloc _
   generalize (W.alloc (.cells #[.bool ng,.string rl,.slice Bt nt dt] 49))=W1 at *
   have g1:=kx.cell (i:=1) (by simp)
   have b3:=(HB3.out.ext hx1).cell (i:=0) (by simp)
   simp only[ja,je]at g1 b3
   have HKX:=zO kx;have HX1:=zO hx1
   clear kx hx1 c0 c1 c2
   go_wp2_with fail
   refine(HSC.out _ HX1.out).mono ?_
   rintro e w2 ⟨he2,hp⟩
   have HX2:=zO (HX1.out.trans he2);have HKX2:=zO (HKX.out.ext he2)
   clear g1 b3
   rcases hp with ⟨hno,rfl⟩|⟨x,A2,c2,hsome,rfl⟩
   ·have HQ:=zO (HBAD.out (by unfold atomV;simp only[hno];decide))
    have HQ2:Hid (E=7):=zO (by rw[HQ.out];unfold atomV;simp only[hno])
    clear hno he2
    go_wp2_with fail
    go_ret
    exact⟨by rw[HQ2.out];rfl,(HXR.out.trans HX2.out).alloc _⟩
   ·obtain⟨nk,hnk⟩:∃k,k=x.kinds.length:=⟨_,rfl⟩
    rw[←hnk]
    have HAV:Hid (atomV m ⟨ng,rl,ts⟩=if nt=nk then 0 else 6):=zO (by unfold atomV;simp only[hsome,←HNT.out,←hnk])
    clear hsome hnk
    have kz:=Bk.new w2 92 [.string rl,.slice A2 nk c2]
    change Bk (w2.alloc (.cells #[.string rl,.slice A2 nk c2] 92)) _ _ _ at kz
    have z1:=kz.cell (i:=1) (by simp)
    have g2:=(HKX2.out.alloc (.cells #[.string rl,.slice A2 nk c2] 92)).cell (i:=2) (by simp)
    simp only[ja,je]at g2 z1
    by_cases hne:nt=nk
    ·subst hne
     have HN2:=zO (HNEXT.out (by rw[HAV.out,if_pos rfl]))
     have hx3:Ext W (w2.alloc (.cells #[.string rl,.slice A2 nt c2] 92)):=HX2.out.alloc _
     have HX3:=zO hx3
     have HK3:=zO (HKX2.out.alloc (.cells #[.string rl,.slice A2 nt c2] 92))
     have hnb:((nt:Int) != (nt:Int))=false:=by simp
     have HKR3:=zO (((HA3.out.ext HX2.out).alloc (.cells #[.string rl,.slice A2 nt c2] 92)))
     have HKD3:=zO (((HB3.out.ext HX2.out).alloc (.cells #[.string rl,.slice A2 nt c2] 92)))
     have HMM3:=zO ((HM.out.ext HX2.out).ext ((Ext.refl w2).alloc (.cells #[.string rl,.slice A2 nt c2] 92)))
     clear he2 hx3
     go_wp2_with fail
     generalize (w2.alloc (.cells #[.string rl,.slice A2 nt c2] 92))=w3 at *
     clear g2 z1 kz
     go_loopw [43] (fun t wr=>∃j k:Nat,j≤nt∧k≤m0+j∧t=.int .i64 (j:Int)∧Hid (MapV wr bm k (anyF (posT (xs.take i)++(if ng=true then [] else ts.take j))))∧Hid (Ext w wr)∧Hid (Bk wr W.heap.size 49 [.bool ng,.string rl,.slice Bt nt dt])∧Hid (Bk wr w.heap.size 46 [.slice (some ad) n c,.slice Ac nc cc])∧Hid (Bk wr (w.heap.size+1) 33 [.map (some b)])) (fun t _=>nt-(intOf t).toNat)
     case atStart=>exact⟨0,m0,jn _,jq _,rfl,zO (by have h:=HMM3.out;rw[←zL (posT _)]at h;simpa using h),zO (HXR.out.trans HX3.out),HK3,HKR3,HKD3⟩
     case round =>
      obtain⟨j,k,hj,hk,rfl,HMJ,HXJ,HBK,HRJ,HDJ⟩:=hrel
      obtain⟨V,rfl⟩:∃V:World,V=wr:=⟨_,rfl⟩
      have g0:=HBK.out.cell (i:=0) (by simp)
      simp only[ja]at g0
      have hmbx:k<1048576:=by have:=HAL.out;have:=HL2.out;have:=HM0.out;omega
      have hbl:W.heap.size<V.heap.size:=HBK.out.lt
      have hbne:W.heap.size≠bm:=HMJ.out.ne HBK.out
      have hV:w.heap.size≤V.heap.size:=HXJ.out.size
      by_cases hjt:j<nt
      ·have j1:(0:Int)≤(j:Int):=by omega
       have j2:(j:Int)<(nt:Int):=by omega
       have hjl:j<ts.length:=by have:=HNT.out;omega
       obtain⟨adt,rfl,-,d0,d1,d2,d3⟩:=HCL.out.term hjl
       replace d0:=HXJ.out.cell d0;replace d1:=HXJ.out.cell d1;replace d2:=HXJ.out.cell d2;replace d3:=HXJ.out.cell d3
       have hzt:=(HZX.out _ (jg hjl)).1
       have htk:=jj hjl
       obtain⟨x,hx⟩:∃x,x=ts[j]:=⟨_,rfl⟩
       rw[←hx]at d0 d1 d2 d3 hzt htk
       have HTKJ:=zO htk
       have hx4:Ext V (V.alloc (.cells #[.string x.var,.int .i64 x.kind,.int .i64 x.int,.string x.str] 132)):=(Ext.refl V).alloc _
       have kt:=Bk.new V 132 [.string x.var,.int .i64 x.kind,.int .i64 x.int,.string x.str]
       change Bk (V.alloc (.cells #[.string x.var,.int .i64 x.kind,.int .i64 x.int,.string x.str] 132)) _ _ _ at kt
       have HX4:=zO hx4
       clear htk hx
       rcases ng with _|_
       ·have HS:=zO (anyF_add (l:=posT (xs.take i)++ts.take j) (t:=x))
        have HMF:Hid (MapV (V.alloc (.cells #[.string x.var,.int .i64 x.kind,.int .i64 x.int,.string x.str] 132)) bm k (anyF (posT (xs.take i)++ts.take j))):=zO (by have h:=HMJ.out.ext hx4;rw[if_neg (by decide)]at h;exact h)
        have q0:=kt.cell (i:=0) (by simp)
        simp only[ja]at q0
        have q1:=hx4.cell g0
        have hV4:=hx4.size
        clear hx4 kt
        go_upto_region 13 with fail
        generalize (V.alloc (.cells #[.string x.var,.int .i64 x.kind,.int .i64 x.int,.string x.str] 132))=V4 at *
        clear d0 d1 d2 d3
        go_wp2_with (first
         | (refine wpList_update_V rfl _ _ _ 121 4 rfl Tryz.underlying121 bm k (anyF (posT (xs.take i)++ts.take j)) rfl HMF.out (by simp only[maxLen];omega) x.var (.bool true) rfl hzt rfl ?_;intro w5 hm5 hg5;have HM5:=zO hm5;have HG5:=zO hg5;clear hm5 hg5))
        have HF5:=zO (grown_fr HG5.out)
        go_roundw
        case rel=>exact⟨j+1,k+1,by omega,by omega,by go_num,zO (by rw[if_neg (by decide),HTKJ.out,←zq,←HS.out];exact HM5.out),zO ((HXJ.out.trans HX4.out).grown HG5.out (fun k e=>by injection e with e;omega)),zO ((HBK.out.ext HX4.out).fr HF5.out (fun e=>by injection e with e;omega)),zO ((HRJ.out.ext HX4.out).fr HF5.out (fun e=>by injection e with e;omega)),zO ((HDJ.out.ext HX4.out).fr HF5.out (fun e=>by injection e with e;omega))⟩
        case measure=>simp[intOf];omega
       ·have q1:=hx4.cell g0
        clear hx4 kt
        go_upto_region 13 with fail
        generalize (V.alloc (.cells #[.string x.var,.int .i64 x.kind,.int .i64 x.int,.string x.str] 132))=V4 at *
        clear d0 d1 d2 d3 g0
        go_wp2_with fail
        go_roundw
        case rel=>exact⟨j+1,k,by omega,by omega,by go_num,zO (by have h:=HMJ.out.ext HX4.out;rw[if_pos rfl]at h;exact h),zO (HXJ.out.trans HX4.out),zO (HBK.out.ext HX4.out),zO (HRJ.out.ext HX4.out),zO (HDJ.out.ext HX4.out)⟩
        case measure=>simp[intOf];omega
      ·obtain rfl:j=nt:=by omega
       have hdj:¬(j:Int)<(j:Int):=by omega
       have et:ts.take j=ts:=by rw[HNT.out];exact jV
       rw[et]at HMJ
       clear et g0
       go_wp2_with fail
       go_roundw
       case rel=>exact⟨i+1,k,by omega,by rw[HAT2.out,jl,←HNT.out];have:=HM0.out;omega,by go_num,zO (by rw[HTK.out];exact HMJ.out),HXJ,HRJ,HDJ,HN2⟩
       case measure=>simp[intOf];omega
    ·have hnb:((nt:Int) != (nk:Int))=true:=by simp;omega
     have HQ:=zO (HBAD.out (by rw[HAV.out,if_neg hne];decide))
     have HQ2:Hid (E=6):=zO (by rw[HQ.out,HAV.out,if_neg hne])
     clear he2
     go_wp2_with fail
     go_ret
     exact⟨by rw[HQ2.out];rfl,(HXR.out.trans HX2.out).alloc _⟩
  ·obtain rfl:i=n:=by omega
   have hdi:¬(i:Int)<(i:Int):=by omega
   have et:xs.take i=xs:=by rw[HN.out];exact jV
   rw[et]at HM HM0
   clear et
   have HF0:Hid (firstE (atomV m) xs=0):=zO (firstE_all (fun j hj=>HGO.out j (by have:=HN.out;omega) hj))
   have r0:=HA3.out.cell (i:=0) (by simp);have r1:=HA3.out.cell (i:=1) (by simp)
   simp only[ja,je]at r0 r1
   have HC3:=zO (HVARS.out W HXR.out)
   go_wp2_with fail
   refine HC3.out.mono ?_
   rintro e w3 ⟨y,rfl,he3,hown⟩
   obtain⟨Av,cv,rfl⟩:=own_slice hown
   have hsz:=rlB_vars HZ.out
   have hst:=Strs.ofn hown (Ext.refl _)
   have HUN:Hid (∀j (hj:j<(varsC ⟨xs,cds⟩).length),posV ⟨xs,cds⟩ (varsC ⟨xs,cds⟩)[j]=false→E=22):=zO (fun j hj h=>by rw[HEE.out];exact validE_unsafe HF0.out hj h)
   have HFI:Hid ((∀j (hj:j<(varsC ⟨xs,cds⟩).length),posV ⟨xs,cds⟩ (varsC ⟨xs,cds⟩)[j]=true)→E=firstE condV cds):=zO (fun h=>by rw[HEE.out];exact validE_cond HF0.out h)
   obtain⟨L,hL⟩:∃L,L=varsC ⟨xs,cds⟩:=⟨_,rfl⟩
   rw[←hL]at hsz hst HUN HFI ⊢
   obtain⟨nl,hnl⟩:∃nl,nl=L.length:=⟨_,rfl⟩
   have hnlb:nl≤1048576:=by
    have h1:=hown.1
    rw[hnl,hL,varsC_eq]
    have h2:=varsT_length (allT xs++cds.map cdT)
    simp only[jl,jm]at h2
    have:=HL2.out;have:=HNC.out
    simp only
    omega
   rw[←hnl]at hst ⊢
   have HNL:=zO hnl;have HSZ:=zO hsz;have HS8:=zO hst
   have HX3:=zO (HXR.out.trans he3);have HM3:=zO (HM.out.ext he3);have HA5:=zO (HA3.out.ext he3)
   clear hown hst hsz hL hnl he3 r0 r1
   go_wp2_with fail
   go_loopw [58] (fun t wr=>∃j:Nat,j≤nl∧t=.int .i64 (j:Int)∧Hid (∀x (hx:x<L.length),x<j→posV ⟨xs,cds⟩ L[x]=true)∧w3=wr) (fun t _=>nl-(intOf t).toNat)
   case atStart=>exact⟨0,jn _,rfl,zO (fun x hx h=>by omega),by trivial⟩
   case round =>
    obtain⟨j,hj,rfl,HJ,rfl⟩:=hrel
    by_cases hjl:j<nl
    ·have j1:(0:Int)≤(j:Int):=by omega
     have j2:(j:Int)<(nl:Int):=by omega
     have hjL:j<L.length:=by have:=HNL.out;omega
     obtain⟨A9,c9,e9,-,hc9⟩:=HS8.out
     injection e9 with e9 e10 e11
     subst e9
     clear e10 e11
     obtain⟨ad9,rfl,-,q0⟩:=hc9.str hjL
     have hzj:=HSZ.out _ (jg hjL)
     have HU:=zO (HUN.out j hjL)
     have hnx:posV ⟨xs,cds⟩ L[j]=true→∀x (hx:x<L.length),x<j+1→posV ⟨xs,cds⟩ L[x]=true:=fun h x hx hxj=>by
      rcases jB x j with h1|h1
      ·exact HJ.out x hx h1
      ·have:x=j:=by omega
       subst this;exact h
     have HNX:=zO hnx
     have hget:(anyF (posT xs) L[j]).getD (.bool false)=.bool (posV ⟨xs,cds⟩ L[j]):=anyF_get (posT xs) L[j]
     obtain⟨b,hb⟩:∃b,b=posV ⟨xs,cds⟩ L[j]:=⟨_,rfl⟩
     rw[←hb]at HU HNX hget
     obtain⟨x,hx⟩:∃x,x=L[j]:=⟨_,rfl⟩
     rw[←hx]at q0 hzj hget
     have HGET:=zO hget
     clear hb hx hc9 hnx hget
     rcases b with _|_
     ·have HQ:=zO (HU.out rfl)
      go_wp2_with (first|(refine wpList_lookup_V rfl _ _ 121 4 rfl Tryz.underlying121 (.bool false) (zero_bool _) bm m0 _ rfl HM3.out x rfl hzj (.bool false) HGET.out ?_))
      go_ret
      exact⟨by rw[HQ.out];rfl,HX3.out⟩
     ·have HG:=zO (HNX.out rfl)
      go_wp2_with (first|(refine wpList_lookup_V rfl _ _ 121 4 rfl Tryz.underlying121 (.bool false) (zero_bool _) bm m0 _ rfl HM3.out x rfl hzj (.bool true) HGET.out ?_))
      go_roundw
      case rel=>exact⟨j+1,by omega,by go_num,HG,by trivial⟩
      case measure=>simp[intOf];omega
    ·obtain rfl:j=nl:=by omega
     have hdj:¬(j:Int)<(j:Int):=by omega
     have HFC:=zO (HFI.out (fun x hx=>HJ.out x hx (by have:=HNL.out;omega)))
     have r1:=HA5.out.cell (i:=1) (by simp)
     simp only[ja,je]at r1
     obtain⟨W3,rfl⟩:∃W:World,W=w3:=⟨_,rfl⟩
     go_wp2_with fail
     clear r1
     go_loopw [70] (fun t wr=>∃k:Nat,k≤nc∧t=.int .i64 (k:Int)∧Hid (∀j (_:j<k) (_:j<cds.length),condV cds[j]=0)∧Hid (Ext w wr)) (fun t _=>nc-(intOf t).toNat)
     case atStart=>exact⟨0,jn _,rfl,zO (fun x hx h=>by omega),HX3⟩
     case round =>
      obtain⟨k,hk,rfl,HK,HXK⟩:=hrel
      obtain⟨V,rfl⟩:∃V:World,V=wr:=⟨_,rfl⟩
      by_cases hkn:k<nc
      ·have k1:(0:Int)≤(k:Int):=by omega
       have k2:(k:Int)<(nc:Int):=by omega
       have hkl:k<cds.length:=by have:=HNC.out;omega
       obtain⟨ad2,rfl,-,d0,d1,d2,d3,d4⟩:=HC.out.cd hkl
       replace d0:=HXK.out.cell d0;replace d1:=HXK.out.cell d1;replace d2:=HXK.out.cell d2;replace d3:=HXK.out.cell d3;replace d4:=HXK.out.cell d4
       have HZS:=zO (HZ.out.str _ (jg hkl))
       have hgo:=take_ok (f:=condV) hkl HK.out
       have hst:=firstE_at (f:=condV) hkl HK.out
       obtain⟨x,hx⟩:∃x,x=cds[k]:=⟨_,rfl⟩
       rw[←hx]at d0 d1 d2 d3 d4 hgo hst HZS
       obtain⟨xv,op,kd,it,st⟩:=x
       simp only at d0 d1 d2 d3 d4 HZS
       have HG:=zO hgo
       have HS:Hid (∀m:Int,m≠0→condV ⟨xv,op,kd,it,st⟩=m→E=m):=zO (fun m hm h=>by rw[HFC.out,hst (by rw[h];exact hm),h])
       have kt:=Bk.new V 53 [.string xv,.int .i64 op,.int .i64 kd,.int .i64 it,.string st]
       change Bk (V.alloc (.cells #[.string xv,.int .i64 op,.int .i64 kd,.int .i64 it,.string st] 53)) _ _ _ at kt
       have hx4:Ext V (V.alloc (.cells #[.string xv,.int .i64 op,.int .i64 kd,.int .i64 it,.string st] 53)):=(Ext.refl V).alloc _
       have q1:=kt.cell (i:=1) (by simp);have q2:=kt.cell (i:=2) (by simp);have q3:=kt.cell (i:=3) (by simp);have q4:=kt.cell (i:=4) (by simp)
       simp only[ja,je]at q1 q2 q3 q4
       have HX4:=zO (HXK.out.trans hx4)
       clear hgo hst hx kt hx4
       go_upto_region 26 with fail
       generalize (V.alloc (.cells #[.string xv,.int .i64 op,.int .i64 kd,.int .i64 it,.string st] 53))=V4 at *
       clear d0 d1 d2 d3 d4
       by_cases hop : 0≤op∧op≤5
       ·obtain⟨o1,o2⟩:=hop
        have o3:¬op<0:=by omega
        have o4:¬(5:Int)<op:=by omega
        by_cases hb:valB kd it st=true
        ·have HB:=zO hb
         have HG2:=zO (HG.out ((if_neg (show ¬(op<0∨5<op) by omega)).trans (if_pos hb)))
         clear hb
         go_wp2_with fail
         refine(vvalid_any kd it st _ HZS.out).mono ?_
         rintro e w5 ⟨y,rfl,he,rfl⟩
         rw[HB.out]
         have HF:=zO (HX4.out.trans he)
         clear q1 q2 q3 q4 he
         go_wp2_with fail
         go_roundw
         case rel=>exact⟨k+1,by omega,by go_num,HG2,HF⟩
         case measure=>simp[intOf];omega
        ·have HQ:=zO (HS.out 4 (by decide) ((if_neg (show ¬(op<0∨5<op) by omega)).trans (if_neg hb)))
         rw[Bool.not_eq_true]at hb
         have HB:=zO hb
         clear hb
         go_wp2_with fail
         refine(vvalid_any kd it st _ HZS.out).mono ?_
         rintro e w5 ⟨y,rfl,he,rfl⟩
         rw[HB.out]
         have HF:=zO (HX4.out.trans he)
         clear q1 q2 q3 q4 he
         go_wp2_with fail
         go_ret
         exact⟨by rw[HQ.out];rfl,HF.out⟩
       ·have HQ:=zO (HS.out 2 (by decide) (if_pos (show op<0∨5<op by omega)))
        have hop2:op<0∨(¬op<0∧5<op):=by omega
        clear hop
        rcases hop2 with o1|⟨o1,o2⟩
        all_goals
         go_wp2_with fail
         go_ret
         exact⟨by rw[HQ.out];rfl,HX4.out⟩
      ·obtain rfl:k=nc:=by omega
       have hdk:¬(k:Int)<(k:Int):=by omega
       have HQ:=zO (firstE_all (f:=condV) (l:=cds) (fun j hj=>HK.out j (by have:=HNC.out;omega) hj))
       go_wp2_with fail
       go_ret
       exact⟨by rw[HFC.out,HQ.out];rfl,HXK.out⟩
