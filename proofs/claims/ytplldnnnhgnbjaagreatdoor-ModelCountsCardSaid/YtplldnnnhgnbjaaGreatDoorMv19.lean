/- packed -/
import Derived.Test.YtplldnnnhgnbjaaGreatDoorMv14
namespace Go.Proofs.YtplldnnnhgnbjaaGreatDoor
open Go.RowKit Go.Maps
def dB(m:Dm)(a:At):Int:=match m a.rel with|none=>7|some x=>if a.terms.length=x.kinds.length then 0 else 6
def eI(c:Cd):Int:=if c.op<0∨5<c.op then 2 else if dY c.kind c.int c.str=true then 0 else 4
def lS(r:Rl)(s:ByteArray):Bool:=(de r.ats).any (fun t=>decide (t.var=s))
def bC(m:Dm)(r:Rl):Int:=if aA (dB m) r.ats=0 then (if (aj r).all (lS r)=true then aA eI r.cds else 22) else aA (dB m) r.ats
def mY(l:List Tm):ByteArray→Option Value:=fun s=>if l.any (fun t=>decide (t.var=s))=true then some (.bool true) else none
theorem anyF_nil:mY []=fun _=>none:=by funext s;rfl
theorem anyF_add{l:List Tm}{t:Tm}:cI (mY l) t.var (some (.bool true))=mY (l++[t]):=by
 funext s
 unfold cI mY
 rw[List.any_append]
 by_cases h:s=t.var
 ·rw[if_pos h,if_pos (by rw[Bool.or_eq_true];right;simp[h])]
 ·rw[if_neg h]
  have:([t].any fun t=>decide (t.var=s))=false:=by simp;exact fun e=>h e.symm
  rw[this,Bool.or_false]
theorem anyF_get(l:List Tm)(s:ByteArray):(mY l s).getD (.bool false)=.bool (l.any (fun t=>decide (t.var=s))):=by
 unfold mY
 rcases l.any (fun t=>decide (t.var=s)) with _|_ <;> rfl
theorem rY{m:Dm}{r:Rl}(h:aA (dB m) r.ats≠0):bC m r=aA (dB m) r.ats:=if_neg h
theorem oB{m:Dm}{r:Rl}(h:aA (dB m) r.ats=0){j:Nat}(hj:j<(aj r).length)(h1:lS r (aj r)[j]=false):bC m r=22:=by
 unfold bC
 rw[if_pos h,if_neg]
 rw[jA]
 intro h2
 rw[h2 _ (jf hj)]at h1
 cases h1
theorem rZ{m:Dm}{r:Rl}(h:aA (dB m) r.ats=0)(h1:∀j (hj:j<(aj r).length),lS r (aj r)[j]=true):bC m r=aA eI r.cds:=by
 unfold bC
 rw[if_pos h,if_pos]
 rw[jA]
 intro x hx
 obtain⟨j,hj,rfl⟩:=jx hx
 exact h1 j hj
set_option maxRecDepth 20000 in
set_option maxHeartbeats 3200000 in
theorem mvalid_any{F G H:Nat→Prop}{w:World}{sv vc:Value}{r:Rl}{b nb:Nat}{m:Dm}(hA:Ats F w sv r.ats)(hC:Sl eL G w vc r.cds)(hD:DbB H w b nb m)(sE:RlB r)(hm:∀s x,m s=some x→s.size≤1000∧x.kinds.length≤1000) :
  Calls Tryz.prog 113 #[.agg #[sv,vc],.agg #[.map (some b)]] w (fun e w'=>e=.returned (.int .i64 (bC m r))∧Ext w w'):=by
 have sg:=zN (fun (V:World) (hV:Ext w V)=>fN (hA.ext hV) (hC.ext hV) sE)
 have tw:=zN (fun (V:World) (hV:Ext w V) (s:ByteArray) (hs:s.size≤maxLen)=>schema_any (s:=s) (hD.ext hV) hs (hm s))
 have hz:=sE.z
 have tC:=sE.tl;have ua:=sE.al;have ub:=sE.cl
 obtain⟨xs,cds⟩:=r
 simp only at hA hC hz tC ua ub
 obtain⟨Ac,cc,rfl⟩:=hC.sl
 obtain⟨nc,tE⟩:=sd cds.length
 rw[←tE]at hC ub sg ⊢
 have tp:=zN tE;have HC:=zN hC
 clear tE hC
 obtain⟨A,c,rfl,hc,tW⟩:=hA.at'
 obtain⟨n,hn⟩:=sd xs.length
 rw[←hn]at hc ua sg ⊢
 have HN:=zN hn;have ui:=zN tW;have th:=zN tC;have HZ:=zN hz
 obtain⟨E,hE⟩:=sd (bC m ⟨xs,cds⟩)
 rw[←hE]
 have tc:=zN hE
 have uJ:=@run_makeMap Tryz.prog
 clear hn tW hA tC hz hE hD sE hm
 have k2:=bH w 46 33 [.slice A n c,.slice Ac nc cc] [.map (some b)]
 have hx:Ext w ((w.alloc (.cells #[.slice A n c,.slice Ac nc cc] 46)).alloc (.cells #[.map (some b)] 33)):=((Ext.refl w).alloc _).alloc _
 go_enter Tryz.func113,Tryz.ntmps113
 go_upto_region 1 with fail
 change Bk ((w.alloc (.cells #[.slice A n c,.slice Ac nc cc] 46)).alloc (.cells #[.map (some b)] 33)) _ _ _∧Bk ((w.alloc (.cells #[.slice A n c,.slice Ac nc cc] 46)).alloc (.cells #[.map (some b)] 33)) _ _ _ at k2
 obtain⟨ka,kb⟩:=k2
 generalize ((w.alloc (.cells #[.slice A n c,.slice Ac nc cc] 46)).alloc (.cells #[.map (some b)] 33))=w1 at *
 have sO:=zN hx;have uq:=zN ka;have ut:=zN kb
 have tD:=kb.lt
 clear ka kb hx
 go_upto_region 2 with fail
 have sV:=aI.made w1
 rw[←anyF_nil]at sV
 obtain⟨bm,tX⟩:=sd w1.heap.size
 rw[←tX]at sV tD ⊢
 have hx2:Ext w1 (w1.alloc (.map #[] 0)):=(Ext.refl w1).alloc _
 generalize (w1.alloc (.map #[] 0))=w2 at *
 have uw:=zN sV;have sr:=zN (sO.out.trans hx2);have sH:=zN (uq.out.ext hx2);have te:=zN (ut.out.ext hx2)
 have uF:=sH.out.c0
 clear sV uJ tX hx2
 have uU:w.heap.size+1<bm:=tD
 go_wp2_with fail
 clear uF
 go_loopw [20] (fun t wr=>∃i k:Nat,i≤n∧k≤(aY (xs.take i)).length∧t=.int .i64 (i:Int)∧Hid (aI wr bm k (mY (de (xs.take i))))∧Hid (Ext w wr)∧Hid (Bk wr w.heap.size 46 [.slice A n c,.slice Ac nc cc])∧Hid (Bk wr (w.heap.size+1) 33 [.map (some b)])∧Hid (∀j (_:j<i) (_:j<xs.length),dB m xs[j]=0)) (fun t _=>n-(intOf t).toNat)
 case atStart=>exact⟨0,0,jn _,jn _,rfl,uw,sr,sH,te,zN (fun j h=>absurd h (by omega))⟩
 case round =>
  obtain⟨i,m0,hi,uc,rfl,HM,si,sL,tM,sM⟩:=hrel
  obtain⟨W,rfl⟩:∃W:World,W=wr:=⟨_,rfl⟩
  have tj:=zN uc
  clear uc
  by_cases tD:i<n
  ·have i1:(0:Int)≤(i:Int):=by omega
   have i2:(i:Int)<(n:Int):=by omega
   have sh:i<xs.length:=by have:=HN.out;omega
   obtain⟨ad,Bt,dt,rfl,-,c0,c1,c2,hd,sR⟩:=ui.out i sh
   replace c0:=si.out.cell c0;replace c1:=si.out.cell c1;replace c2:=si.out.cell c2
   have sY:=HZ.out.tms _ (jf sh)
   have tL:=HZ.out.rel _ (jf sh)
   have sy:=pk sh
   have sX:=lw sh
   have sD:=kT (xs:=xs) (i+1)
   rw[cK sh,jm]at sD
   have sA:=zN (cK sh)
   have sB:Hid (dB m xs[i]≠0→E=dB m xs[i]):=zN (fun h=>by
    rw[tc.out,rY (by rw[bT sh sM.out h];exact h)]
    exact bT sh sM.out h)
   have sq:Hid (dB m xs[i]=0→∀j (_:j<i+1) (_:j<xs.length),dB m xs[j]=0):=zN (fun h=>dQ sh sM.out h)
   have tu:=zN (fun (V:World) (hV:Ext W V)=>tw.out V (si.out.trans hV) _ tL)
   obtain⟨a,ha⟩:=sd (xs[i])
   rw[←ha]at c0 c1 c2 hd sR sY sy sX sD sA sB sq tu tL
   obtain⟨ng,rl,ts⟩:=a
   simp only at c0 c1 c2 hd sR sY sy sX sD sA tu tL
   obtain⟨nt,tH⟩:=sd ts.length
   rw[←tH]at c2 hd sX sD
   have uM:nt≤524288:=by have:=th.out;omega
   have uh:=zN sD
   have uD:=zN sy;have sN:=zN tH;have um:=zN sR;have uE:=zN sY
   clear sy tH sR sY ha sX sD
   go_upto_region 5 with fail
   have kx:=Bk.new W 49 [.bool ng,.string rl,.slice Bt nt dt]
   change Bk (W.alloc (.cells #[.bool ng,.string rl,.slice Bt nt dt] 49)) _ _ _ at kx
   have hx1:Ext W (W.alloc (.cells #[.bool ng,.string rl,.slice Bt nt dt] 49)):=(Ext.refl W).alloc _
   generalize (W.alloc (.cells #[.bool ng,.string rl,.slice Bt nt dt] 49))=W1 at *
   have g1:=kx.c1
   have b3:=(tM.out.ext hx1).c0
   have uv:=zN kx;have sO:=zN hx1
   clear kx hx1 c0 c1 c2
   go_wp2_with fail
   refine(tu.out _ sO.out).mono ?_
   rintro e w2 ⟨sK,hp⟩
   have sr:=zN (sO.out.trans sK);have sI:=zN (uv.out.ext sK)
   clear g1 b3
   rcases hp with ⟨tG,rfl⟩|⟨x,A2,c2,sw,rfl⟩
   ·have HQ:=zN (sB.out (by unfold dB;simp only[tG];decide))
    have tq:Hid (E=7):=zN (by rw[HQ.out];unfold dB;simp only[tG])
    clear tG sK
    go_wp2_with fail
    go_ret
    exact⟨by rw[tq.out];rfl,(si.out.trans sr.out).alloc _⟩
   ·obtain⟨nk,tF⟩:=sd x.kinds.length
    rw[←tF]
    have sZ:Hid (dB m ⟨ng,rl,ts⟩=if nt=nk then 0 else 6):=zN (by unfold dB;simp only[sw,←sN.out,←tF])
    clear sw tF
    have kz:=Bk.new w2 92 [.string rl,.slice A2 nk c2]
    change Bk (w2.alloc (.cells #[.string rl,.slice A2 nk c2] 92)) _ _ _ at kz
    have z1:=kz.c1
    have g2:=(sI.out.alloc (.cells #[.string rl,.slice A2 nk c2] 92)).c2
    by_cases hne:nt=nk
    ·subst hne
     have uA:=zN (sq.out (by rw[sZ.out,if_pos rfl]))
     have hx3:Ext W (w2.alloc (.cells #[.string rl,.slice A2 nt c2] 92)):=sr.out.alloc _
     have sP:=zN hx3
     have uo:=zN (sI.out.alloc (.cells #[.string rl,.slice A2 nt c2] 92))
     have uK:((nt:Int) != (nt:Int))=false:=by simp
     have tg:=zN (((sL.out.ext sr.out).alloc (.cells #[.string rl,.slice A2 nt c2] 92)))
     have tf:=zN (((tM.out.ext sr.out).alloc (.cells #[.string rl,.slice A2 nt c2] 92)))
     have tn:=zN ((HM.out.ext sr.out).ext ((Ext.refl w2).alloc (.cells #[.string rl,.slice A2 nt c2] 92)))
     clear sK hx3
     go_wp2_with fail
     generalize (w2.alloc (.cells #[.string rl,.slice A2 nt c2] 92))=w3 at *
     clear g2 z1 kz
     go_loopw [43] (fun t wr=>∃j k:Nat,j≤nt∧k≤m0+j∧t=.int .i64 (j:Int)∧Hid (aI wr bm k (mY (de (xs.take i)++(if ng=true then [] else ts.take j))))∧Hid (Ext w wr)∧Hid (Bk wr W.heap.size 49 [.bool ng,.string rl,.slice Bt nt dt])∧Hid (Bk wr w.heap.size 46 [.slice (some ad) n c,.slice Ac nc cc])∧Hid (Bk wr (w.heap.size+1) 33 [.map (some b)])) (fun t _=>nt-(intOf t).toNat)
     case atStart=>exact⟨0,m0,jn _,jo _,rfl,zN (by have h:=tn.out;rw[←zG (de _)]at h;simpa using h),zN (si.out.trans sP.out),uo,tg,tf⟩
     case round =>
      obtain⟨j,k,hj,hk,rfl,sJ,su,sF,tt,ta⟩:=hrel
      obtain⟨V,rfl⟩:∃V:World,V=wr:=⟨_,rfl⟩
      have g0:=sF.out.c0
      have uI:k<1048576:=by have:=uh.out;have:=th.out;have:=tj.out;omega
      have uR:W.heap.size<V.heap.size:=sF.out.lt
      have uG:W.heap.size≠bm:=sJ.out.ne sF.out
      have hV:w.heap.size≤V.heap.size:=su.out.size
      by_cases hjt:j<nt
      ·have j1:(0:Int)≤(j:Int):=by omega
       have j2:(j:Int)<(nt:Int):=by omega
       have sT:j<ts.length:=by have:=sN.out;omega
       obtain⟨uP,rfl,-,d0,d1,d2,d3⟩:=um.out.term sT
       replace d0:=su.out.cell d0;replace d1:=su.out.cell d1;replace d2:=su.out.cell d2;replace d3:=su.out.cell d3
       have uf:=(uE.out _ (jf sT)).1
       have sy:=jj sT
       obtain⟨x,hx⟩:=sd (ts[j])
       rw[←hx]at d0 d1 d2 d3 uf sy
       have tz:=zN sy
       have hx4:Ext V (V.alloc (.cells #[.string x.var,.int .i64 x.kind,.int .i64 x.int,.string x.str] 132)):=(Ext.refl V).alloc _
       have kt:=Bk.new V 132 [.string x.var,.int .i64 x.kind,.int .i64 x.int,.string x.str]
       change Bk (V.alloc (.cells #[.string x.var,.int .i64 x.kind,.int .i64 x.int,.string x.str] 132)) _ _ _ at kt
       have se:=zN hx4
       clear sy hx
       rcases ng with _|_
       ·have HS:=zN (anyF_add (l:=de (xs.take i)++ts.take j) (t:=x))
        have uy:Hid (aI (V.alloc (.cells #[.string x.var,.int .i64 x.kind,.int .i64 x.int,.string x.str] 132)) bm k (mY (de (xs.take i)++ts.take j))):=zN (by have h:=sJ.out.ext hx4;rw[if_neg (by decide)]at h;exact h)
        have q0:=kt.c0
        have q1:=hx4.cell g0
        have uQ:=hx4.size
        clear hx4 kt
        go_upto_region 13 with fail
        generalize (V.alloc (.cells #[.string x.var,.int .i64 x.kind,.int .i64 x.int,.string x.str] 132))=V4 at *
        clear d0 d1 d2 d3
        go_wp2_with (first
         | (refine aN rfl _ _ _ 121 4 rfl Tryz.underlying121 bm k (mY (de (xs.take i)++ts.take j)) rfl uy.out (by simp only[maxLen];omega) x.var (.bool true) rfl uf rfl ?_;intro w5 ud tZ;have ux:=zN ud;have tQ:=zN tZ;clear ud tZ))
        have td:=zN (am tQ.out)
        go_roundw
        case rel=>exact⟨j+1,k+1,by omega,by omega,by go_num,zN (by rw[if_neg (by decide),tz.out,←zh,←HS.out];exact ux.out),zN ((su.out.trans se.out).grown tQ.out (fun k e=>by injection e with e;omega)),zN ((sF.out.ext se.out).fr td.out (fun e=>by injection e with e;omega)),zN ((tt.out.ext se.out).fr td.out (fun e=>by injection e with e;omega)),zN ((ta.out.ext se.out).fr td.out (fun e=>by injection e with e;omega))⟩
        case measure=>simp[intOf];omega
       ·have q1:=hx4.cell g0
        clear hx4 kt
        go_upto_region 13 with fail
        generalize (V.alloc (.cells #[.string x.var,.int .i64 x.kind,.int .i64 x.int,.string x.str] 132))=V4 at *
        clear d0 d1 d2 d3 g0
        go_wp2_with fail
        go_roundw
        case rel=>exact⟨j+1,k,by omega,by omega,by go_num,zN (by have h:=sJ.out.ext se.out;rw[if_pos rfl]at h;exact h),zN (su.out.trans se.out),zN (sF.out.ext se.out),zN (tt.out.ext se.out),zN (ta.out.ext se.out)⟩
        case measure=>simp[intOf];omega
      ·obtain rfl:j=nt:=by omega
       have uH:¬(j:Int)<(j:Int):=by omega
       have et:ts.take j=ts:=by rw[sN.out];exact jT
       rw[et]at sJ
       clear et g0
       go_wp2_with fail
       go_roundw
       case rel=>exact⟨i+1,k,by omega,by rw[sA.out,jm,←sN.out];have:=tj.out;omega,by go_num,zN (by rw[uD.out];exact sJ.out),su,tt,ta,uA⟩
       case measure=>simp[intOf];omega
    ·have uK:((nt:Int) != (nk:Int))=true:=by simp;omega
     have HQ:=zN (sB.out (by rw[sZ.out,if_neg hne];decide))
     have tq:Hid (E=6):=zN (by rw[HQ.out,sZ.out,if_neg hne])
     clear sK
     go_wp2_with fail
     go_ret
     exact⟨by rw[tq.out];rfl,(si.out.trans sr.out).alloc _⟩
  ·obtain rfl:i=n:=by omega
   have uS:¬(i:Int)<(i:Int):=by omega
   have et:xs.take i=xs:=by rw[HN.out];exact jT
   rw[et]at HM tj
   clear et
   have tN:Hid (aA (dB m) xs=0):=zN (ce (fun j hj=>sM.out j (by have:=HN.out;omega) hj))
   have r0:=sL.out.c0;have r1:=sL.out.c1
   have uk:=zN (sg.out W si.out)
   go_wp2_with fail
   refine uk.out.mono ?_
   rintro e w3 ⟨y,rfl,sS,sp⟩
   obtain⟨Av,cv,rfl⟩:=af sp
   have tJ:=lq HZ.out
   have sx:=Strs.ofn sp (Ext.refl _)
   have tU:Hid (∀j (hj:j<(aj ⟨xs,cds⟩).length),lS ⟨xs,cds⟩ (aj ⟨xs,cds⟩)[j]=false→E=22):=zN (fun j hj h=>by rw[tc.out];exact oB tN.out hj h)
   have tP:Hid ((∀j (hj:j<(aj ⟨xs,cds⟩).length),lS ⟨xs,cds⟩ (aj ⟨xs,cds⟩)[j]=true)→E=aA eI cds):=zN (fun h=>by rw[tc.out];exact rZ tN.out h)
   obtain⟨L,hL⟩:=sd (aj ⟨xs,cds⟩)
   rw[←hL]at tJ sx tU tP ⊢
   obtain⟨nl,sW⟩:=sd L.length
   have uL:nl≤1048576:=by
    have h1:=sp.1
    rw[sW,hL,cW]
    have h2:=cY (aY xs++cds.map cdT)
    simp only[jm,jk]at h2
    have:=th.out;have:=tp.out
    simp only
    omega
   rw[←sW]at sx ⊢
   have tS:=zN sW;have uC:=zN tJ;have uB:=zN sx
   have sP:=zN (si.out.trans sS);have tR:=zN (HM.out.ext sS);have ug:=zN (sL.out.ext sS)
   clear sp sx tJ hL sW sS r0 r1
   go_wp2_with fail
   go_loopw [58] (fun t wr=>∃j:Nat,j≤nl∧t=.int .i64 (j:Int)∧Hid (∀x (hx:x<L.length),x<j→lS ⟨xs,cds⟩ L[x]=true)∧w3=wr) (fun t _=>nl-(intOf t).toNat)
   case atStart=>exact⟨0,jn _,rfl,zN (fun x hx h=>by omega),by trivial⟩
   case round =>
    obtain⟨j,hj,rfl,HJ,rfl⟩:=hrel
    by_cases sT:j<nl
    ·have j1:(0:Int)≤(j:Int):=by omega
     have j2:(j:Int)<(nl:Int):=by omega
     have tB:j<L.length:=by have:=tS.out;omega
     obtain⟨A9,c9,e9,-,tY⟩:=uB.out
     injection e9 with e9 e10 e11
     subst e9
     clear e10 e11
     obtain⟨uO,rfl,-,q0⟩:=tY.str tB
     have tK:=uC.out _ (jf tB)
     have HU:=zN (tU.out j tB)
     have ue:lS ⟨xs,cds⟩ L[j]=true→∀x (hx:x<L.length),x<j+1→lS ⟨xs,cds⟩ L[x]=true:=fun h x hx uV=>by
      rcases jz x j with h1|h1
      ·exact HJ.out x hx h1
      ·have:x=j:=by omega
       subst this;exact h
     have tT:=zN ue
     have sj:(mY (de xs) L[j]).getD (.bool false)=.bool (lS ⟨xs,cds⟩ L[j]):=anyF_get (de xs) L[j]
     obtain⟨b,hb⟩:=sd (lS ⟨xs,cds⟩ L[j])
     rw[←hb]at HU tT sj
     obtain⟨x,hx⟩:=sd (L[j])
     rw[←hx]at q0 tK sj
     have sG:=zN sj
     clear hb hx tY ue sj
     rcases b with _|_
     ·have HQ:=zN (HU.out rfl)
      go_wp2_with (first|(refine ao rfl _ _ 121 4 rfl Tryz.underlying121 (.bool false) (bI _) bm m0 _ rfl tR.out x rfl tK (.bool false) sG.out ?_))
      go_ret
      exact⟨by rw[HQ.out];rfl,sP.out⟩
     ·have HG:=zN (tT.out rfl)
      go_wp2_with (first|(refine ao rfl _ _ 121 4 rfl Tryz.underlying121 (.bool false) (bI _) bm m0 _ rfl tR.out x rfl tK (.bool true) sG.out ?_))
      go_roundw
      case rel=>exact⟨j+1,by omega,by go_num,HG,by trivial⟩
      case measure=>simp[intOf];omega
    ·obtain rfl:j=nl:=by omega
     have uH:¬(j:Int)<(j:Int):=by omega
     have tO:=zN (tP.out (fun x hx=>HJ.out x hx (by have:=tS.out;omega)))
     have r1:=ug.out.c1
     obtain⟨W3,rfl⟩:∃W:World,W=w3:=⟨_,rfl⟩
     go_wp2_with fail
     clear r1
     go_loopw [70] (fun t wr=>∃k:Nat,k≤nc∧t=.int .i64 (k:Int)∧Hid (∀j (_:j<k) (_:j<cds.length),eI cds[j]=0)∧Hid (Ext w wr)) (fun t _=>nc-(intOf t).toNat)
     case atStart=>exact⟨0,jn _,rfl,zN (fun x hx h=>by omega),sP⟩
     case round =>
      obtain⟨k,hk,rfl,HK,sC⟩:=hrel
      obtain⟨V,rfl⟩:∃V:World,V=wr:=⟨_,rfl⟩
      by_cases hkn:k<nc
      ·have k1:(0:Int)≤(k:Int):=by omega
       have k2:(k:Int)<(nc:Int):=by omega
       have sU:k<cds.length:=by have:=tp.out;omega
       obtain⟨uN,rfl,-,d0,d1,d2,d3,d4⟩:=HC.out.cd sU
       replace d0:=sC.out.cell d0;replace d1:=sC.out.cell d1;replace d2:=sC.out.cell d2;replace d3:=sC.out.cell d3;replace d4:=sC.out.cell d4
       have sQ:=zN (HZ.out.str _ (jf sU))
       have tA:=dQ (f:=eI) sU HK.out
       have sx:=bT (f:=eI) sU HK.out
       obtain⟨x,hx⟩:=sd (cds[k])
       rw[←hx]at d0 d1 d2 d3 d4 tA sx sQ
       obtain⟨xv,op,kd,it,st⟩:=x
       simp only at d0 d1 d2 d3 d4 sQ
       have HG:=zN tA
       have HS:Hid (∀m:Int,m≠0→eI ⟨xv,op,kd,it,st⟩=m→E=m):=zN (fun m hm h=>by rw[tO.out,sx (by rw[h];exact hm),h])
       have kt:=Bk.new V 53 [.string xv,.int .i64 op,.int .i64 kd,.int .i64 it,.string st]
       change Bk (V.alloc (.cells #[.string xv,.int .i64 op,.int .i64 kd,.int .i64 it,.string st] 53)) _ _ _ at kt
       have hx4:Ext V (V.alloc (.cells #[.string xv,.int .i64 op,.int .i64 kd,.int .i64 it,.string st] 53)):=(Ext.refl V).alloc _
       have q1:=kt.c1;have q2:=kt.c2;have q3:=kt.c3;have q4:=kt.c4
       have se:=zN (sC.out.trans hx4)
       clear tA sx hx kt hx4
       go_upto_region 26 with fail
       generalize (V.alloc (.cells #[.string xv,.int .i64 op,.int .i64 kd,.int .i64 it,.string st] 53))=V4 at *
       clear d0 d1 d2 d3 d4
       by_cases hop : 0≤op∧op≤5
       ·obtain⟨o1,o2⟩:=hop
        have o3:¬op<0:=by omega
        have o4:¬(5:Int)<op:=by omega
        by_cases hb:dY kd it st=true
        ·have HB:=zN hb
         have un:=zN (HG.out ((if_neg (show ¬(op<0∨5<op) by omega)).trans (if_pos hb)))
         clear hb
         go_wp2_with fail
         refine(cG kd it st _ sQ.out).mono ?_
         rintro e w5 ⟨y,rfl,he,rfl⟩
         rw[HB.out]
         have HF:=zN (se.out.trans he)
         clear q1 q2 q3 q4 he
         go_wp2_with fail
         go_roundw
         case rel=>exact⟨k+1,by omega,by go_num,un,HF⟩
         case measure=>simp[intOf];omega
        ·have HQ:=zN (HS.out 4 (by decide) ((if_neg (show ¬(op<0∨5<op) by omega)).trans (if_neg hb)))
         rw[Bool.not_eq_true]at hb
         have HB:=zN hb
         clear hb
         go_wp2_with fail
         refine(cG kd it st _ sQ.out).mono ?_
         rintro e w5 ⟨y,rfl,he,rfl⟩
         rw[HB.out]
         have HF:=zN (se.out.trans he)
         clear q1 q2 q3 q4 he
         go_wp2_with fail
         go_ret
         exact⟨by rw[HQ.out];rfl,HF.out⟩
       ·have HQ:=zN (HS.out 2 (by decide) (if_pos (show op<0∨5<op by omega)))
        have tI:op<0∨(¬op<0∧5<op):=by omega
        clear hop
        rcases tI with o1|⟨o1,o2⟩
        all_goals
         go_wp2_with fail
         go_ret
         exact⟨by rw[HQ.out];rfl,se.out⟩
      ·obtain rfl:k=nc:=by omega
       have uT:¬(k:Int)<(k:Int):=by omega
       have HQ:=zN (ce (f:=eI) (l:=cds) (fun j hj=>HK.out j (by have:=tp.out;omega) hj))
       go_wp2_with fail
       go_ret
       exact⟨by rw[tO.out,HQ.out];rfl,sC.out⟩
