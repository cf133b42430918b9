/- packed -/
import Derived.Test.YtplldnnnhgnbjaaGreatDoorMu04
namespace Go.Proofs.YtplldnnnhgnbjaaGreatDoor
open Go.RowKit Go.Maps
structure RlB(r:Rl):Prop where
 z:RlZ r
 al:r.ats.length≤524288
 tl:(allT r.ats).length≤524288
 cl:r.cds.length≤524288
abbrev cdT (c:Cd):Tm:=⟨c.var,0,0,⟨#[]⟩⟩
theorem varsC_eq(r:Rl):varsC r=varsT (allT r.ats++r.cds.map cdT):=by
 unfold varsC varsT
 rw[zD,List.foldl_map]
set_option maxRecDepth 20000 in
set_option maxHeartbeats 1600000 in
theorem vars_any{F G:Nat→Prop}{w:World}{sv vc:Value}{r:Rl}(h:Ats F w sv r.ats)(hC:Sl rdCd G w vc r.cds)(hbd:RlB r) :
  Calls Tryz.prog 48 #[.agg #[sv,vc]] w (Ret (fun x w'=>w'.ownsRow w.heap.size 9 1 x (varsC r).length ((varsC r).map Sv)) w):=by
 rw[varsC_eq]
 obtain⟨xs,cds⟩:=r
 simp only at h hC ⊢
 obtain⟨Ac,cc,rfl⟩:=hC.sl
 obtain⟨nc,hnc⟩:∃n,n=cds.length:=⟨_,rfl⟩
 rw[←hnc]at hC ⊢
 have hcl:nc≤524288:=by rw[hnc];exact hbd.cl
 have HNC:=zO hnc;have HC:=zO hC
 clear hnc hC
 obtain⟨A,c,rfl,hc,hat⟩:=h.at'
 obtain⟨n,hn⟩:∃n,n=xs.length:=⟨_,rfl⟩
 rw[←hn]at hc ⊢
 have hl:n≤524288:=by rw[hn];exact hbd.al
 have HN:=zO hn;have HAT:=zO hat;have HBD:=zO hbd
 clear hn hat h hbd
 have hmm:=@run_makeMap Tryz.prog
 have HM0:=zO (MapV.made ((w.alloc (.cells #[.slice A n c,.slice Ac nc cc] 46)).alloc (.cells #[.slice none 0 0] 24)))
 have hsz0:((w.alloc (.cells #[.slice A n c,.slice Ac nc cc] 46)).alloc (.cells #[.slice none 0 0] 24)).heap.size=w.heap.size+1+1:=by simp
 rw[hsz0]at HM0
 have hB0:Bk (((w.alloc (.cells #[.slice A n c,.slice Ac nc cc] 46)).alloc (.cells #[.slice none 0 0] 24)).alloc (.map #[] 0)) w.heap.size 46 [.slice A n c,.slice Ac nc cc]∧Bk (((w.alloc (.cells #[.slice A n c,.slice Ac nc cc] 46)).alloc (.cells #[.slice none 0 0] 24)).alloc (.map #[] 0)) (w.heap.size+1) 24 [.slice none 0 0]∧Ext w (((w.alloc (.cells #[.slice A n c,.slice Ac nc cc] 46)).alloc (.cells #[.slice none 0 0] 24)).alloc (.map #[] 0)):=by
  refine⟨((Bk.new w _ [.slice A n c,.slice Ac nc cc]).alloc _).alloc _,?_,(((Ext.refl w).alloc _).alloc _).alloc _⟩
  have h:=Bk.new (w.alloc (.cells #[.slice A n c,.slice Ac nc cc] 46)) 24 [.slice none 0 0]
  rw[show (w.alloc (.cells #[.slice A n c,.slice Ac nc cc] 46)).heap.size=w.heap.size+1 by simp]at h
  exact h.alloc _
 have HB0:=zO hB0
 clear hsz0 hB0
 go_enter Tryz.func48,Tryz.ntmps48
 go_wp2_with (first
  | (refine wpList_insert_V rfl _ _ _ 121 4 rfl Tryz.underlying121 (w.heap.size+1+1) 0 (fun _=>none) rfl HM0.out (by simp[maxLen]) ⟨#[]⟩ (.bool true) rfl (by decide) rfl ?_;intro w1 hm1 hg1;have kx:Bk w1 w.heap.size 46 [.slice A n c,.slice Ac nc cc]:=Bk.fr HB0.out.1 (grown_fr hg1) (fun e=>by injection e with e;omega);have kv:Bk w1 (w.heap.size+1) 24 [.slice none 0 0]:=Bk.fr HB0.out.2.1 (grown_fr hg1) (fun e=>by injection e with e;omega);have a0:=kx.cell (i:=0) (by simp);simp only[ja]at a0;have hlt0:=kx.lt;have HM1:=zO hm1;have HKX:=zO kx;have HKV:=zO kv;have HE1:=zO (HB0.out.2.2.grown hg1 (fun k e=>by injection e with e;omega));clear hm1 hg1 kx kv))
 have hst:VaI w (w1.alloc (.cells #[.map (some (w.heap.size+1+1))] 121)) (w.heap.size+1+1) w1.heap.size (w.heap.size+1) 1 (.slice none 0 0) [] [.slice A n c,.slice Ac nc cc]:=by
  refine⟨⟨?_,Bk.new w1 _ [.map (some (w.heap.size+1+1))],HKV.out.alloc _,World.ownsRow_nil _ _ _ _⟩,HE1.out.alloc _,HKX.out.alloc _,by simp⟩
  have e:updV (fun _=>none) ⟨#[]⟩ (some (.bool true))=seenF (varsT []):=by
   funext t
   unfold updV seenF
   by_cases h:t=⟨#[]⟩
   ·rw[if_pos h,if_pos (.inl h)]
   ·rw[if_neg h,if_neg (fun h2=>by rcases h2 with h2|h2;exact h h2;simp[varsT]at h2)]
  rw[←e]
  exact HM1.out.ext ((Ext.refl w1).alloc _)
 have HST:=zO hst
 obtain⟨gs,hgs⟩:∃gs,gs=w1.heap.size:=⟨_,rfl⟩
 rw[←hgs]at HST ⊢
 clear hst a0 hlt0 hmm
 generalize (w1.alloc (.cells #[.map (some (w.heap.size+1+1))] 121))=w2 at *
 clear hgs
 go_loopw [18] (fun q wr=>∃(i m:Nat) (vv:Value),i≤n∧q=.int .i64 (i:Int)∧VaI w wr (w.heap.size+1+1) gs (w.heap.size+1) m vv (allT (xs.take i)) [.slice A n c,.slice Ac nc cc]) (fun q _=>n-(intOf q).toNat)
 case atStart=>exact⟨0,1,.slice none 0 0,jn _,rfl,HST.out⟩
 case round =>
  clear HST
  obtain⟨i,m0,vv,hi,rfl,hI⟩:=hrel
  obtain⟨wo,rfl⟩:∃wo:World,wo=wr:=⟨_,rfl⟩
  have HI:=zO hI
  by_cases hlt:i<n
  ·have i1:(0:Int)≤(i:Int):=by omega
   have i2:(i:Int)<(n:Int):=by omega
   have hix:i<xs.length:=by have:=HN.out;omega
   obtain⟨ad,B,d,rfl,-,c0,c1,c2,hd,htc⟩:=HAT.out i hix
   replace c0:=hI.ext.cell c0
   replace c1:=hI.ext.cell c1
   replace c2:=hI.ext.cell c2
   have htn:=terms_le hix
   obtain⟨a,ha⟩:∃a,a=xs[i]:=⟨_,rfl⟩
   rw[←ha]at c0 c1 c2 hd htc htn
   obtain⟨nt,hnt⟩:∃nt,nt=a.terms.length:=⟨_,rfl⟩
   rw[←hnt]at c2 hd htn
   have hnt2:nt≤1048576:=by have:(allT xs).length≤524288:=HBD.out.tl;omega
   have HA:=zO ha;have HNT:=zO hnt;have HTC:=zO htc
   clear hnt ha htc htn hI
   go_wp2_with fail
   have hx3:Ext wo (wo.alloc (.cells #[.bool a.neg,.string a.rel,.slice B nt d] 49)):=(Ext.refl wo).alloc _
   generalize (wo.alloc (.cells #[.bool a.neg,.string a.rel,.slice B nt d] 49))=w3 at *
   have HX3:=zO hx3
   clear hx3 c0 c1 c2
   go_loopw [25] (fun q wr=>∃(j m:Nat) (vv:Value),j≤nt∧q=.int .i64 (j:Int)∧VaI w wr (w.heap.size+1+1) gs (w.heap.size+1) m vv (allT (xs.take i)++a.terms.take j) [.slice (some ad) n c,.slice Ac nc cc]) (fun q _=>nt-(intOf q).toNat)
   case atStart=>exact⟨0,m0,vv,jn _,rfl,by simpa using HI.out.fore HX3.out⟩
   case round =>
    obtain⟨j,m,vj,hj,rfl,hJ⟩:=hrel
    have HJ:=zO hJ
    by_cases hjt:j<nt
    ·have j1:(0:Int)≤(j:Int):=by omega
     have j2:(j:Int)<(nt:Int):=by omega
     have hjl:j<a.terms.length:=by have:=HNT.out;omega
     obtain⟨ad2,rfl,-,d0,d1,d2,d3⟩:=HTC.out.term (i:=j) hjl
     replace d0:=hJ.ext.cell d0
     replace d1:=hJ.ext.cell d1
     replace d2:=hJ.ext.cell d2
     replace d3:=hJ.ext.cell d3
     have hsb:=HBD.out.z.tms _ (jg hix) (a.terms[j]) (by rw[←HA.out];exact jg _)
     obtain⟨x,hx⟩:∃x,x=a.terms[j]:=⟨_,rfl⟩
     rw[←hx]at d0 d1 d2 d3 hsb
     have HX:=zO hx
     have hsv:=hsb.1
     have hlen:(varsT (allT (xs.take i)++a.terms.take j)).length≤1048576∧m≤2097152:=by
      have h0:=varsT_length (allT (xs.take i)++a.terms.take j)
      have h1:=allT_le (xs:=xs) (i+1)
      rw[allT_take hix,jl,←HA.out]at h1
      have h2:(allT xs).length≤524288:=HBD.out.tl
      have h3:=hJ.cnt
      simp only[jl,ju]at h0 h3
      omega
     have HLEN:=zO hlen
     have hwb:w.heap.size≤wr.heap.size:=hJ.ext.size
     clear hx hJ hsb hlen
     go_wp2_with fail
     have hx4:Ext wr (wr.alloc (.cells #[.string x.var,.int .i64 x.kind,.int .i64 x.int,.string x.str] 132)):=(Ext.refl wr).alloc _
     refine(add_any (HJ.out.fore hx4).vb (js hwb hx4.size) HLEN.out.2 HLEN.out.1 hsv).mono ?_
     intro e w5 hpost
     obtain⟨vv',hstep⟩:=VaI.step (t:=x) HJ.out (by omega) (by omega) hx4 hpost
     obtain⟨-,rfl,-⟩:=hpost
     have HS5:=zO hstep
     clear hstep hx4 d0 d1 d2 d3
     go_wp2_with fail
     go_roundw
     case rel =>
      refine⟨j+1,m+1,vv',by omega,by go_num,?_⟩
      rw[jj hjl,←HX.out,←zq]
      exact HS5.out
     case measure=>simp[intOf];omega
    ·obtain rfl:j=nt:=by omega
     have hdn:¬(j:Int)<(j:Int):=by omega
     clear hJ
     go_wp2_with fail
     go_roundw
     case rel =>
      refine⟨i+1,m,vj,by omega,by go_num,?_⟩
      rw[allT_take hix,←HA.out]
      have h:=HJ.out
      have et:a.terms.take j=a.terms:=by rw[HNT.out];exact jV
      rwa [et]at h
     case measure=>simp[intOf];omega
  ·obtain rfl:i=n:=by omega
   have hdn:¬(i:Int)<(i:Int):=by omega
   have e1:=hI.box.cell (i:=1) (by simp)
   simp only[ja,je]at e1
   have et:xs.take i=xs:=by rw[HN.out];exact jV
   rw[et]at HI
   clear hI et
   go_wp2_with fail
   go_loopw [38] (fun q wr=>∃(k m:Nat) (vv:Value),k≤nc∧q=.int .i64 (k:Int)∧VaI w wr (w.heap.size+1+1) gs (w.heap.size+1) m vv (allT xs++(cds.take k).map cdT) [.slice A i c,.slice Ac nc cc]) (fun q _=>nc-(intOf q).toNat)
   case atStart=>exact⟨0,m0,vv,jn _,rfl,by simpa using HI.out⟩
   case round =>
    obtain⟨k,m,vj,hk,rfl,hJ⟩:=hrel
    have HJ:=zO hJ
    by_cases hkn:k<nc
    ·have k1:(0:Int)≤(k:Int):=by omega
     have k2:(k:Int)<(nc:Int):=by omega
     have hkl:k<cds.length:=by have:=HNC.out;omega
     obtain⟨ad2,rfl,-,d0,d1,d2,d3,d4⟩:=HC.out.cd hkl
     replace d0:=hJ.ext.cell d0
     replace d1:=hJ.ext.cell d1
     replace d2:=hJ.ext.cell d2
     replace d3:=hJ.ext.cell d3
     replace d4:=hJ.ext.cell d4
     have hsv:=HBD.out.z.var _ (jg hkl)
     obtain⟨x,hx⟩:∃x,x=cds[k]:=⟨_,rfl⟩
     rw[←hx]at d0 d1 d2 d3 d4 hsv
     have HX:=zO hx
     have hlen:(varsT (allT xs++(cds.take k).map cdT)).length≤1048576∧m≤2097152:=by
      have h0:=varsT_length (allT xs++(cds.take k).map cdT)
      have h2:(allT xs).length≤524288:=HBD.out.tl
      have h3:=hJ.cnt
      simp only[jl,jm,ju]at h0 h3
      omega
     have HLEN:=zO hlen
     have hwb:w.heap.size≤wr.heap.size:=hJ.ext.size
     clear hx hJ hlen e1
     go_wp2_with fail
     have hx4:Ext wr (wr.alloc (.cells #[.string x.var,.int .i64 x.op,.int .i64 x.kind,.int .i64 x.int,.string x.str] 53)):=(Ext.refl wr).alloc _
     refine(add_any (HJ.out.fore hx4).vb (js hwb hx4.size) HLEN.out.2 HLEN.out.1 hsv).mono ?_
     intro e w5 hpost
     obtain⟨vv',hstep⟩:=VaI.step (t:=cdT x) HJ.out (by omega) (by omega) hx4 hpost
     obtain⟨-,rfl,-⟩:=hpost
     have HS5:=zO hstep
     clear hstep hx4 d0 d1 d2 d3 d4
     go_wp2_with fail
     go_roundw
     case rel =>
      refine⟨k+1,m+1,vv',by omega,by go_num,?_⟩
      rw[jj hkl,←HX.out,jI,←zq]
      exact HS5.out
     case measure=>simp[intOf];omega
    ·obtain rfl:k=nc:=by omega
     have hdk:¬(k:Int)<(k:Int):=by omega
     have e2:=hJ.vb.vars.cell (i:=0) (by simp)
     simp only[ja,je]at e2
     obtain⟨Av,cv,rfl⟩:=own_slice hJ.vb.row
     obtain⟨mv,hmv⟩:∃mv,mv=(varsT (allT xs++(cds.take k).map cdT)).length:=⟨_,rfl⟩
     rw[←hmv]at e2
     have HMV:=zO hmv
     clear hJ hmv e1
     go_wp2_with fail
     go_ret
     have h:=HJ.out
     have et:cds.take k=cds:=by rw[HNC.out];exact jV
     have em:mv=(varsT (allT xs++cds.map cdT)).length:=by rw[HMV.out,et]
     rw[et]at h
     have hh:Ret (fun x w'=>w'.ownsRow w.heap.size 9 1 x (varsT (allT xs++cds.map cdT)).length ((varsT (allT xs++cds.map cdT)).map Sv)) w (.returned (.slice Av mv cv)) wr:=by
      rw[em];exact Ret.mk h.ext h.vb.row
     exact hh
