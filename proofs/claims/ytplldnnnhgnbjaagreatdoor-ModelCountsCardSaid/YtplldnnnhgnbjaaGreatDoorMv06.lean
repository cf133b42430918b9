/- packed -/
import Derived.Test.YtplldnnnhgnbjaaGreatDoorMv05
namespace Go.Proofs.YtplldnnnhgnbjaaGreatDoor
open Go.RowKit Go.Maps
structure RlB(r:Rl):Prop where
 z:RlZ r
 al:r.ats.length≤524288
 tl:(aY r.ats).length≤524288
 cl:r.cds.length≤524288
abbrev cdT (c:Cd):Tm:=⟨c.var,0,0,⟨#[]⟩⟩
theorem cW(r:Rl):aj r=bD (aY r.ats++r.cds.map cdT):=by
 unfold aj bD
 rw[zD,List.foldl_map]
set_option maxRecDepth 20000 in
set_option maxHeartbeats 1600000 in
theorem fN{F G:Nat→Prop}{w:World}{sv vc:Value}{r:Rl}(h:Ats F w sv r.ats)(hC:Sl eL G w vc r.cds)(sr:RlB r) :
  Calls Tryz.prog 48 #[.agg #[sv,vc]] w (Ret (fun x w'=>w'.ownsRow w.heap.size 9 1 x (aj r).length ((aj r).map Sv)) w):=by
 rw[cW]
 obtain⟨xs,cds⟩:=r
 simp only at h hC ⊢
 obtain⟨Ac,cc,rfl⟩:=hC.sl
 obtain⟨nc,sw⟩:=sd cds.length
 rw[←sw]at hC ⊢
 have th:nc≤524288:=by rw[sw];exact sr.cl
 have sM:=zN sw;have HC:=zN hC
 clear sw hC
 obtain⟨A,c,rfl,hc,sP⟩:=h.at'
 obtain⟨n,hn⟩:=sd xs.length
 rw[←hn]at hc ⊢
 have hl:n≤524288:=by rw[hn];exact sr.al
 have HN:=zN hn;have sU:=zN sP;have sj:=zN sr
 clear hn sP h sr
 have tf:=@run_makeMap Tryz.prog
 have sL:=zN (aI.made ((w.alloc (.cells #[.slice A n c,.slice Ac nc cc] 46)).alloc (.cells #[.slice none 0 0] 24)))
 have sq:((w.alloc (.cells #[.slice A n c,.slice Ac nc cc] 46)).alloc (.cells #[.slice none 0 0] 24)).heap.size=w.heap.size+1+1:=by simp
 rw[sq]at sL
 have sO:Bk (((w.alloc (.cells #[.slice A n c,.slice Ac nc cc] 46)).alloc (.cells #[.slice none 0 0] 24)).alloc (.map #[] 0)) w.heap.size 46 [.slice A n c,.slice Ac nc cc]∧Bk (((w.alloc (.cells #[.slice A n c,.slice Ac nc cc] 46)).alloc (.cells #[.slice none 0 0] 24)).alloc (.map #[] 0)) (w.heap.size+1) 24 [.slice none 0 0]∧Ext w (((w.alloc (.cells #[.slice A n c,.slice Ac nc cc] 46)).alloc (.cells #[.slice none 0 0] 24)).alloc (.map #[] 0)):=by
  refine⟨((Bk.new w _ [.slice A n c,.slice Ac nc cc]).alloc _).alloc _,?_,(((Ext.refl w).alloc _).alloc _).alloc _⟩
  have h:=Bk.new (w.alloc (.cells #[.slice A n c,.slice Ac nc cc] 46)) 24 [.slice none 0 0]
  rw[show (w.alloc (.cells #[.slice A n c,.slice Ac nc cc] 46)).heap.size=w.heap.size+1 by simp]at h
  exact h.alloc _
 have sy:=zN sO
 clear sq sO
 go_enter Tryz.func48,Tryz.ntmps48
 go_wp2_with (first
  | (refine gA rfl _ _ _ 121 4 rfl Tryz.underlying121 (w.heap.size+1+1) 0 (fun _=>none) rfl sL.out (by simp[maxLen]) ⟨#[]⟩ (.bool true) rfl (by decide) rfl ?_;intro w1 sS su;have kx:Bk w1 w.heap.size 46 [.slice A n c,.slice Ac nc cc]:=Bk.fr sy.out.1 (am su) (fun e=>by injection e with e;omega);have kv:Bk w1 (w.heap.size+1) 24 [.slice none 0 0]:=Bk.fr sy.out.2.1 (am su) (fun e=>by injection e with e;omega);have a0:=kx.c0;have sD:=kx.lt;have sY:=zN sS;have sX:=zN kx;have sW:=zN kv;have sV:=zN (sy.out.2.2.grown su (fun k e=>by injection e with e;omega));clear sS su kx kv))
 have sT:VaI w (w1.alloc (.cells #[.map (some (w.heap.size+1+1))] 121)) (w.heap.size+1+1) w1.heap.size (w.heap.size+1) 1 (.slice none 0 0) [] [.slice A n c,.slice Ac nc cc]:=by
  refine⟨⟨?_,Bk.new w1 _ [.map (some (w.heap.size+1+1))],sW.out.alloc _,World.ownsRow_nil _ _ _ _⟩,sV.out.alloc _,sX.out.alloc _,by simp⟩
  have e:cI (fun _=>none) ⟨#[]⟩ (some (.bool true))=io (bD []):=by
   funext t
   unfold cI io
   by_cases h:t=⟨#[]⟩
   ·rw[if_pos h,if_pos (.inl h)]
   ·rw[if_neg h,if_neg (fun h2=>by rcases h2 with h2|h2;exact h h2;simp[bD]at h2)]
  rw[←e]
  exact sY.out.ext ((Ext.refl w1).alloc _)
 have sB:=zN sT
 obtain⟨gs,sQ⟩:=sd w1.heap.size
 rw[←sQ]at sB ⊢
 clear sT a0 sD tf
 generalize (w1.alloc (.cells #[.map (some (w.heap.size+1+1))] 121))=w2 at *
 clear sQ
 go_loopw [18] (fun q wr=>∃(i m:Nat) (vv:Value),i≤n∧q=.int .i64 (i:Int)∧VaI w wr (w.heap.size+1+1) gs (w.heap.size+1) m vv (aY (xs.take i)) [.slice A n c,.slice Ac nc cc]) (fun q _=>n-(intOf q).toNat)
 case atStart=>exact⟨0,1,.slice none 0 0,jn _,rfl,sB.out⟩
 case round =>
  clear sB
  obtain⟨i,m0,vv,hi,rfl,hI⟩:=hrel
  obtain⟨wo,rfl⟩:∃wo:World,wo=wr:=⟨_,rfl⟩
  have HI:=zN hI
  by_cases hlt:i<n
  ·have i1:(0:Int)≤(i:Int):=by omega
   have i2:(i:Int)<(n:Int):=by omega
   have sp:i<xs.length:=by have:=HN.out;omega
   obtain⟨ad,B,d,rfl,-,c0,c1,c2,hd,sH⟩:=sU.out i sp
   replace c0:=hI.ext.cell c0
   replace c1:=hI.ext.cell c1
   replace c2:=hI.ext.cell c2
   have sI:=lw sp
   obtain⟨a,ha⟩:=sd (xs[i])
   rw[←ha]at c0 c1 c2 hd sH sI
   obtain⟨nt,sF⟩:=sd a.terms.length
   rw[←sF]at c2 hd sI
   have tg:nt≤1048576:=by have:(aY xs).length≤524288:=sj.out.tl;omega
   have HA:=zN ha;have sN:=zN sF;have ta:=zN sH
   clear sF ha sH sI hI
   go_wp2_with fail
   have hx3:Ext wo (wo.alloc (.cells #[.bool a.neg,.string a.rel,.slice B nt d] 49)):=(Ext.refl wo).alloc _
   generalize (wo.alloc (.cells #[.bool a.neg,.string a.rel,.slice B nt d] 49))=w3 at *
   have tc:=zN hx3
   clear hx3 c0 c1 c2
   go_loopw [25] (fun q wr=>∃(j m:Nat) (vv:Value),j≤nt∧q=.int .i64 (j:Int)∧VaI w wr (w.heap.size+1+1) gs (w.heap.size+1) m vv (aY (xs.take i)++a.terms.take j) [.slice (some ad) n c,.slice Ac nc cc]) (fun q _=>nt-(intOf q).toNat)
   case atStart=>exact⟨0,m0,vv,jn _,rfl,by simpa using HI.out.fore tc.out⟩
   case round =>
    obtain⟨j,m,vj,hj,rfl,hJ⟩:=hrel
    have HJ:=zN hJ
    by_cases hjt:j<nt
    ·have j1:(0:Int)≤(j:Int):=by omega
     have j2:(j:Int)<(nt:Int):=by omega
     have sR:j<a.terms.length:=by have:=sN.out;omega
     obtain⟨td,rfl,-,d0,d1,d2,d3⟩:=ta.out.term (i:=j) sR
     replace d0:=hJ.ext.cell d0
     replace d1:=hJ.ext.cell d1
     replace d2:=hJ.ext.cell d2
     replace d3:=hJ.ext.cell d3
     have sG:=sj.out.z.tms _ (jf sp) (a.terms[j]) (by rw[←HA.out];exact jf _)
     obtain⟨x,hx⟩:=sd (a.terms[j])
     rw[←hx]at d0 d1 d2 d3 sG
     have HX:=zN hx
     have sx:=sG.1
     have si:(bD (aY (xs.take i)++a.terms.take j)).length≤1048576∧m≤2097152:=by
      have h0:=cY (aY (xs.take i)++a.terms.take j)
      have h1:=kT (xs:=xs) (i+1)
      rw[cK sp,jm,←HA.out]at h1
      have h2:(aY xs).length≤524288:=sj.out.tl
      have h3:=hJ.cnt
      simp only[jm,jt]at h0 h3
      omega
     have sh:=zN si
     have sJ:w.heap.size≤wr.heap.size:=hJ.ext.size
     clear hx hJ sG si
     go_wp2_with fail
     have hx4:Ext wr (wr.alloc (.cells #[.string x.var,.int .i64 x.kind,.int .i64 x.int,.string x.str] 132)):=(Ext.refl wr).alloc _
     refine(add_any (HJ.out.fore hx4).vb (jr sJ hx4.size) sh.out.2 sh.out.1 sx).mono ?_
     intro e w5 se
     obtain⟨sK,sg⟩:=VaI.step (t:=x) HJ.out (by omega) (by omega) hx4 se
     obtain⟨-,rfl,-⟩:=se
     have sA:=zN sg
     clear sg hx4 d0 d1 d2 d3
     go_wp2_with fail
     go_roundw
     case rel =>
      refine⟨j+1,m+1,sK,by omega,by go_num,?_⟩
      rw[jj sR,←HX.out,←zh]
      exact sA.out
     case measure=>simp[intOf];omega
    ·obtain rfl:j=nt:=by omega
     have te:¬(j:Int)<(j:Int):=by omega
     clear hJ
     go_wp2_with fail
     go_roundw
     case rel =>
      refine⟨i+1,m,vj,by omega,by go_num,?_⟩
      rw[cK sp,←HA.out]
      have h:=HJ.out
      have et:a.terms.take j=a.terms:=by rw[sN.out];exact jT
      rwa [et]at h
     case measure=>simp[intOf];omega
  ·obtain rfl:i=n:=by omega
   have te:¬(i:Int)<(i:Int):=by omega
   have e1:=hI.box.c1
   have et:xs.take i=xs:=by rw[HN.out];exact jT
   rw[et]at HI
   clear hI et
   go_wp2_with fail
   go_loopw [38] (fun q wr=>∃(k m:Nat) (vv:Value),k≤nc∧q=.int .i64 (k:Int)∧VaI w wr (w.heap.size+1+1) gs (w.heap.size+1) m vv (aY xs++(cds.take k).map cdT) [.slice A i c,.slice Ac nc cc]) (fun q _=>nc-(intOf q).toNat)
   case atStart=>exact⟨0,m0,vv,jn _,rfl,by simpa using HI.out⟩
   case round =>
    obtain⟨k,m,vj,hk,rfl,hJ⟩:=hrel
    have HJ:=zN hJ
    by_cases hkn:k<nc
    ·have k1:(0:Int)≤(k:Int):=by omega
     have k2:(k:Int)<(nc:Int):=by omega
     have sC:k<cds.length:=by have:=sM.out;omega
     obtain⟨td,rfl,-,d0,d1,d2,d3,d4⟩:=HC.out.cd sC
     replace d0:=hJ.ext.cell d0
     replace d1:=hJ.ext.cell d1
     replace d2:=hJ.ext.cell d2
     replace d3:=hJ.ext.cell d3
     replace d4:=hJ.ext.cell d4
     have sx:=sj.out.z.var _ (jf sC)
     obtain⟨x,hx⟩:=sd (cds[k])
     rw[←hx]at d0 d1 d2 d3 d4 sx
     have HX:=zN hx
     have si:(bD (aY xs++(cds.take k).map cdT)).length≤1048576∧m≤2097152:=by
      have h0:=cY (aY xs++(cds.take k).map cdT)
      have h2:(aY xs).length≤524288:=sj.out.tl
      have h3:=hJ.cnt
      simp only[jm,jk,jt]at h0 h3
      omega
     have sh:=zN si
     have sJ:w.heap.size≤wr.heap.size:=hJ.ext.size
     clear hx hJ si e1
     go_wp2_with fail
     have hx4:Ext wr (wr.alloc (.cells #[.string x.var,.int .i64 x.op,.int .i64 x.kind,.int .i64 x.int,.string x.str] 53)):=(Ext.refl wr).alloc _
     refine(add_any (HJ.out.fore hx4).vb (jr sJ hx4.size) sh.out.2 sh.out.1 sx).mono ?_
     intro e w5 se
     obtain⟨sK,sg⟩:=VaI.step (t:=cdT x) HJ.out (by omega) (by omega) hx4 se
     obtain⟨-,rfl,-⟩:=se
     have sA:=zN sg
     clear sg hx4 d0 d1 d2 d3 d4
     go_wp2_with fail
     go_roundw
     case rel =>
      refine⟨k+1,m+1,sK,by omega,by go_num,?_⟩
      rw[jj sC,←HX.out,jH,←zh]
      exact sA.out
     case measure=>simp[intOf];omega
    ·obtain rfl:k=nc:=by omega
     have tj:¬(k:Int)<(k:Int):=by omega
     have e2:=hJ.vb.vars.c0
     obtain⟨Av,cv,rfl⟩:=af hJ.vb.row
     obtain⟨mv,sE⟩:=sd ((bD (aY xs++(cds.take k).map cdT)).length)
     rw[←sE]at e2
     have sZ:=zN sE
     clear hJ sE e1
     go_wp2_with fail
     go_ret
     have h:=HJ.out
     have et:cds.take k=cds:=by rw[sM.out];exact jT
     have em:mv=(bD (aY xs++cds.map cdT)).length:=by rw[sZ.out,et]
     rw[et]at h
     have hh:Ret (fun x w'=>w'.ownsRow w.heap.size 9 1 x (bD (aY xs++cds.map cdT)).length ((bD (aY xs++cds.map cdT)).map Sv)) w (.returned (.slice Av mv cv)) wr:=by
      rw[em];exact Ret.mk h.ext h.vb.row
     exact hh
