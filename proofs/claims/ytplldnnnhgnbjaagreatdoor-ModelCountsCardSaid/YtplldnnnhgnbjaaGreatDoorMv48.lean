/- packed -/
import Derived.Test.YtplldnnnhgnbjaaGreatDoorMv47
namespace Go.Proofs.YtplldnnnhgnbjaaGreatDoor
open Go.RowKit Go.Maps
def exM:Dm:=madeD exS exU
theorem lf:aS exM nR=[[vI 1,vI 2],[vI 1,vI 3],[vI 2,vI 3]]:=by kernel_rfl
theorem exM_new:oI exS:=⟨fun x hx=>by
 have h:x=⟨nR,[1,1]⟩:=by simpa [exS] using hx
 subst h
 exact⟨by kernel_rfl,by decide,by decide⟩,by simp[exS]⟩
theorem exM_names:fk exS=[nR]:=by kernel_rfl
theorem exM_check:aZ (cH exM [nR]) exQ=0:=by kernel_rfl
theorem exM_prod:∀r∈exQ.rs,bM exM (bL r)≤1500:=fun r hr=>by
 have h:r=⟨[⟨false,nR,[tV nX,tV nY]⟩,⟨false,nR,[tV nY,tV nZ]⟩],[]⟩:=by simpa [exQ] using hr
 subst h
 have e:bM exM (bL ⟨[⟨false,nR,[tV nX,tV nY]⟩,⟨false,nR,[tV nY,tV nZ]⟩],[]⟩)=9:=by kernel_rfl
 omega
theorem exM_ans(x:List Vl):ansP exM exQ x↔x=[vI 1,vI 3]:=by
 have hx:nX≠(⟨#[]⟩:ByteArray):=by decide
 have hy:nY≠(⟨#[]⟩:ByteArray):=by decide
 have hz:nZ≠(⟨#[]⟩:ByteArray):=by decide
 have h1:∀σ : ByteArray→Vl,qa σ [tV nX,tV nY]=[σ nX,σ nY]:=fun σ=>by simp[qa]
 have h2:∀σ : ByteArray→Vl,qa σ [tV nY,tV nZ]=[σ nY,σ nZ]:=fun σ=>by simp[qa]
 constructor
 ·rintro⟨r,hr,σ,⟨k1,-⟩,rfl⟩
  have h:r=⟨[⟨false,nR,[tV nX,tV nY]⟩,⟨false,nR,[tV nY,tV nZ]⟩],[]⟩:=by simpa [exQ] using hr
  subst h
  have a1:=(k1 ⟨false,nR,[tV nX,tV nY]⟩ (by simp)).2 rfl
  have a2:=(k1 ⟨false,nR,[tV nY,tV nZ]⟩ (by simp)).2 rfl
  simp only[h1,lf]at a1
  simp only[h2,lf]at a2
  show [σ nX,σ nZ]=_
  simp at a1 a2
  rcases a1 with ⟨e1,e2⟩|⟨e1,e2⟩|⟨e1,e2⟩ <;> rcases a2 with ⟨e3,e4⟩|⟨e3,e4⟩|⟨e3,e4⟩ <;> first
   | (rw[e1,e4];done)
   | (exfalso;rw[e2]at e3;revert e3;decide)
 ·rintro rfl
  refine⟨_,jq.2 rfl,fun s=>if s=nX then vI 1 else if s=nY then vI 2 else vI 3,⟨fun a ha=>?_,fun c hc=>by simp at hc⟩,by kernel_rfl⟩
  have se:a=⟨false,nR,[tV nX,tV nY]⟩∨a=⟨false,nR,[tV nY,tV nZ]⟩:=by simpa using ha
  rcases se with rfl|rfl
  ·refine⟨fun _=>rfl,fun _=>?_⟩
   rw[h1,lf]
   decide +kernel
  ·refine⟨fun _=>rfl,fun _=>?_⟩
   rw[h2,lf]
   decide +kernel
theorem exM_one{R:List (List Vl)}(h:iP exM exQ R):R=[[vI 1,vI 3]]:=by
 refine i8 (c:=fun a b=>fy a b (cN exQ.hd exQ.od)) (fun a=>?_) (fun a b d h1 h2=>?_) h.asc (List.pairwise_singleton _ _) (fun x=>?_)
 ·have:=(cQ (cN exQ.hd exQ.od)).self a
  omega
 ·exact(cQ (cN exQ.hd exQ.od)).lt_le h1 (by omega)
 ·rw[h.mem,exM_ans,jq]
theorem exQ_z:QyZ exQ:=by
 refine⟨fun s hs=>?_,by decide,fun r hr=>?_,fun k hk=>?_⟩
 ·have h:s=nX∨s=nZ:=by simpa [exQ] using hs
  rcases h with rfl|rfl <;> decide
 ·have h:r=⟨[⟨false,nR,[tV nX,tV nY]⟩,⟨false,nR,[tV nY,tV nZ]⟩],[]⟩:=by simpa [exQ] using hr
  subst h
  refine⟨fun a ha=>?_,fun a ha t ht=>?_,fun c hc=>by simp at hc,fun c hc=>by simp at hc⟩
  ·have h2:a=⟨false,nR,[tV nX,tV nY]⟩∨a=⟨false,nR,[tV nY,tV nZ]⟩:=by simpa using ha
   rcases h2 with rfl|rfl <;> decide
  ·have h2:a=⟨false,nR,[tV nX,tV nY]⟩∨a=⟨false,nR,[tV nY,tV nZ]⟩:=by simpa using ha
   have h3:t=tV nX∨t=tV nY∨t=tV nZ:=by
    rcases h2 with rfl|rfl
    ·have h4:t=tV nX∨t=tV nY:=by simpa using ht
     exact h4.elim .inl (fun h=>.inr (.inl h))
    ·have h4:t=tV nY∨t=tV nZ:=by simpa using ht
     exact .inr h4
   rcases h3 with rfl|rfl|rfl <;> exact⟨by decide,by decide⟩
 ·have h:k=⟨nZ,true⟩:=by simpa [exQ] using hk
  subst h
  decide
theorem exU_sm:∀u∈exU,(∀v∈u.row,SmV v)∧u.rel.size≤maxLen∧u.row.length≤maxLen∧∀v∈u.row,v.str.size≤maxLen:=fun u hu=>by
 have h:u=⟨false,nR,[vI 1,vI 2]⟩∨u=⟨false,nR,[vI 1,vI 3]⟩∨u=⟨false,nR,[vI 2,vI 3]⟩:=by simpa [exU] using hu
 have k:∀a b:Int,-1099511627776≤a→a≤1099511627776→-1099511627776≤b→b≤1099511627776→(∀v∈[vI a,vI b],SmV v)∧nR.size≤maxLen∧[vI a,vI b].length≤maxLen∧∀v∈[vI a,vI b],v.str.size≤maxLen:=fun a b h1 h2 h3 h4=>by
  have e:∀v∈[vI a,vI b],v=vI a∨v=vI b:=fun v hv=>by simpa using hv
  refine⟨fun v hv=>?_,by decide,by simp[maxLen],fun v hv=>?_⟩
  ·rcases e v hv with rfl|rfl
   ·exact⟨h1,h2⟩
   ·exact⟨h3,h4⟩
  ·rcases e v hv with rfl|rfl <;> exact jn _
 rcases h with rfl|rfl|rfl <;> exact k _ _ (by omega) (by omega) (by omega) (by omega)
set_option maxRecDepth 20000 in
set_option maxHeartbeats 6400000 in
theorem awake_any{w:World}(si:eG w):Calls Tryz.prog 11 #[] w (Ret (fun x _=>x=.bool true) w):=by
 have sp:=zN si
 clear si
 go_enter Tryz.func11,Tryz.ntmps11
 go_wp2_with fail
 refine(qK _).mono ?_
 rintro e w1 ⟨hx,gS,gU,A,B,O,rfl,rS,rU,rQ⟩
 have hx2:=(Ext.refl w1).alloc (.cells #[.slice A 2 2,.int .i64 0,.string ⟨#[]⟩,.slice B 1 1,.slice O 1 1] 28)
 have kq:=Bk.new w1 28 [.slice A 2 2,.int .i64 0,.string ⟨#[]⟩,.slice B 1 1,.slice O 1 1]
 have HX:=zN hx;have HS:=zN rS;have HU:=zN rU;have HQ:=zN rQ
 clear hx rS rU rQ
 go_upto_region 2 with fail
 change Bk (w1.alloc (.cells #[.slice A 2 2,.int .i64 0,.string ⟨#[]⟩,.slice B 1 1,.slice O 1 1] 28)) _ _ _ at kq
 generalize (w1.alloc (.cells #[.slice A 2 2,.int .i64 0,.string ⟨#[]⟩,.slice B 1 1,.slice O 1 1] 28))=w2 at *
 obtain⟨gq,sH⟩:=sd w1.heap.size
 rw[←sH]at kq ⊢
 have sA:=zN hx2;have sL:=zN kq
 have sK:=zN (ld (HS.out.ext hx2) (HU.out.ext hx2) (by omega) (by omega) (fun x hx=>by
  have h:x=⟨nR,[1,1]⟩:=by simpa [exS] using hx
  subst h
  decide) (fun x hx=>by
  have h:x=⟨nR,[1,1]⟩:=by simpa [exS] using hx
  subst h
  decide) (fun u hu=>(exU_sm u hu).1) (fun u hu=>(exU_sm u hu).2))
 clear hx2 kq sH
 go_wp2_with fail
 refine sK.out.mono ?_
 rintro e w3 ⟨he,mb,A3,n3,c3,z,rfl,hz,sI⟩
 obtain rfl:=sI exM_new
 obtain⟨b,nb,M,W,F,rfl,sR,sC,sr,hM,-,-⟩:=hz rfl
 obtain rfl:M=exM:=hM
 rw[exM_names]at sr
 have hx3:=(Ext.refl w3).alloc (.cells #[.map (some b)] 33)
 have kd:=Bk.new w3 33 [.map (some b)]
 have HE:=zN he;have sj:=zN sC;have sw:=zN sr
 clear hz sI he sC sr
 go_upto_region 3 with fail
 change Bk (w3.alloc (.cells #[.map (some b)] 33)) _ _ _ at kd
 generalize (w3.alloc (.cells #[.map (some b)] 33))=w4 at *
 have sg:=HE.out.trans hx3
 have k4:=sL.out.ext sg
 have b0:=k4.c0;have b1:=k4.c1;have b2:=k4.c2;have b3:=k4.c3;have b4:=k4.c4;have d0:=kd.c0
 have sB:=zN (HX.out.trans (sA.out.trans sg))
 have sJ:=zN (mo (q:=exQ) (HQ.out.ext (sA.out.trans sg)) (sj.out.ext hx3) exQ_z (by decide) sw.out.db (by omega) sw.out.nm exM_prod (fun V hV=>sp.out V (sB.out.trans hV)))
 clear k4 kd hx3 sg
 go_wp2_with fail
 refine sJ.out.mono ?_
 rintro e w5 ⟨sD,sh⟩
 rw[exM_check]at sh
 obtain⟨A5,n5,c5,R,rfl,hR,su⟩:∃A n c R,e=.returned (.tuple #[.slice A n c,.int .i64 0])∧iP exM exQ R∧Sl aG (fun k=>w4.heap.size≤k) w5 (.slice A n c) R:=by
  rcases sh with ⟨h,-⟩|⟨-,h,-⟩|⟨-,-,h⟩
  ·exact absurd rfl h
  ·exact absurd rfl h
  ·exact h
 obtain rfl:=exM_one hR
 have sM:=zN su;have sq:=zN (sB.out.trans sD)
 have sQ:n5=1:=su.cap.1
 subst sQ
 clear sh hR su sD b0 b1 b2 b3 b4 d0
 go_wp2_with fail
 refine(fd 1 _).mono ?_
 rintro e w6 ⟨rfl,sE⟩
 have sx:=zN sE
 clear sE
 go_wp2_with fail
 refine(fd 3 _).mono ?_
 rintro e w7 ⟨rfl,sF⟩
 have sy:=zN sF
 clear sF
 have k2:=bH w7 51 74 (au [vI 1,vI 3]) [.slice (some ⟨w7.heap.size,0,none⟩) 2 2]
 have hx8:=((Ext.refl w7).alloc (.cells (au [vI 1,vI 3]).toArray 51)).alloc (.cells #[.slice (some ⟨w7.heap.size,0,none⟩) 2 2] 74)
 have se:=sameall23 (sM.out.ext (sx.out.trans (sy.out.trans hx8))) (Sl.blk (r:=aG) (F:=fun _=>True) (xs:=[[vI 1,vI 3]]) k2.2 (css:=[[.slice (some ⟨w7.heap.size,0,none⟩) 2 2]]) rfl rfl (fun i h h'=>by
  have h1:i<1:=h
  obtain rfl:i=0:=by omega
  exact⟨_,rfl,row2 k2.1⟩) trivial 1 rfl) (by omega) (by omega) (fun x hx=>by rw[jq]at hx;rw[hx];decide) (fun x hx=>by rw[jq]at hx;rw[hx];decide)
 rw[show decide ([[vI 1,vI 3]]=[[vI 1,vI 3]])=true from decide_eq_true rfl]at se
 have sN:=zN se;have sO:=zN hx8
 clear k2 hx8 se
 go_wp2_with fail
 refine sN.out.mono ?_
 rintro e w9 ⟨v,rfl,sG,rfl⟩
 have sP:=zN (sq.out.trans (sx.out.trans (sy.out.trans (sO.out.trans sG))))
 clear sG
 go_wp2_with fail
 go_ret
 exact Ret.mk sP.out rfl
