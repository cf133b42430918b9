/- packed -/
import Derived.Test.YtplldnnnhgnbjaaGreatDoorMv01
import Derived.Test.YtplldnnnhgnbjaaGreatDoorMv28
import Derived.Laws.Rows
import Derived.Test.YtplldnnnhgnbjaaGreatDoorMv15
import Derived.Test.YtplldnnnhgnbjaaGreatDoorMv18
import Derived.Test.YtplldnnnhgnbjaaGreatDoorMv20
import Derived.Shelf.SlGeneric
import Derived.Shelf.SlIter.Nil
import Derived.Shelf.SortM.Plain
import Derived.Shelf.SortM.SortNone
import Derived.Ground.GgzProg
import Derived.Ground.SlgmProg
import Derived.Test.YtplldnnnhgnbjaaGreatDoorProg
import Derived.Test.YtplldnnnhgnbjaaGreatDoorMv14
set_option maxRecDepth 20000
set_option maxHeartbeats 1600000
namespace Go.Proofs.YtplldnnnhgnbjaaGreatDoor
open Go.RowKit Go.Maps
def n32(n:Nat):List Value:=[.int .u32 (n:Int),.int .u32 0]
theorem of_one{n:Nat}(h1 : 1≤n)(h2:n≤1048576)(w:World) :
  Calls Tryz.prog 29 #[.int .u64 (n:Int)] w (fun e w'=>e=.returned (.slice (some ⟨w.heap.size,0,none⟩) 1 1)∧Bk w' w.heap.size 165 (n32 n)∧Ext w w'):=by
 have hb:=Bk.new w 165 (n32 n)
 have hx:=(Ext.refl w).alloc (.cells (n32 n).toArray 165)
 have ht:N1.tlen [n,0] 2=1:=by
  show (if [n,0].getD 1 0=0 then (if [n,0].getD 0 0=0 then 0 else 1) else 2)=1
  simp
  omega
 have HT:=zN (N1.trim_parts (some ⟨w.heap.size,0,none⟩) 2 2 [n,0] (w.alloc (.cells (n32 n).toArray 165)) (by omega) (by omega) (fun i hi=>⟨_,rfl,by
  rw[cJ]
  rcases(show i=0∨i=1 by omega) with rfl|rfl
  ·exact hb.cell (i:=0) (by simp[n32])
  ·exact hb.cell (i:=1) (by simp[n32])⟩))
 have se:=zN ht
 have HB:=zN hb;have HX:=zN hx
 have m1:(n:Int) % 4294967296=(n:Int):=by omega
 have m2:(n:Int) / 4294967296=0:=by omega
 clear hb hx ht
 go_enter Tryz.func29,Tryz.ntmps29
 go_wp2_with fail
 refine HT.out.mono ?_
 rintro e w' ⟨rfl,rfl⟩
 rw[se.out]
 go_wp2_with fail
 go_ret
 exact⟨rfl,HB.out,HX.out⟩
def grC(u:Value)(gn:Nat):List Value:=[u,.slice (some ⟨gn,0,none⟩) 1 1,.bool false,.slice none 0 0,.slice none 0 0,.int .i64 0,.int .i64 0,.string ⟨#[]⟩]
theorem group_cnt{w:World}{g n:Nat}{A:Option Addr}{m c:Nat}(hb:Bk w g 140 (qd (.slice A m c) n))(h1 : 1≤n)(h2:n≤1048576) :
  Calls Tryz.prog 62 #[.pointer (some ⟨g,0,none⟩),.int .i64 1] w (fun e w'=>∃gn,e=.returned (.agg (grC (.slice A m c) gn).toArray)∧Bk w' gn 165 (n32 n)∧w.heap.size≤gn∧Ext w w'):=by
 have HB:=zN hb
 have HO:=zN (fun W=>of_one h1 h2 W)
 have c0:=hb.cell (i:=0) (by simp[qd]);have c1:=hb.cell (i:=1) (by simp[qd])
 change _=some (Value.slice A m c) at c0
 change _=some (Value.int .u64 (n:Int)) at c1
 clear hb
 go_enter Tryz.func62,Tryz.ntmps62
 go_upto_region 1 with fail
 have hx1:=(Ext.refl w).alloc (.cells #[.slice none 0 0,.slice none 0 0,.bool false,.slice none 0 0,.slice none 0 0,.int .i64 0,.int .i64 0,.string ⟨#[]⟩] 80)
 have kr:=Bk.new w 80 [.slice none 0 0,.slice none 0 0,.bool false,.slice none 0 0,.slice none 0 0,.int .i64 0,.int .i64 0,.string ⟨#[]⟩]
 change Bk (w.alloc (.cells #[.slice none 0 0,.slice none 0 0,.bool false,.slice none 0 0,.slice none 0 0,.int .i64 0,.int .i64 0,.string ⟨#[]⟩] 80)) _ _ _ at kr
 generalize (w.alloc (.cells #[.slice none 0 0,.slice none 0 0,.bool false,.slice none 0 0,.slice none 0 0,.int .i64 0,.int .i64 0,.string ⟨#[]⟩] 80))=w1 at *
 obtain⟨gr,sA⟩:=sd w.heap.size
 rw[←sA]at kr ⊢
 replace c0:=hx1.cell c0;replace c1:=hx1.cell c1
 have hx2:=(Ext.refl w1).alloc (.cells #[.slice A m c,.slice none 0 0,.bool false,.slice none 0 0,.slice none 0 0,.int .i64 0,.int .i64 0,.string ⟨#[]⟩] 80)
 have kt:=Bk.new w1 80 [.slice A m c,.slice none 0 0,.bool false,.slice none 0 0,.slice none 0 0,.int .i64 0,.int .i64 0,.string ⟨#[]⟩]
 go_upto_region 2 with fail
 change Bk (w1.alloc (.cells #[.slice A m c,.slice none 0 0,.bool false,.slice none 0 0,.slice none 0 0,.int .i64 0,.int .i64 0,.string ⟨#[]⟩] 80)) _ _ _ at kt
 generalize (w1.alloc (.cells #[.slice A m c,.slice none 0 0,.bool false,.slice none 0 0,.slice none 0 0,.int .i64 0,.int .i64 0,.string ⟨#[]⟩] 80))=w2 at *
 obtain⟨gt,sB⟩:=sd w1.heap.size
 rw[←sB]at kt ⊢
 replace c1:=hx2.cell c1
 have sI:=zN (hx1.trans hx2)
 have sG:=zN (kr.ext hx2);have sy:=zN kt
 have sL:=hx1.size;have sx:=hx2.size
 have sj:Hid (w.heap.size≤gr∧gr<gt∧gt<w2.heap.size):=zN ⟨by omega,by have:=kr.lt;omega,kt.lt⟩
 have sH:=zN (HO.out w2)
 clear c0 kr kt hx1 hx2 sA sB sL sx
 go_wp2_with fail
 refine sH.out.mono ?_
 rintro e w3 ⟨rfl,su,hx3⟩
 obtain⟨gn,sw⟩:=sd w2.heap.size
 rw[←sw]at su ⊢
 have sh:=sy.out.ext hx3
 have t0:=sh.c0;have t1:=sh.c1;have t2:=sh.c2;have t3:=sh.c3;have t4:=sh.c4;have t5:=sh.c5;have t6:=sh.c6;have t7:=sh.c7;have f1:=sh.free 1
 have sD:=zN su;have sr:=zN hx3;have sq:=zN sw
 clear c1 su hx3 sw sh
 go_upto_region 11 with fail
 have sK:=sj.out
 have si:=(sy.out.ext sr.out).set 1 (.slice (some ⟨gn,0,none⟩) 1 1)
 have sp:Fr (fun k=>k=gt) w3 (w3.setCell ⟨gt,1,none⟩ (.slice (some ⟨gn,0,none⟩) 1 1)):=(Fr.refl (fun k=>k=gt) w3).setCell (p:=⟨gt,1,none⟩) (.inl rfl) _
 have se:=(sG.out.ext sr.out).fr sp (by omega)
 have sC:=sD.out.fr sp (by have:=sq.out;omega)
 have hx4:=sp.new (sI.out.trans sr.out) (fun k hk=>by omega)
 simp only[ji,jh]at si
 clear t0 t1 t2 t3 t4 t5 t6 t7 f1 sp
 generalize (w3.setCell ⟨gt,1,none⟩ (.slice (some ⟨gn,0,none⟩) 1 1))=w4 at *
 have t0:=si.c0;have t1:=si.c1;have t2:=si.c2;have t3:=si.c3;have t4:=si.c4;have t5:=si.c5;have t6:=si.c6;have t7:=si.c7
 have r0:=se.c0;have r1:=se.c1;have r2:=se.c2;have r3:=se.c3;have r4:=se.c4;have r5:=se.c5;have r6:=se.c6;have r7:=se.c7
 have f0:=se.free 0;have f1:=se.free 1;have f2:=se.free 2;have f3:=se.free 3;have f4:=se.free 4;have f5:=se.free 5;have f6:=se.free 6;have f7:=se.free 7
 have sg:=((((((((se.set 0 (.slice A m c)).set 1 (.slice (some ⟨gn,0,none⟩) 1 1)).set 2 (.bool false)).set 3 (.slice none 0 0)).set 4 (.slice none 0 0)).set 5 (.int .i64 0)).set 6 (.int .i64 0)).set 7 (.string ⟨#[]⟩))
 simp only[ji,jh]at sg
 have s0:=sg.c0;have s1:=sg.c1;have s2:=sg.c2;have s3:=sg.c3;have s4:=sg.c4;have s5:=sg.c5;have s6:=sg.c6;have s7:=sg.c7
 have sF:=zN sC;have sJ:=zN hx4;have sE:=zN sg
 clear si se sg sC hx4 sK s0 s1 s2 s3 s4 s5 s6 s7
 go_wp2_with fail
 refine bodyPost_ret (results_cell_row rfl _ _ gr 80 (grC (.slice A m c) gn).toArray (0,0) _ rfl sE.out Tryz.underlying80 rfl (by kernel_rfl)) rfl ⟨gn,rfl,?_,?_,?_⟩
 ·exact sF.out.fr (((((((((Fr.refl (fun k=>k=gr) w4).setCell (p:=⟨gr,0,none⟩) (.inl rfl) _).setCell (p:=⟨gr,1,none⟩) (.inl rfl) _).setCell (p:=⟨gr,2,none⟩) (.inl rfl) _).setCell (p:=⟨gr,3,none⟩) (.inl rfl) _).setCell (p:=⟨gr,4,none⟩) (.inl rfl) _).setCell (p:=⟨gr,5,none⟩) (.inl rfl) _).setCell (p:=⟨gr,6,none⟩) (.inl rfl) _).setCell (p:=⟨gr,7,none⟩) (.inl rfl) _) (by have:=sj.out;have:=sq.out;omega)
 ·have:=sj.out;have:=sq.out;omega
 ·exact Fr.new sJ.out (((((((((Fr.refl (fun k=>k=gr) w4).setCell (p:=⟨gr,0,none⟩) (.inl rfl) _).setCell (p:=⟨gr,1,none⟩) (.inl rfl) _).setCell (p:=⟨gr,2,none⟩) (.inl rfl) _).setCell (p:=⟨gr,3,none⟩) (.inl rfl) _).setCell (p:=⟨gr,4,none⟩) (.inl rfl) _).setCell (p:=⟨gr,5,none⟩) (.inl rfl) _).setCell (p:=⟨gr,6,none⟩) (.inl rfl) _).setCell (p:=⟨gr,7,none⟩) (.inl rfl) _) (fun k hk=>by have:=sj.out;omega)
end Go.Proofs.YtplldnnnhgnbjaaGreatDoor
namespace Go.Proofs.YtplldnnnhgnbjaaGreatDoor
open Go.RowKit Go.Maps
def qD(a b:List Vl)(c:Int)(ds:Bool):Int:=if ds=true then -(cT (a.getD c.toNat zv) (b.getD c.toNat zv)) else cT (a.getD c.toNat zv) (b.getD c.toNat zv)
def fy(a b:List Vl):List (Int×Bool)→Int
 | []=>0
 | x::l=>if qD a b x.1 x.2=0 then fy a b l else qD a b x.1 x.2
theorem nB(x y:Int):Lib.compareInt x y = -1∨Lib.compareInt x y=0∨Lib.compareInt x y=1:=by
 unfold Lib.compareInt
 split
 ·exact .inl rfl
 ·split
  ·exact .inr (.inr rfl)
  ·exact .inr (.inl rfl)
theorem nA:∀x y:List UInt8,Lib.compareBytes x y = -1∨Lib.compareBytes x y=0∨Lib.compareBytes x y=1
 | [],[]=>.inr (.inl rfl)
 | [],_::_=>.inl rfl
 | _::_,[]=>.inr (.inr rfl)
 | a::la,b::lb=>by
  unfold Lib.compareBytes
  split
  ·exact .inl rfl
  ·split
   ·exact .inr (.inr rfl)
   ·exact nA la lb
theorem cmpS_range(x y:ByteArray):rT x y = -1∨rT x y=0∨rT x y=1:=nA _ _
theorem cmpV_range(a b:Vl):cT a b = -1∨cT a b=0∨cT a b=1:=by
 unfold cT
 split
 ·exact nB _ _
 ·split
  ·exact nB _ _
  ·exact cmpS_range _ _
theorem cmpq_any{F G H K:Nat→Prop}{w:World}{A B C D:Option Addr}{n m p c1 c2 c3 c4 g h:Nat}{xs ys:List Vl}{cols:List Int}{ks:List Ky}(hA:Sl aM F w (.slice A n c1) xs)(hB:Sl aM G w (.slice B m c2) ys)(hC:Ins H w (.slice C p c3) cols)(hK:Sl iO K w (.slice D p c4) ks)(g1:Bk w g 63 [.slice C p c3])(g2:Bk w h 26 [.slice D p c4])(hc:∀x∈cols,0≤x∧x<(n:Int)∧x<(m:Int))(hp:p≤1000000) :
    Calls Tryz.prog 126 #[.slice A n c1,.slice B m c2,.pointer (some ⟨g,0,none⟩),.pointer (some ⟨h,0,none⟩)] w (fun e w'=>e=.returned (.int .i64 (fy xs ys (cols.zip (ks.map Ky.desc))))∧Gr w w'):=by
  have sJ:=zN hA.cap.1;have sK:=zN hB.cap.1;have sw:=zN hK.cap.1
  obtain⟨C',c',e,-,sA⟩:=hC
  injection e with e1 e2 e3
  subst e1
  have HA:=zN hA;have HB:=zN hB;have sG:=zN sA;have sH:=zN e2;have HK:=zN hK;have HC:=zN hc
  obtain⟨z,hz⟩:=sd (fy xs ys (cols.zip (ks.map Ky.desc)))
  rw[←hz]
  have HZ:Hid (z=fy xs ys ((cols.zip (ks.map Ky.desc)).drop 0)):=zN (by simpa using hz)
  have sy:Hid ((cols.zip (ks.map Ky.desc)).length=p):=zN (by rw[zu,jk,←sw.out,←e2];omega)
  have r1:=g1.c0;have r2:=g2.c0
  clear hA hB sA e2 e3 hK hc hz
  go_enter Tryz.func126,Tryz.ntmps126
  go_wp2_with fail
  go_loopw [12] (fun t wr=>∃i:Nat,i≤p∧t=.int .i64 (i:Int)∧Hid (z=fy xs ys ((cols.zip (ks.map Ky.desc)).drop i))∧Gr w wr) (fun t _=>p-(intOf t).toNat)
  case atStart=>exact⟨0,jn _,rfl,HZ,Gr.refl _⟩
  case round =>
    obtain⟨i,hi,rfl,HE,se⟩:=hrel
    obtain⟨W,rfl⟩:∃W:World,W=wr:=⟨_,rfl⟩
    have HG:=zN se
    by_cases hlt:i<p
    · have i1:(0:Int)≤(i:Int):=by omega
      have i2:(i:Int)<(p:Int):=by omega
      have sj:i<cols.length:=by have:=sH.out;omega
      have sC:i<ks.length:=by have:=sw.out;omega
      obtain⟨ac,rfl,-,c0⟩:=sG.out.int sj
      obtain⟨ak,rfl,-,-,k1⟩:=HK.out.ky sC
      have si:(cols.zip (ks.map Ky.desc)).drop i=(cols[i],ks[i].desc)::(cols.zip (ks.map Ky.desc)).drop (i+1):=by
        rw[jV (by rw[sy.out];exact hlt)]
        simp
      obtain⟨q0,q1,q2⟩:=HC.out _ (jf sj)
      obtain⟨x,hx⟩:=sd (cols[i])
      obtain⟨ds,sB⟩:=sd (ks[i].desc)
      rw[←hx]at c0 si q0 q1 q2
      rw[←sB]at k1 si
      obtain⟨u,rfl⟩:∃u:Nat,x=(u:Int):=⟨x.toNat,by omega⟩
      have sp:u<xs.length:=by have:=sJ.out;omega
      have sq:u<ys.length:=by have:=sK.out;omega
      obtain⟨ad,rfl,-,a0,a1,a2⟩:=HA.out.vl sp
      obtain⟨bd,rfl,-,b0,b1,b2⟩:=HB.out.vl sq
      replace a0:=se.cell a0;replace a1:=se.cell a1;replace a2:=se.cell a2;replace b0:=se.cell b0;replace b1:=se.cell b1;replace b2:=se.cell b2
      replace c0:=se.cell c0;replace k1:=se.cell k1
      have r3:=se.cell r2
      have sI:=zN (show z=(if qD xs ys (u:Int) ds=0 then fy xs ys ((cols.zip (ks.map Ky.desc)).drop (i+1)) else qD xs ys (u:Int) ds) from by rw[HE.out,si];rfl)
      have sh:Hid (qD xs ys (u:Int) ds=if ds=true then -(cT xs[u] ys[u]) else cT xs[u] ys[u]):=zN (by
        unfold qD
        rw[jL,jI,jI,jl sp,jl sq]
        rfl)
      have HV:=zN (fun (V:World)=>me xs[u] ys[u] V)
      obtain⟨xv,sE⟩:=sd (xs[u])
      obtain⟨yv,sF⟩:=sd (ys[u])
      rw[←sE]at a0 a1 a2 sh HV
      rw[←sF]at b0 b1 b2 sh HV
      obtain⟨xk,xn,sr⟩:=xv
      obtain⟨yk,yn,su⟩:=yv
      simp only at a0 a1 a2 b0 b1 b2 HV
      clear sE sF si hx sB se sp sq sj sC
      go_upto_region 4 with fail
      go_region_held3 (fun V=>Gr W V∧V.cell? (ad.add (u*3))=some (.int .i64 xk)∧V.cell? ⟨(ad.add (u*3)).block,(ad.add (u*3)).off+1,none⟩=some (.int .i64 xn)∧V.cell? ⟨(ad.add (u*3)).block,(ad.add (u*3)).off+2,none⟩=some (.string sr)∧V.cell? (bd.add (u*3))=some (.int .i64 yk)∧V.cell? ⟨(bd.add (u*3)).block,(bd.add (u*3)).off+1,none⟩=some (.int .i64 yn)∧V.cell? ⟨(bd.add (u*3)).block,(bd.add (u*3)).off+2,none⟩=some (.string su))
        ((refine(fun he=>⟨he,Gr.cell he a0,Gr.cell he a1,Gr.cell he a2,Gr.cell he b0,Gr.cell he b1,Gr.cell he b2⟩) ?_;repeat (first|exact Gr.refl _|exact(Gr.refl _).drew|refine Gr.drew ?_|refine Gr.trans ?_ (by assumption))))
        (first
          | (go_at_call 127;(with_reducible refine(HV.out _).mono ?_);rintro e wi ⟨rfl,sL⟩))
      have sg:=And.left (b:=_∧_) (by assumption)
      obtain⟨X,rfl⟩:∃X:World,X=wi:=⟨_,rfl⟩
      have HX:=zN (HG.out.trans sg)
      replace r3:=sg.cell r3;replace k1:=sg.cell k1
      have sD:=cmpV_range ⟨xk,xn,sr⟩ ⟨yk,yn,su⟩
      obtain⟨q,hq⟩:=sd (cT ⟨xk,xn,sr⟩ ⟨yk,yn,su⟩)
      rw[←hq]at sh sD ⊢
      clear sg sL a0 a1 a2 b0 b1 b2 hq c0
      rcases sD with rfl|rfl|rfl <;> cases ds
      all_goals
        have HS:=sI.out
        rw[sh.out]at HS
        simp only[if_true,if_false,reduceIte,Bool.false_eq_true]at HS
        have sx:=zN HS
        clear HS
        go_wp2_with fail
        first
          | (go_roundw
             case rel=>exact⟨i+1,by omega,by go_num,zN (by simpa using sx.out),HX.out⟩
             case measure=>simp[intOf];omega)
          | (go_ret
             exact⟨by rw[sx.out];rfl,HX.out⟩)
    · obtain rfl:i=p:=by omega
      have sM:¬(i:Int)<(i:Int):=by omega
      have HQ:Hid (z=0):=zN (by rw[HE.out,zb (by rw[sy.out];exact jo _)];rfl)
      go_wp2_with fail
      go_ret
      exact⟨by rw[HQ.out];rfl,HG.out⟩
end Go.Proofs.YtplldnnnhgnbjaaGreatDoor
namespace Go.Proofs.YtplldnnnhgnbjaaGreatDoor
open Go.RowKit Go.Maps
def qa(σ : ByteArray→Vl)(ts:List Tm):List Vl:=ts.map (fun t=>if t.var=⟨#[]⟩ then t.vl else σ t.var)
def satF(M:Dm)(r:Rl)(σ : ByteArray→Vl):Prop :=
 (∀a∈r.ats,qa σ a.terms∈aS M a.rel↔a.neg=false)∧∀c∈r.cds,c.var≠⟨#[]⟩∧d9 (σ c.var) c=true
theorem rowF_of{vars:List ByteArray}{y:List Vl}{σ : ByteArray→Vl}{ts:List Tm}(h:∀t∈ts,t.var≠⟨#[]⟩→σ t.var=y.getD (posN vars t.var) zv):cP vars y ts=qa σ ts:=by
 unfold cP qa
 refine zH (fun t ht=>?_)
 by_cases h0:t.var=⟨#[]⟩
 ·rw[if_pos h0,if_pos h0]
 ·rw[if_neg h0,if_neg h0,h t ht h0]
theorem satF_of{M:Dm}{vars:List ByteArray}{r:Rl}{y:List Vl}{σ : ByteArray→Vl}(hs:eF vars r)(h:∀s∈vars,σ s=y.getD (posN vars s) zv):eO M vars r y↔satF M r σ:=by
 unfold eO satF
 have h1:∀a∈r.ats,cP vars y a.terms=qa σ a.terms:=fun a ha=>rowF_of (fun t ht h0=>h _ (hs.at' a ha t ht h0))
 constructor
 ·rintro⟨k1,k2⟩
  refine⟨fun a ha=>?_,fun c hc=>⟨(k2 c hc).1,by rw[h _ (hs.cd c hc (k2 c hc).1)];exact(k2 c hc).2⟩⟩
  have:=k1 a ha
  rw[h1 a ha]at this
  rw[←fA,this]
  cases a.neg <;> simp
 ·rintro⟨k1,k2⟩
  refine⟨fun a ha=>?_,fun c hc=>⟨(k2 c hc).1,by rw[←h _ (hs.cd c hc (k2 c hc).1)];exact(k2 c hc).2⟩⟩
  have:=k1 a ha
  rw[←fA]at this
  rw[h1 a ha]
  cases hn:a.neg
  ·exact this.2 hn
  ·rcases hh:da (aS M a.rel) (qa σ a.terms) with _|_
   ·rfl
   ·rw[this.1 hh]at hn;cases hn
def asgN(vars:List ByteArray)(y:List Vl)(s:ByteArray):Vl:=y.getD (posN vars s) zv
theorem satM_F{M:Dm}{vars:List ByteArray}{r:Rl}{y:List Vl}(hs:eF vars r):eO M vars r y↔satF M r (asgN vars y):=satF_of hs (fun _ _=>rfl)
theorem asg_map{vars:List ByteArray}(hn:vars.Nodup){σ : ByteArray→Vl}:∀s∈vars,σ s=(vars.map σ).getD (posN vars s) zv:=fun s hs=>by
 rw[jI,List.getElem?_map,jl (bR hs),lT hs]
 rfl
theorem fC{l:List ByteArray}{s:ByteArray}(hn:l.Nodup)(h:s∈l):bW l s=(posN l s:Int):=by
 have h1:=lT h
 refine li (bR h) h1 (fun j hj se e=>?_)
 have:=lQ hn hj (bR h) (e.trans h1.symm)
 omega
theorem ry{vars head:List ByteArray}(hn:vars.Nodup)(hh:∀s∈head,s∈vars)(y:List Vl):be (aC vars head) y=head.map (asgN vars y):=by
 unfold be aC
 rw[List.map_map]
 refine zH (fun s hs=>?_)
 simp only[Function.comp]
 rw[fC hn (hh s hs),jL]
 rfl
theorem oY{M:Dm}{vars head:List ByteArray}{r:Rl}(hs:eF vars r)(hh:∀s∈head,s∈vars)(x:List Vl) :
  (∃y:List Vl,y.length=vars.length∧eO M vars r y∧x=be (aC vars head) y)↔∃σ,satF M r σ∧x=head.map σ:=by
 constructor
 ·rintro⟨y,-,h1,rfl⟩
  exact⟨asgN vars y,(satM_F hs).1 h1,ry hs.nd hh y⟩
 ·rintro⟨σ,h1,rfl⟩
  refine⟨vars.map σ,by simp,(satF_of hs (asg_map hs.nd)).2 h1,?_⟩
  rw[ry hs.nd hh]
  exact zH (fun s hx=>asg_map hs.nd s (hh s hx))
def ansP(M:Dm)(q:Qy)(x:List Vl):Prop:=∃r∈q.rs,∃σ,satF M r σ∧x=q.hd.map σ
theorem i8{α : Type}{c : α→α→Int}(se:∀a,¬c a a<0)(sg:∀a b d,c a b<0→c b d<0→c a d<0):∀{l m:List α},l.Pairwise (fun a b=>c a b<0)→m.Pairwise (fun a b=>c a b<0)→(∀x,x∈l↔x∈m)→l=m
 | [],[],_,_,_=>rfl
 | [],b::m,_,_,h=>absurd ((h b).2 (by simp)) (by simp)
 | a::l,[],_,_,h=>absurd ((h a).1 (by simp)) (by simp)
 | a::l,b::m,hl,hm,h=>by
  rw[zL]at hl hm
  have sh:a=b:=by
   rcases jB.1 ((h a).1 (by simp)) with e|e1
   ·exact e
   ·rcases jB.1 ((h b).2 (by simp)) with e|e2
    ·exact e.symm
    ·exact absurd (sg _ _ _ (hl.1 b e2) (hm.1 a e1)) (se a)
  subst sh
  have ht:l=m:=i8 se sg hl.2 hm.2 (fun x=>by
   constructor
   ·intro hx
    rcases jB.1 ((h x).1 (js _ hx)) with rfl|h2
    ·exact absurd (hl.1 x hx) (se x)
    ·exact h2
   ·intro hx
    rcases jB.1 ((h x).2 (js _ hx)) with rfl|h2
    ·exact absurd (hm.1 x hx) (se x)
    ·exact h2)
  rw[ht]
end Go.Proofs.YtplldnnnhgnbjaaGreatDoor
namespace Go.Proofs.YtplldnnnhgnbjaaGreatDoor
open Go.RowKit Go.Maps
section
variable {σ α : Type} {f : σ→α→Except Int σ}
theorem lW{a : α}{l:List α}{s : σ}:dz f (a::l) s=match f s a with|.ok s'=>dz f l s'|.error e=>.error e:=rfl
theorem lX{R : σ→σ→Prop}(hr:∀s,R s s)(ht:∀s t u,R s t→R t u→R s u):∀{l:List α} {s s' : σ},(∀a∈l,∀t t',f t a=.ok t'→R t t')→dz f l s=.ok s'→R s s'∧∀a∈l,∃t t',f t a=.ok t'∧R s t∧R t' s'
 | [],s,s',_,h=>by
  injection h with h
  subst h
  exact⟨hr _,fun a ha=>by simp at ha⟩
 | a::l,s,s',hs,h=>by
  rw[lW]at h
  rcases hf:f s a with e|t
  ·rw[hf]at h
   cases h
  ·rw[hf]at h
   have h1:=hs a (by simp) s t hf
   have h2:=lX hr ht (fun b hb=>hs b (js _ hb)) h
   refine⟨ht _ _ _ h1 h2.1,fun b hb=>?_⟩
   rcases jB.1 hb with rfl|hb
   ·exact⟨s,t,hf,hr _,h2.1⟩
   ·obtain⟨u,u',k1,k2,k3⟩:=h2.2 b hb
    exact⟨u,u',k1,ht _ _ _ h1 k2,k3⟩
theorem nU{I : σ→Prop}:∀{l:List α} {s : σ},(∀a∈l,∀t,I t→∃t',f t a=.ok t'∧I t')→I s→∃s',dz f l s=.ok s'∧I s'
 | [],s,_,h=>⟨s,rfl,h⟩
 | a::l,s,hs,h=>by
  obtain⟨t,h1,h2⟩:=hs a (by simp) s h
  obtain⟨u,h3,h4⟩:=nU (l:=l) (fun b hb=>hs b (js _ hb)) h2
  exact⟨u,by rw[lW,h1];exact h3,h4⟩
end
def KmLe(m m':Km):Prop:=∀v k,m v=some k→m' v=some k
def mT(κ : ByteArray→Int)(m:Km):Prop:=∀v k,m v=some k→κ v=k
def TyT(κ : ByteArray→Int)(p:Tm×Int):Prop:=(if p.1.var=⟨#[]⟩ then p.1.kind else κ p.1.var)=p.2
def TyA(ss:List Sc)(κ : ByteArray→Int)(a:At):Prop:=∃s,cm ss a.rel=some s∧a.terms.length=s.kinds.length∧∀p∈a.terms.zip s.kinds,TyT κ p
theorem lO{m:Km}{p:Tm×Int}(h0:p.1.var≠⟨#[]⟩):cV m p=match m p.1.var with|some k=>if k=p.2 then .ok m else .error 5|none=>.ok (oA m p.1.var p.2):=if_neg h0
theorem lN{m:Km}{p:Tm×Int}(h0:p.1.var=⟨#[]⟩):cV m p=if p.1.kind=p.2 then .ok m else .error 5:=if_pos h0
theorem rh{m m':Km}{p:Tm×Int}(h:cV m p=.ok m'):KmLe m m'∧(if p.1.var=⟨#[]⟩ then p.1.kind=p.2 else m' p.1.var=some p.2):=by
 by_cases h0:p.1.var=⟨#[]⟩
 ·rw[lN h0]at h
  by_cases h1:p.1.kind=p.2
  ·rw[if_pos h1]at h
   injection h with h
   subst h
   exact⟨fun _ _ h=>h,by rw[if_pos h0];exact h1⟩
  ·rw[if_neg h1]at h
   cases h
 ·rw[lO h0]at h
  rcases hm:m p.1.var with _|k
  ·rw[hm]at h
   injection h with h
   subst h
   refine⟨fun v k hv=>?_,?_⟩
   ·unfold oA
    by_cases e:v=p.1.var
    ·subst e
     rw[hm]at hv
     cases hv
    ·rw[if_neg e]
     exact hv
   ·rw[if_neg h0]
    unfold oA
    rw[if_pos rfl]
  ·rw[hm]at h
   change (if k=p.2 then Except.ok m else Except.error 5)=.ok m' at h
   by_cases h1:k=p.2
   ·rw[if_pos h1]at h
    injection h with h
    subst h
    exact⟨fun _ _ h=>h,by rw[if_neg h0,hm,h1]⟩
   ·rw[if_neg h1]at h
    cases h
theorem kindT_fit{κ : ByteArray→Int}{m:Km}{p:Tm×Int}(hm:mT κ m)(hp:TyT κ p):∃m',cV m p=.ok m'∧mT κ m':=by
 unfold TyT at hp
 by_cases h0:p.1.var=⟨#[]⟩
 ·rw[if_pos h0]at hp
  exact⟨m,by rw[lN h0,if_pos hp],hm⟩
 ·rw[if_neg h0]at hp
  rw[lO h0]
  rcases hk:m p.1.var with _|k
  ·refine⟨_,rfl,fun v k hv=>?_⟩
   unfold oA at hv
   by_cases e:v=p.1.var
   ·rw[if_pos e]at hv
    injection hv with hv
    rw[e,hp,hv]
   ·rw[if_neg e]at hv
    exact hm v k hv
  ·exact⟨m,if_pos (by rw[←hm _ _ hk,hp]),hm⟩
theorem rg{ss:List Sc}{m m':Km}{a:At}(h:dG ss m a=.ok m'):KmLe m m'∧∃s,cm ss a.rel=some s∧a.terms.length=s.kinds.length∧∀p∈a.terms.zip s.kinds,if p.1.var=⟨#[]⟩ then p.1.kind=p.2 else m' p.1.var=some p.2:=by
 unfold dG at h
 rcases hs:cm ss a.rel with _|s
 ·rw[hs]at h
  cases h
 ·rw[hs]at h
  change (if a.terms.length=s.kinds.length then dz cV (a.terms.zip s.kinds) m else .error 6)=.ok m' at h
  by_cases h1:a.terms.length=s.kinds.length
  ·rw[if_pos h1]at h
   have h2:=lX (R:=KmLe) (fun _ _ _ h=>h) (fun _ _ _ h k v x e=>k v x (h v x e)) (fun p _ t t' ht=>(rh ht).1) h
   refine⟨h2.1,s,by rfl,h1,fun p hp=>?_⟩
   obtain⟨t,t',k1,-,k3⟩:=h2.2 p hp
   have k4:=(rh k1).2
   by_cases h0:p.1.var=⟨#[]⟩
   ·rw[if_pos h0]at k4 ⊢
    exact k4
   ·rw[if_neg h0]at k4 ⊢
    exact k3 _ _ k4
  ·rw[if_neg h1]at h
   cases h
theorem kindA_fit{ss:List Sc}{κ : ByteArray→Int}{m:Km}{a:At}(hm:mT κ m)(ha:TyA ss κ a):∃m',dG ss m a=.ok m'∧mT κ m':=by
 obtain⟨s,h1,h2,h3⟩:=ha
 obtain⟨m',k1,k2⟩:=nU (f:=cV) (I:=mT κ) (l:=a.terms.zip s.kinds) (s:=m) (fun p hp t ht=>kindT_fit ht (h3 p hp)) hm
 exact⟨m',by unfold dG;rw[h1];show (if a.terms.length=s.kinds.length then dz cV (a.terms.zip s.kinds) m else .error 6)=_;rw[if_pos h2,k1],k2⟩
def occB(r:Rl)(v:ByteArray):Prop:=∃a∈r.ats,∃t∈a.terms,t.var=v∧v≠⟨#[]⟩
theorem zip_mem{α β : Type}{x : α}:∀{l:List α} {m:List β},l.length=m.length→x∈l→∃y,(x,y)∈l.zip m
 | a::l,b::m,h,hx=>by
  rcases jB.1 hx with rfl|hx
  ·exact⟨b,by simp⟩
  ·obtain⟨y,hy⟩:=zip_mem (l:=l) (m:=m) (by simpa using h) hx
   exact⟨y,by rw[List.zip_cons_cons];exact js _ hy⟩
 | [],_,_,hx=>by simp at hx
 | _::_,[],h,_=>by simp at h
theorem qT{ss:List Sc}{r:Rl}{m:Km}(h:aU ss r=.ok m):∀a∈r.ats,∃s,cm ss a.rel=some s∧a.terms.length=s.kinds.length∧∀p∈a.terms.zip s.kinds,if p.1.var=⟨#[]⟩ then p.1.kind=p.2 else m p.1.var=some p.2:=fun a ha=>by
 unfold aU at h
 have h2:=lX (R:=KmLe) (fun _ _ _ h=>h) (fun _ _ _ h k v x e=>k v x (h v x e)) (fun p _ t t' ht=>(rg ht).1) h
 obtain⟨t,t',k1,-,k3⟩:=h2.2 a ha
 obtain⟨-,s,k4,k5,k6⟩:=rg k1
 refine⟨s,k4,k5,fun p hp=>?_⟩
 have k7:=k6 p hp
 by_cases h0:p.1.var=⟨#[]⟩
 ·rw[if_pos h0]at k7 ⊢
  exact k7
 ·rw[if_neg h0]at k7 ⊢
  exact k3 _ _ k7
theorem infer_ty{ss:List Sc}{r:Rl}{m:Km}(h:aU ss r=.ok m):∀a∈r.ats,TyA ss (fun v=>(m v).getD 0) a:=fun a ha=>by
 obtain⟨s,h1,h2,h3⟩:=qT h a ha
 refine⟨s,h1,h2,fun p hp=>?_⟩
 have k7:=h3 p hp
 unfold TyT
 by_cases h0:p.1.var=⟨#[]⟩
 ·rw[if_pos h0]at k7 ⊢
  exact k7
 ·rw[if_neg h0]at k7 ⊢
  simp[k7]
theorem infer_fit{ss:List Sc}{r:Rl}{κ : ByteArray→Int}(h:∀a∈r.ats,TyA ss κ a):∃m,aU ss r=.ok m∧mT κ m∧∀v,occB r v→m v=some (κ v):=by
 obtain⟨m,h1,h2⟩:=nU (f:=dG ss) (I:=mT κ) (l:=r.ats) (s:=fun _=>none) (fun a ha t ht=>kindA_fit ht (h a ha)) (fun v k hv=>by cases hv)
 refine⟨m,h1,h2,?_⟩
 rintro v ⟨a,ha,t,ht,rfl,h0⟩
 obtain⟨s,k1,k2,k3⟩:=qT (r:=r) h1 a ha
 obtain⟨k,hk⟩:=zip_mem k2 ht
 have k4:=k3 _ hk
 rw[if_neg h0]at k4
 rw[k4,h2 _ _ k4]
def TyR(ss:List Sc)(κ : ByteArray→Int)(r:Rl):Prop:=(∀a∈r.ats,TyA ss κ a)∧(∀c∈r.cds,c.kind=κ c.var)∧∀a∈r.ats,a.neg=true→∃b∈r.ats,b.neg=false∧pS a b=true
structure pD(nd:List ByteArray)(r:Rl):Prop where
 ne:r.ats≠[]
 la:r.ats.length≤8
 lc:r.cds.length≤8
 at':∀a∈r.ats,dA a=0
 cd:∀c∈r.cds,d6 c=0
 vs:(aj r).length≤8
 bd:∀v,v∈nd∨v∈aj r→fS r v=true
theorem iH{nd:List ByteArray}{r:Rl}:cn nd r=0↔pD nd r:=by
 constructor
 ·intro h
  unfold cn at h
  by_cases h1:bQ r=0
  ·rw[if_pos h1]at h
   by_cases h2:(aj r).length≤8
   ·rw[if_pos h2]at h
    by_cases h3:(nd++aj r).all (fS r)=true
    ·have h4:=h1
     unfold bQ at h4
     by_cases h5:r.ats=[]
     ·rw[if_pos h5]at h4
      cases h4
     ·rw[if_neg h5]at h4
      by_cases h6:r.ats.length≤8∧r.cds.length≤8
      ·rw[if_pos h6]at h4
       by_cases h7:aA dA r.ats=0
       ·rw[if_pos h7]at h4
        exact⟨h5,h6.1,h6.2,aF.1 h7,aF.1 h4,h2,fun v hv=>jA.1 h3 v (ju.2 hv)⟩
       ·rw[if_neg h7]at h4
        exact absurd h4 h7
      ·rw[if_neg h6]at h4
       cases h4
    ·rw[if_neg h3]at h
     cases h
   ·rw[if_neg h2]at h
    cases h
  ·rw[if_neg h1]at h
   exact absurd h h1
 ·intro h
  have h1:bQ r=0:=by
   unfold bQ
   rw[if_neg h.ne,if_pos ⟨h.la,h.lc⟩,if_pos (aF.2 h.at')]
   exact aF.2 h.cd
  unfold cn
  rw[if_pos h1,if_pos h.vs,if_pos]
  exact jA.2 (fun v hv=>h.bd v (ju.1 hv))
structure AstOk(q:Qy):Prop where
 ne:q.rs≠[]
 l3:q.rs.length≤3∧(q.rs.length≤1∨q.ag=0)
 hd:dr q.hd=0
 ag:gD q.ag q.av=0
 rs:∀r∈q.rs,pD (dI q.hd q.av) r
 od:dp q.hd q.od=0
theorem m7{q:Qy}:eU q=0↔AstOk q:=by
 constructor
 ·intro h
  unfold eU at h
  by_cases h1:q.rs=[]
  ·rw[if_pos h1]at h
   cases h
  ·rw[if_neg h1]at h
   by_cases h2:q.rs.length≤3∧(q.rs.length≤1∨q.ag=0)
   ·rw[if_pos h2]at h
    by_cases h3:dr q.hd=0
    ·rw[if_pos h3]at h
     by_cases h4:gD q.ag q.av=0
     ·rw[if_pos h4]at h
      by_cases h5:aA (cn (dI q.hd q.av)) q.rs=0
      ·rw[if_pos h5]at h
       exact⟨h1,h2,h3,h4,fun r hr=>iH.1 (aF.1 h5 r hr),h⟩
      ·rw[if_neg h5]at h
       exact absurd h h5
     ·rw[if_neg h4]at h
      exact absurd h h4
    ·rw[if_neg h3]at h
     exact absurd h h3
   ·rw[if_neg h2]at h
    cases h
 ·intro h
  unfold eU
  rw[if_neg h.ne,if_pos h.l3,if_pos h.hd,if_pos h.ag,if_pos (aF.2 (fun r hr=>iH.2 (h.rs r hr)))]
  exact h.od
theorem iy{r:Rl}{v:ByteArray}(h:fS r v=true):occB r v:=by
 unfold fS at h
 rw[Bool.and_eq_true,decide_eq_true_eq,jM]at h
 obtain⟨h0,t,ht,e⟩:=h
 rw[decide_eq_true_eq]at e
 unfold de at ht
 obtain⟨a,ha,ht⟩:=List.mem_flatMap.1 ht
 by_cases hn:a.neg=true
 ·rw[if_pos hn]at ht
  simp at ht
 ·rw[if_neg hn]at ht
  exact⟨a,ha,t,ht,e,h0⟩
def ChkOk(ss:List Sc)(q:Qy):Prop:=AstOk q∧∃K:ByteArray→Int,∀r∈q.rs,∃κ,TyR ss κ r∧(∀v∈q.hd,κ v=K v)∧(q.ag=2→κ q.av=1)
theorem pe{xs:List At}{a:At}:p7 xs a=0↔(a.neg=true→∃b∈xs,b.neg=false∧pS a b=true):=by
 unfold p7
 by_cases hn:a.neg=true
 ·rw[if_pos hn]
  unfold fY
  by_cases h1:(xs.findIdx? (fun b=>!b.neg && pS a b)).isSome=true
  ·rw[if_pos h1]
   rw[List.findIdx?_isSome,jM]at h1
   obtain⟨b,hb,h2⟩:=h1
   rw[Bool.and_eq_true,Bool.not_eq_true']at h2
   exact⟨fun _ _=>⟨b,hb,h2⟩,fun _=>rfl⟩
  ·rw[if_neg h1]
   refine⟨(fun h=>by cases h),fun h=>?_⟩
   obtain⟨b,hb,h2⟩:=h hn
   refine absurd ?_ h1
   rw[List.findIdx?_isSome,jM]
   exact⟨b,hb,by rw[h2.1,h2.2];rfl⟩
 ·rw[if_neg hn]
  exact⟨fun _ h=>absurd h hn,fun _=>rfl⟩
theorem oj{m:Km}{r:Rl}:bh m r=0↔(∀c∈r.cds,c.kind=(m c.var).getD 0)∧∀a∈r.ats,a.neg=true→∃b∈r.ats,b.neg=false∧pS a b=true:=by
 have k:∀c,fI m c=0↔c.kind=(m c.var).getD 0:=fun c=>by
  unfold fI
  by_cases h:c.kind=(m c.var).getD 0
  ·rw[if_pos h];exact⟨fun _=>h,fun _=>rfl⟩
  ·rw[if_neg h];exact⟨(fun h=>by cases h),fun e=>absurd e h⟩
 unfold bh
 by_cases h1:aA (fI m) r.cds=0
 ·rw[if_pos h1,aF]
  have h2:=aF.1 h1
  exact⟨fun h=>⟨fun c hc=>(k c).1 (h2 c hc),fun a ha=>pe.1 (h a ha)⟩,fun h a ha=>pe.2 (h.2 a ha)⟩
 ·rw[if_neg h1]
  exact⟨fun h=>absurd h h1,fun h=>absurd (aF.2 (fun c hc=>(k c).2 (h.1 c hc))) h1⟩
theorem check_ast{ss:List Sc}{q:Qy}(h:aZ ss q=0):AstOk q:=by
 unfold aZ at h
 by_cases h1:eU q=0
 ·exact m7.1 h1
 ·rw[if_neg h1]at h
  exact absurd h h1
theorem lj{ss:List Sc}{r:Rl}{m:Km}(h:aU ss r=.ok m):a8 ss r=m:=by
 unfold a8
 rw[h]
theorem err_ok{ss:List Sc}{r:Rl}(h:gY (aU ss r)=0)(hz:∀e,aU ss r=.error e→e≠0):∃m,aU ss r=.ok m:=by
 rcases hi:aU ss r with e|m
 ·rw[hi]at h
  exact absurd h (hz e hi)
 ·exact⟨m,rfl⟩
theorem nT{σ α : Type}{f : σ→α→Except Int σ}(hf:∀s a e,f s a=.error e→e≠0):∀{l:List α} {s : σ} {e:Int},dz f l s=.error e→e≠0
 | [],_,_,h=>by cases h
 | a::l,s,e,h=>by
  rw[lW]at h
  rcases hk:f s a with e'|t
  ·rw[hk]at h
   injection h with h
   subst h
   exact hf _ _ _ hk
  ·rw[hk]at h
   exact nT hf h
theorem kindT_err{m:Km}{p:Tm×Int}{e:Int}(h:cV m p=.error e):e≠0:=by
 by_cases h0:p.1.var=⟨#[]⟩
 ·rw[lN h0]at h
  by_cases h1:p.1.kind=p.2
  ·rw[if_pos h1]at h
   cases h
  ·rw[if_neg h1]at h
   injection h with h
   omega
 ·rw[lO h0]at h
  rcases hm:m p.1.var with _|k
  ·rw[hm]at h
   cases h
  ·rw[hm]at h
   change (if k=p.2 then Except.ok m else Except.error 5)=.error e at h
   by_cases h1:k=p.2
   ·rw[if_pos h1]at h
    cases h
   ·rw[if_neg h1]at h
    injection h with h
    omega
theorem infer_err{ss:List Sc}{r:Rl}{e:Int}(h:aU ss r=.error e):e≠0:=by
 refine nT (f:=dG ss) (fun m a e h=>?_) h
 unfold dG at h
 rcases hs:cm ss a.rel with _|s
 ·rw[hs]at h
  injection h with h
  omega
 ·rw[hs]at h
  change (if a.terms.length=s.kinds.length then dz cV (a.terms.zip s.kinds) m else .error 6)=.error e at h
  by_cases h1:a.terms.length=s.kinds.length
  ·rw[if_pos h1]at h
   exact nT (fun _ _ _ h=>kindT_err h) h
  ·rw[if_neg h1]at h
   injection h with h
   omega
theorem check_iff{ss:List Sc}{q:Qy}:aZ ss q=0↔ChkOk ss q:=by
 constructor
 ·intro h
  have hA:=check_ast h
  refine⟨hA,?_⟩
  unfold aZ at h
  rw[if_pos (m7.2 hA)]at h
  by_cases h1:aA (fun r=>gY (aU ss r)) q.rs=0
  ·rw[if_pos h1]at h
   by_cases h2:aA (fun r=>bh (a8 ss r) r) q.rs=0
   ·rw[if_pos h2]at h
    by_cases h3:q.rs.all (fun r=>q.hd.all (fun v=>decide ((a8 ss r v).getD 0=(a8 ss (q.rs.headD ⟨[],[]⟩) v).getD 0)))=true
    ·rw[if_pos h3]at h
     have h4:q.ag=2→(a8 ss (q.rs.headD ⟨[],[]⟩) q.av).getD 0=1:=fun e=>by
      by_cases h5:q.ag=2∧(a8 ss (q.rs.headD ⟨[],[]⟩) q.av).getD 0≠1
      ·rw[if_pos h5]at h
       cases h
      ·exact Decidable.byContradiction (fun k=>h5 ⟨e,k⟩)
     refine⟨fun v=>(a8 ss (q.rs.headD ⟨[],[]⟩) v).getD 0,fun r hr=>⟨fun v=>(a8 ss r v).getD 0,?_,fun v hv=>?_,fun e=>?_⟩⟩
     ·obtain⟨m,hm⟩:=err_ok (aF.1 h1 r hr) (fun e he=>infer_err he)
      have hv:=oj.1 (aF.1 h2 r hr)
      rw[lj hm]at hv ⊢
      exact⟨infer_ty hm,hv.1,hv.2⟩
     ·exact of_decide_eq_true (jA.1 (jA.1 h3 r hr) v hv)
     ·have h5:=h4 e
      have h6:q.rs.length≤1:=by
       rcases hA.l3.2 with h|h
       ·exact h
       ·rw[h]at e
        cases e
      have h7:q.rs.headD ⟨[],[]⟩=r:=by
       rcases hq:q.rs with _|⟨r0,l⟩
       ·rw[hq]at hr
        simp at hr
       ·rw[hq]at hr h6
        have:l=[]:=jZ (by simpa using h6)
        subst this
        simp at hr
        exact hr.symm
      rw[h7]at h5
      exact h5
    ·rw[if_neg h3]at h
     cases h
   ·rw[if_neg h2]at h
    exact absurd h h2
  ·rw[if_neg h1]at h
   exact absurd h h1
 ·rintro⟨hA,K,hK⟩
  have hm:∀r∈q.rs,∃m κ,aU ss r=.ok m∧(∀v,occB r v→m v=some (κ v))∧TyR ss κ r∧(∀v∈q.hd,κ v=K v)∧(q.ag=2→κ q.av=1):=fun r hr=>by
   obtain⟨κ,h1,h2,h3⟩:=hK r hr
   obtain⟨m,k1,-,k3⟩:=infer_fit h1.1
   exact⟨m,κ,k1,k3,h1,h2,h3⟩
  have se:∀r∈q.rs,∀v∈q.hd,occB r v:=fun r hr v hv=>iy ((hA.rs r hr).bd v (.inl (by unfold dI;split;exact hv;exact jP _ hv)))
  have sg:∀r∈q.rs,∀c∈r.cds,c.var∈aj r:=fun r hr c hc=>by
   have h1:=(hA.rs r hr).cd c hc
   have h2:cO c.var=true:=by
    unfold d6 at h1
    by_cases h:cO c.var=true
    ·exact h
    ·rw[if_neg h]at h1
     cases h1
   rw[cW,eE]
   exact⟨cdT c,zq _ (jG.2 ⟨c,hc,rfl⟩),rfl,nameB_ne h2⟩
  have si:∀r∈q.rs,∀c∈r.cds,occB r c.var:=fun r hr c hc=>iy ((hA.rs r hr).bd _ (.inr (sg r hr c hc)))
  unfold aZ
  rw[if_pos (m7.2 hA),if_pos (aF.2 (fun r hr=>by obtain⟨m,κ,h1,-⟩:=hm r hr;show gY (aU ss r)=0;rw[h1];rfl)),if_pos,if_pos,if_neg]
  ·rintro⟨h1,h2⟩
   have hr:q.rs.headD ⟨[],[]⟩∈q.rs:=by
    rcases hq:q.rs with _|⟨r0,l⟩
    ·exact absurd hq hA.ne
    ·simp
   obtain⟨m,κ,k1,k2,-,-,k5⟩:=hm _ hr
   rw[lj k1,k2 q.av,Option.getD_some]at h2
   ·exact h2 (k5 h1)
   ·refine iy ((hA.rs _ hr).bd _ (.inl ?_))
    have h6:=hA.ag
    unfold dI
    by_cases h7:q.av=⟨#[]⟩
    ·unfold gD at h6
     rw[h1,if_neg (by omega),if_pos (by omega),h7,if_neg (by decide)]at h6
     cases h6
    ·rw[if_neg h7]
     simp
  ·refine jA.2 (fun r hr=>jA.2 (fun v hv=>decide_eq_true ?_))
   have sh:q.rs.headD ⟨[],[]⟩∈q.rs:=by
    rcases hq:q.rs with _|⟨r0,l⟩
    ·exact absurd hq hA.ne
    ·simp
   obtain⟨m,κ,k1,k2,-,k4,-⟩:=hm _ hr
   obtain⟨m0,κ0,j1,j2,-,j4,-⟩:=hm _ sh
   rw[lj k1,lj j1,k2 v (se _ hr v hv),j2 v (se _ sh v hv),Option.getD_some,Option.getD_some,k4 v hv,j4 v hv]
  ·refine aF.2 (fun r hr=>?_)
   obtain⟨m,κ,k1,k2,k3,-,-⟩:=hm _ hr
   show bh (a8 ss r) r=0
   rw[lj k1]
   exact oj.2 ⟨fun c hc=>by rw[k2 _ (si r hr c hc)];exact k3.2.1 c hc,k3.2.2⟩
end Go.Proofs.YtplldnnnhgnbjaaGreatDoor
namespace Go.Proofs
open Go.Shelf
def Tryz.layKeys_ren:Go.Shelf.Ren:=⟨fun|7=>143|10=>213|n=>n,fun|23=>31|26=>9|3=>181|28=>250|0=>0|27=>249|33=>183|4=>4|n=>n,fun|n=>n⟩
theorem Tryz.layKeys:Go.Proofs.SlLaysZ.n7 Tryz.prog Tryz.layKeys_ren:={
 mixed:=by kernel_rfl
 f7:=⟨Tryz.f143.name,by decide,Tryz.func143.trans (congrArg some (by kernel_rfl))⟩
 f10:=⟨Tryz.f213.name,by decide,Tryz.func213.trans (congrArg some (by kernel_rfl))⟩
 t0:=Tryz.underlying0
 a0:=Tryz.isAgg0
 z0:=Tryz.sizeOf0
 v0:=Tryz.zeroValue0
 t4:=Tryz.underlying4
 a4:=Tryz.isAgg4
 z4:=Tryz.sizeOf4
 v4:=Tryz.zeroValue4
 t23:=Tryz.underlying31
 a23:=Tryz.isAgg31
 z23:=Tryz.sizeOf31
 v23:=Tryz.zeroValue31
 t26:=Tryz.underlying9
 a26:=Tryz.isAgg9
 z26:=Tryz.sizeOf9
 v26:=Tryz.zeroValue9
 t27:=Tryz.underlying249
 a27:=Tryz.isAgg249
 z27:=Tryz.sizeOf249
 v27:=Tryz.zeroValue249
 t28:=Tryz.underlying250
 a28:=Tryz.isAgg250
 z28:=Tryz.sizeOf250
 v28:=Tryz.zeroValue250
 t33:=Tryz.underlying183
 a33:=Tryz.isAgg183
 z33:=Tryz.sizeOf183
 v33:=Tryz.zeroValue183 }
def Tryz.laySorted_ren:Go.Shelf.Ren:=⟨fun|6=>142|8=>211|9=>212|11=>253|13=>123|12=>254|23=>196|24=>197|14=>278|15=>279|16=>280|17=>281|18=>282|19=>283|20=>284|21=>285|22=>286|25=>301|26=>242|27=>243|28=>302|29=>303|30=>304|31=>307|n=>n,fun|26=>9|28=>250|24=>24|0=>0|3=>3|37=>166|48=>165|50=>87|4=>4|40=>296|39=>295|45=>245|5=>5|9=>9|51=>341|55=>345|57=>373|58=>374|33=>183|n=>n,fun|n=>n⟩
theorem Tryz.laySorted:Go.Proofs.SlLaysZ.n6 Tryz.prog Tryz.laySorted_ren:={
 mixed:=by kernel_rfl
 f6:=⟨Tryz.f142.name,by decide,Tryz.func142.trans (congrArg some (by kernel_rfl))⟩
 f8:=⟨Tryz.f211.name,by decide,Tryz.func211.trans (congrArg some (by kernel_rfl))⟩
 f11:=⟨Tryz.f253.name,by decide,Tryz.func253.trans (congrArg some (by kernel_rfl))⟩
 t0:=Tryz.underlying0
 a0:=Tryz.isAgg0
 z0:=Tryz.sizeOf0
 v0:=Tryz.zeroValue0
 t24:=Tryz.underlying24
 a24:=Tryz.isAgg24
 z24:=Tryz.sizeOf24
 v24:=Tryz.zeroValue24
 t26:=Tryz.underlying9
 a26:=Tryz.isAgg9
 z26:=Tryz.sizeOf9
 v26:=Tryz.zeroValue9
 t28:=Tryz.underlying250
 a28:=Tryz.isAgg250
 z28:=Tryz.sizeOf250
 v28:=Tryz.zeroValue250
 i26:=by kernel_rfl }
def Tryz.laySortS_ren:Go.Shelf.Ren:=⟨fun|6=>212|8=>123|9=>254|19=>196|20=>197|21=>278|22=>279|23=>280|24=>281|25=>282|26=>283|27=>284|28=>285|29=>286|36=>301|31=>242|32=>243|37=>302|38=>303|39=>304|41=>307|n=>n,fun|27=>24|29=>9|3=>3|32=>166|26=>24|0=>0|44=>165|46=>87|4=>4|36=>296|35=>295|41=>245|5=>5|9=>9|53=>341|57=>345|63=>373|64=>374|n=>n,fun|n=>n⟩
theorem Tryz.laySortS:Go.Proofs.SlLaysM.n6 Tryz.prog Tryz.laySortS_ren:={
 mixed:=by kernel_rfl
 f6:=⟨Tryz.f212.name,by decide,Tryz.func212.trans (congrArg some (by kernel_rfl))⟩
 f8:=Tryz.func123.trans (congrArg some (by kernel_rfl))
 f9:=⟨Tryz.f254.name,by decide,Tryz.func254.trans (congrArg some (by kernel_rfl))⟩
 f19:=Tryz.func196.trans (congrArg some (by kernel_rfl))
 f20:=Tryz.func197.trans (congrArg some (by kernel_rfl))
 f21:=⟨Tryz.f278.name,by decide,Tryz.func278.trans (congrArg some (by kernel_rfl))⟩
 f22:=⟨Tryz.f279.name,by decide,Tryz.func279.trans (congrArg some (by kernel_rfl))⟩
 f23:=⟨Tryz.f280.name,by decide,Tryz.func280.trans (congrArg some (by kernel_rfl))⟩
 f24:=⟨Tryz.f281.name,by decide,Tryz.func281.trans (congrArg some (by kernel_rfl))⟩
 f25:=⟨Tryz.f282.name,by decide,Tryz.func282.trans (congrArg some (by kernel_rfl))⟩
 f26:=⟨Tryz.f283.name,by decide,Tryz.func283.trans (congrArg some (by kernel_rfl))⟩
 f27:=⟨Tryz.f284.name,by decide,Tryz.func284.trans (congrArg some (by kernel_rfl))⟩
 f28:=⟨Tryz.f285.name,by decide,Tryz.func285.trans (congrArg some (by kernel_rfl))⟩
 f29:=⟨Tryz.f286.name,by decide,Tryz.func286.trans (congrArg some (by kernel_rfl))⟩
 f31:=Tryz.func242.trans (congrArg some (by kernel_rfl))
 f32:=Tryz.func243.trans (congrArg some (by kernel_rfl))
 f36:=⟨Tryz.f301.name,by decide,Tryz.func301.trans (congrArg some (by kernel_rfl))⟩
 f37:=⟨Tryz.f302.name,by decide,Tryz.func302.trans (congrArg some (by kernel_rfl))⟩
 f38:=⟨Tryz.f303.name,by decide,Tryz.func303.trans (congrArg some (by kernel_rfl))⟩
 f39:=⟨Tryz.f304.name,by decide,Tryz.func304.trans (congrArg some (by kernel_rfl))⟩
 f41:=⟨Tryz.f307.name,by decide,Tryz.func307.trans (congrArg some (by kernel_rfl))⟩
 t0:=Tryz.underlying0
 a0:=Tryz.isAgg0
 z0:=Tryz.sizeOf0
 v0:=Tryz.zeroValue0
 t3:=Tryz.underlying3
 a3:=Tryz.isAgg3
 z3:=Tryz.sizeOf3
 v3:=Tryz.zeroValue3
 t4:=Tryz.underlying4
 a4:=Tryz.isAgg4
 z4:=Tryz.sizeOf4
 v4:=Tryz.zeroValue4
 t5:=Tryz.underlying5
 a5:=Tryz.isAgg5
 z5:=Tryz.sizeOf5
 v5:=Tryz.zeroValue5
 t9:=Tryz.underlying9
 a9:=Tryz.isAgg9
 z9:=Tryz.sizeOf9
 v9:=Tryz.zeroValue9
 t26:=Tryz.underlying24
 a26:=Tryz.isAgg24
 z26:=Tryz.sizeOf24
 v26:=Tryz.zeroValue24
 t27:=Tryz.underlying24
 a27:=Tryz.isAgg24
 z27:=Tryz.sizeOf24
 v27:=Tryz.zeroValue24
 t29:=Tryz.underlying9
 a29:=Tryz.isAgg9
 z29:=Tryz.sizeOf9
 v29:=Tryz.zeroValue9
 t32:=Tryz.underlying166
 a32:=Tryz.isAgg166
 z32:=Tryz.sizeOf166
 v32:=Tryz.zeroValue166
 t35:=Tryz.underlying295
 a35:=Tryz.isAgg295
 z35:=Tryz.sizeOf295
 v35:=Tryz.zeroValue295
 t36:=Tryz.underlying296
 a36:=Tryz.isAgg296
 z36:=Tryz.sizeOf296
 v36:=Tryz.zeroValue296
 t41:=Tryz.underlying245
 a41:=Tryz.isAgg245
 z41:=Tryz.sizeOf245
 v41:=Tryz.zeroValue245
 t44:=Tryz.underlying165
 a44:=Tryz.isAgg165
 z44:=Tryz.sizeOf165
 v44:=Tryz.zeroValue165
 t46:=Tryz.underlying87
 a46:=Tryz.isAgg87
 z46:=Tryz.sizeOf87
 v46:=Tryz.zeroValue87
 t53:=Tryz.underlying341
 a53:=Tryz.isAgg341
 z53:=Tryz.sizeOf341
 v53:=Tryz.zeroValue341
 t57:=Tryz.underlying345
 a57:=Tryz.isAgg345
 z57:=Tryz.sizeOf345
 v57:=Tryz.zeroValue345
 t63:=Tryz.underlying373
 a63:=Tryz.isAgg373
 z63:=Tryz.sizeOf373
 v63:=Tryz.zeroValue373
 t64:=Tryz.underlying374
 a64:=Tryz.isAgg374
 z64:=Tryz.sizeOf374
 v64:=Tryz.zeroValue374 }
end Go.Proofs
namespace Go.Proofs.YtplldnnnhgnbjaaGreatDoor
open Go.RowKit Go.Maps Go.Sort Go.Shelf
theorem sorts_s(m:Nat):AnyZ.SortsIn Tryz.prog Tryz.laySorted_ren Fence.wide m :=
  ⟨fun blk off cap ss W hH se sg=>callsIn_wide.2 (AnyM.slices_Sort_string Tryz.laySortS blk off cap ss W hH se sg),
   fun p cap W=>callsIn_wide.2 (AnyM.slices_Sort_string_none Tryz.laySortS p cap W)⟩
theorem maps_keys(mb:Option Nat)(W:World):CallsIn Fence.wide 5 Tryz.prog 143 #[.map mb] W fun e w'=>e=.returned (.func (.func 213) #[] #[.pointer (some ⟨W.heap.size,0,none⟩)])∧w'=W.alloc (.cells #[.map mb] 31) :=
 AnyZ.keys_in Tryz.layKeys Fence.wide 5 trivial rfl mb W
theorem rN{H:Type}(b nn:Nat)(D0:DataW H)(R:Value→Option (DataW H×List MemPlace))(w:World)(sh:w.ownsMap Tryz.prog 9 R b nn D0)(si:Maps.size D0≤maxLen)(se:Maps.size D0*16≤140737488355328) :
  CallsIn Fence.wide 5 Tryz.prog 142 #[.func (.func 213) #[] #[.pointer (some ⟨w.heap.size,0,none⟩)]] (w.alloc (.cells #[.map (some b)] 31)) fun e w'=>∃(v:Value) (ss:List (List UInt8)),e=.returned v∧ss.Perm (strKeys D0) ∧
   w'.ownsRow (w.alloc (.cells #[.map (some b)] 31)).heap.size 9 1 v ss.length ((ss.mergeSort (fun x y=>decide (x≤y))).map encStr)∧(v=.slice none 0 0↔ss=[])∧Below (w.alloc (.cells #[.map (some b)] 31)).heap.size (w.alloc (.cells #[.map (some b)] 31)) w':=by
 have sp:=sh.lt
 have sj:SeqGives Fence.wide 2 Tryz.prog 213 #[.pointer (some ⟨w.heap.size,0,none⟩)] encStr (fun ss=>ss.Perm (strKeys D0)) (Maps.size D0) (w.alloc (.cells #[.map (some b)] 31)) :=
  AnyZ.keys_gives (ρ:=Tryz.layKeys_ren) { Tryz.layKeys with } Fence.wide _ trivial rfl (by omega) w.heap.size b nn D0 _ (by simp) (by simp) (by
   obtain⟨es,sg,hb,Ft,hs,hD⟩:=sh
   exact⟨es,sg,(Below.heap_alloc _ _ b sp).trans hb,Ft,hs,hD⟩)
 exact AnyZ.sorted_in Tryz.laySorted Fence.wide 5 trivial trivial trivial trivial rfl (by omega) (sorts_s _) (enters_of Tryz.func212 (by kernel_rfl) rfl) 213 #[.pointer (some ⟨w.heap.size,0,none⟩)] trivial (enters_of Tryz.func213 (by kernel_rfl) rfl) _ _ si se _ sj
theorem key_mem{w:World}{b n:Nat}{D:DataW Value}(h:w.ownsMap Tryz.prog 9 Rv b n D){x:List UInt8}:x∈strKeys D↔Maps.has D (.string x)=true:=by
 obtain⟨es,rfl,hk⟩:=h.keysOf
 have sg:∀p∈es,∃x,p.1=.string x:=fun p hp=>by
  obtain⟨v,hv⟩:=hk p hp
  obtain⟨y,-,e,-⟩:=Maps.keyOf_str Tryz.underlying9 hv
  exact⟨y,e⟩
 rw[Maps.has_eq,jM]
 show x∈es.map (fun p=>strOf p.1)↔_
 rw[jG]
 constructor
 ·rintro⟨p,se,rfl⟩
  obtain⟨a,ha⟩:=sg p se
  exact⟨p,se,by rw[ha];simp[Lit.sameKey,strOf]⟩
 ·rintro⟨p,se,hs⟩
  obtain⟨a,ha⟩:=sg p se
  rw[ha]at hs
  exact⟨p,se,by rw[ha];simpa [Lit.sameKey,strOf] using hs⟩
theorem key_nodup{w:World}{b n:Nat}{D:DataW Value}(h:w.ownsMap Tryz.prog 9 Rv b n D)(ht:Tidy D):(strKeys D).Nodup:=by
 obtain⟨es,rfl,hk⟩:=h.keysOf
 obtain⟨sj,e,hp⟩:=ht
 injection e with e
 subst e
 show (es.map fun p=>strOf p.1).Nodup
 refine List.pairwise_map.2 (hp.imp_of_mem fun {p q} sg sh se e=>se ?_)
 obtain⟨v,hv⟩:=hk p sg
 obtain⟨a,-,ha,-⟩:=Maps.keyOf_str Tryz.underlying9 hv
 obtain⟨v2,si⟩:=hk q sh
 obtain⟨b',-,hb,-⟩:=Maps.keyOf_str Tryz.underlying9 si
 rw[ha,hb]at e ⊢
 exact congrArg _ e
theorem key_len{w:World}{b n:Nat}{D:DataW Value}(h:w.ownsMap Tryz.prog 9 Rv b n D):(strKeys D).length=Maps.size D∧Maps.size D≤n:=by
 have h1:=h.size_le
 obtain⟨es,rfl,hk⟩:=h.keysOf
 exact⟨by show (es.map _).length=es.length;simp,h1⟩
def NamesV(m:Dm)(n:Nat)(w:World)(x:Value)(w':World):Prop:=∃(B:Nat) (l:List ByteArray),w.heap.size≤B∧w'.ownsRow B 9 1 x l.length (l.map Sv)∧l.Nodup∧l.length≤n∧∀s,s∈l↔(m s).isSome=true
theorem names_any{F:Nat→Prop}{w:World}{b n:Nat}{m:Dm}(hD:DbB F w b n m)(hn:n≤1000000) :
  Calls Tryz.prog 66 #[.agg #[.map (some b)]] w (Ret (NamesV m n w) w):=by
 obtain⟨f,⟨D,h1,h2,h3,h4⟩,hm⟩:=hD
 obtain⟨sr,su⟩:=key_len h1
 have sw:(w.alloc (.cells #[.map (some b)] 33)).ownsMap Tryz.prog 9 Rv b n D:=by
  have sC:=h1.lt
  obtain⟨es,se,hb,Ft,hs,hD⟩:=h1
  exact⟨es,se,(Below.heap_alloc _ _ b sC).trans hb,Ft,hs,hD⟩
 have sA:=zN (rN b n D Rv (w.alloc (.cells #[.map (some b)] 33)) sw (by unfold maxLen;omega) (by omega))
 have sj:=zN (fun (s:ByteArray)=>(show s.data.toList∈strKeys D↔(m s).isSome=true from by
  rw[key_mem h1,h4 s]
  rcases hm s with ⟨k1,k2⟩|⟨e,u,k1,k2,-⟩
  ·rw[k1,k2]
   simp
  ·rw[k1,k2]
   simp))
 have sy:=zN (key_nodup h1 h2)
 have si:=zN (And.intro sr su)
 clear h1 h2 h3 h4 hm sr su sw
 go_enter Tryz.func66,Tryz.ntmps66
 go_upto_region 1 with fail
 have kb:=Bk.new w 33 [.map (some b)]
 change Bk (w.alloc (.cells #[.map (some b)] 33)) _ _ _ at kb
 have hx1:Ext w (w.alloc (.cells #[.map (some b)] 33)):=(Ext.refl w).alloc _
 generalize (w.alloc (.cells #[.map (some b)] 33))=w1 at *
 have b0:=kb.c0
 have sq:=zN hx1
 clear kb hx1
 go_wp2_with fail
 refine(callsIn_wide.1 (maps_keys (some b) w1)).mono ?_
 rintro e w2 ⟨rfl,sx⟩
 have sp:=zN sx
 clear b0 sx
 go_wp2_with fail
 have hc:=callsIn_wide.1 sA.out
 rw[←sp.out]at hc
 refine hc.mono ?_
 rintro e w3 ⟨v,ss,rfl,hp,sg,-,hb⟩
 have hx2:Ext w1 w2:=by rw[sp.out];exact(Ext.refl w1).alloc _
 have sB:=zN (sq.out.trans (hx2.trans hb))
 have HQ:Hid (NamesV m n w v w3):=zN (by
  have sh:=(List.mergeSort_perm ss (fun x y=>decide (x≤y))).trans hp
  refine⟨w2.heap.size,(ss.mergeSort (fun x y=>decide (x≤y))).map (fun x=>⟨x.toArray⟩),(sq.out.trans hx2).size,?_,?_,?_,fun s=>?_⟩
  ·rw[jk,List.length_mergeSort,List.map_map]
   exact sg
  ·refine List.pairwise_map.2 ((sh.nodup_iff.2 sy.out).imp (fun {a b} sD e=>sD ?_))
   have:=congrArg (fun z:ByteArray=>z.data.toList) e
   simpa using this
  ·rw[jk,sh.length_eq]
   have:=si.out
   omega
  ·rw[←sj.out s,jG]
   constructor
   ·rintro⟨x,hx,rfl⟩
    simpa using sh.mem_iff.1 hx
   ·intro h
    exact⟨s.data.toList,sh.mem_iff.2 h,by simp⟩)
 clear hc hp sg hb hx2
 go_wp2_with fail
 go_ret
 exact Ret.mk sB.out HQ.out
end Go.Proofs.YtplldnnnhgnbjaaGreatDoor
