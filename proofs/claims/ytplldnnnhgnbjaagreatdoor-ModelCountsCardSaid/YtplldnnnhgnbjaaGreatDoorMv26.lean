/- packed -/
import Derived.Test.YtplldnnnhgnbjaaGreatDoorMv15
import Derived.Test.YtplldnnnhgnbjaaGreatDoorMv22
set_option maxRecDepth 20000
set_option maxHeartbeats 1600000
namespace Go.Proofs.YtplldnnnhgnbjaaGreatDoor
open Go.RowKit Go.Maps
theorem p6{w:World}{c:Cd} :
  Calls Tryz.prog 119 #[.agg #[.string c.var,.int .i64 c.op,.int .i64 c.kind,.int .i64 c.int,.string c.str]] w (Ret (fun x _=>x=.bool (decide (c.var=⟨#[]⟩))) w):=by
 have kb:=Bk.new w 53 [.string c.var,.int .i64 c.op,.int .i64 c.kind,.int .i64 c.int,.string c.str]
 have hx:Ext w (w.alloc (.cells #[.string c.var,.int .i64 c.op,.int .i64 c.kind,.int .i64 c.int,.string c.str] 53)):=(Ext.refl w).alloc _
 have HX:=zN hx
 obtain⟨z,hz⟩:=sd (decide (c.var=⟨#[]⟩))
 have hq:c.var.toList.isEmpty=z:=by
  rw[hz,Bool.eq_iff_iff,List.isEmpty_iff,decide_eq_true_eq]
  refine⟨fun e=>?_,fun e=>by rw[e];exact ByteArray.toList_eq _⟩
  rw[ByteArray.toList_eq]at e
  exact Go.WideShapes.bytes_inj (by rw[e])
 rw[←hz]
 obtain⟨cv,co,ck,ci,cs⟩:=c
 clear hz hx
 simp only at *
 go_enter Tryz.func119,Tryz.ntmps119
 go_upto_region 1 with fail
 change Bk (w.alloc (.cells #[.string cv,.int .i64 co,.int .i64 ck,.int .i64 ci,.string cs] 53)) _ _ _ at kb
 generalize (w.alloc (.cells #[.string cv,.int .i64 co,.int .i64 ck,.int .i64 ci,.string cs] 53))=w1 at *
 have b0:=kb.c0
 clear kb
 go_wp2_with fail
 go_ret
 exact Ret.mk HX.out rfl
end Go.Proofs.YtplldnnnhgnbjaaGreatDoor
namespace Go.Proofs.YtplldnnnhgnbjaaGreatDoor
open Go.RowKit Go.Maps
theorem qu{α : Type}{p : α→Bool}{l:List α}{i:Nat}(hi:i<l.length)(h:(l.take i).any p=false)(h1:p l[i]=false):(l.take (i+1)).any p=false:=by
 rw[jj hi,List.any_append,h,List.any_cons,h1]
 rfl
structure NgOk(m:Nat)(x:Ng):Prop where
 so:SoR x.rows
 len:x.vars.length=x.cs.length
 cl:x.vars.length≤1048576
 rl:x.rows.length≤1048576
 rr:∀r∈x.rows,r.length≤1048576
 lt:∀c∈x.vars,c<(m:Int)
def ngB(r:List Vl)(x:Ng):Bool:=da x.rows (fj x.vars x.cs r)
theorem excn_any{F J:Nat→Prop}{w:World}{g:Nat}{R C K B:Option Addr}{cr cc ck d m nr nc nk:Nat}{x:Ng}{xs:List Vl}(hg:Bk w g 74 [.slice B m d])(hB:Sl aM J w (.slice B m d) xs)(hR:Sl aG F w (.slice R nr cr) x.rows)(hC:Ins F w (.slice C nc cc) x.vars)(hK:Sl aM F w (.slice K nk ck) x.cs)(hx:NgOk m x)(hm:m≤1048576) :
  Calls Tryz.prog 115 #[.agg #[.int .i64 x.ar,.slice R nr cr,.slice C nc cc,.slice K nk ck],.pointer (some ⟨g,0,none⟩)] w (Ret (fun y _=>y=.bool (ngB xs x)) w):=by
 have sp:=hR.cap.1;have sj:=hK.cap.1
 have si:nc=x.vars.length:=by
  obtain⟨A',c',e,-⟩:=hC
  injection e
 obtain rfl:nk=nc:=by have:=hx.len;omega
 have HE:=zN (fun (V:World) (hV:Ext w V)=>pR (a:=x.ar) hx.so (hR.ext hV) (hC.ext hV) (hK.ext hV) (hB.ext hV) hx.lt (by have:=hx.cl;omega) hm hx.rr (by have:=hx.rl;omega))
 have g0:=hg.c0
 obtain⟨ar,se⟩:=sd x.ar
 obtain⟨z,hz⟩:=sd (ngB xs x)
 have HZ:Hid (da x.rows (fj x.vars x.cs xs)=z):=zN hz.symm
 rw[←se]at HE ⊢
 rw[←hz]
 rw[HZ.out]at HE
 have kb:=Bk.new w 220 [.int .i64 ar,.slice R nr cr,.slice C nk cc,.slice K nk ck]
 change Bk (w.alloc (.cells #[.int .i64 ar,.slice R nr cr,.slice C nk cc,.slice K nk ck] 220)) _ _ _ at kb
 have hx2:Ext w (w.alloc (.cells #[.int .i64 ar,.slice R nr cr,.slice C nk cc,.slice K nk ck] 220)):=(Ext.refl w).alloc _
 clear hg hB hR hC hK hx sp sj si se hz
 go_enter Tryz.func115,Tryz.ntmps115
 go_upto_region 1 with fail
 generalize (w.alloc (.cells #[.int .i64 ar,.slice R nr cr,.slice C nk cc,.slice K nk ck] 220))=w1 at *
 have HX:=zN hx2
 have k0:=kb.c0;have k1:=kb.c1;have k2:=kb.c2;have k3:=kb.c3
 replace g0:=hx2.cell g0
 clear kb hx2
 go_wp2_with fail
 refine(HE.out _ HX.out).mono ?_
 rintro e w2 ⟨y,rfl,sg,rfl⟩
 have sh:=zN (HX.out.trans sg)
 clear sg k0 k1 k2 k3 g0
 go_wp2_with fail
 go_ret
 exact Ret.mk sh.out rfl
def IdxN(r:List Vl)(es:List Ng)(v:Value):Prop:=∃k:Int,v=.int .i64 k∧((k = -1∧es.any (ngB r)=false)∨(0≤k∧es.any (ngB r)=true))
theorem index_ng{F J:Nat→Prop}{w:World}{g:Nat}{A B:Option Addr}{n c m d:Nat}{es:List Ng}{xs:List Vl}(hg:Bk w g 74 [.slice B m d])(hB:Sl aM J w (.slice B m d) xs)(hE:Sl lV F w (.slice A n c) es)(hx:∀x∈es,NgOk m x)(hn:n≤1048576)(hm:m≤1048576) :
  Calls Tryz.prog 185 #[.slice A n c,.func (.func 115) #[] #[.pointer (some ⟨g,0,none⟩)]] w (Ret (fun y _=>IdxN xs es y) w):=by
 have sw:=hE.cap.1
 have HN:=zN sw;have HE:=zN hE;have HG:=zN hg;have HX:=zN hx;have HB:=zN hB
 clear sw hE hg hx hB
 go_enter Tryz.func185,Tryz.ntmps185
 go_wp2_with fail
 go_loopw [8] (fun q wr=>∃i:Nat,i≤n∧q=.int .i64 (i:Int)∧Hid ((es.take i).any (ngB xs)=false)∧Hid (Ext w wr)) (fun q _=>n-(intOf q).toNat)
 case atStart=>exact⟨0,jn _,rfl,zN rfl,zN (Ext.refl _)⟩
 case round =>
  obtain⟨i,hi,rfl,sq,se⟩:=hrel
  obtain⟨W,rfl⟩:∃W:World,W=wr:=⟨_,rfl⟩
  by_cases hlt:i<n
  ·have i1:(0:Int)≤(i:Int):=by omega
   have i2:(i:Int)<(n:Int):=by omega
   have sh:i<es.length:=by have:=HN.out;omega
   obtain⟨ad,R,cr,C,cc,K,ck,rfl,c0,c1,c2,c3,hR,hC,hK⟩:=HE.out.ng sh
   replace c0:=se.out.cell c0;replace c1:=se.out.cell c1;replace c2:=se.out.cell c2;replace c3:=se.out.cell c3
   have HC:=zN (excn_any (HG.out.ext se.out) (HB.out.ext se.out) (hR.ext se.out) (hC.ext se.out) (hK.ext se.out) (HX.out _ (jf sh)) hm)
   have sg:=jf sh
   have sp:ngB xs es[i]=false→(es.take (i+1)).any (ngB xs)=false:=qu (p:=ngB xs) sh sq.out
   obtain⟨x,sx⟩:=sd (es[i])
   rw[←sx]at c0 c1 c2 c3 HC sg sp
   have sj:=zN sg;have si:=zN sp
   clear hR hC hK sg sp sx sh
   obtain⟨z,hz⟩:=sd (ngB xs x)
   rw[←hz]at HC
   have HZ:=zN hz
   clear hz
   generalize x.ar=ar at *
   generalize x.rows.length=nr at *
   generalize x.vars.length=nc at *
   generalize x.cs.length=nk at *
   go_wp2_with fail
   refine HC.out.mono ?_
   rintro e w2 ⟨y,rfl,su,rfl⟩
   have sr:=zN (se.out.trans su)
   clear su c0 c1 c2 c3
   rcases z with _|_
   ·have sy:=zN (si.out HZ.out.symm)
    go_wp2_with fail
    go_roundw
    case rel=>exact⟨i+1,by omega,by go_num,sy,sr⟩
    case measure=>simp[intOf];omega
   ·have HA:Hid (es.any (ngB xs)=true):=zN (jM.2 ⟨x,sj.out,HZ.out.symm⟩)
    go_wp2_with fail
    go_ret
    exact Ret.mk sr.out ⟨_,rfl,.inr ⟨i1,HA.out⟩⟩
  ·obtain rfl:i=n:=by omega
   have sA:¬(i:Int)<(i:Int):=by omega
   have HA:Hid (es.any (ngB xs)=false):=zN (by
    have h:=sq.out
    rw[jp (by have:=HN.out;omega)]at h
    exact h)
   go_wp2_with fail
   go_ret
   exact Ret.mk se.out ⟨_,rfl,.inl ⟨rfl,HA.out⟩⟩
theorem mu{F J:Nat→Prop}{w:World}{g:Nat}{A B:Option Addr}{n c m d:Nat}{es:List Ng}{xs:List Vl}(hg:Bk w g 74 [.slice B m d])(hB:Sl aM J w (.slice B m d) xs)(hE:Sl lV F w (.slice A n c) es)(hx:∀x∈es,NgOk m x)(hn:n≤1048576)(hm:m≤1048576) :
  Calls Tryz.prog 117 #[.slice A n c,.func (.func 115) #[] #[.pointer (some ⟨g,0,none⟩)]] w (Ret (fun y _=>y=.bool (es.any (ngB xs))) w):=by
 have HI:=zN (index_ng hg hB hE hx hn hm)
 clear hg hB hE hx
 go_enter Tryz.func117,Tryz.ntmps117
 go_wp2_with fail
 refine HI.out.mono ?_
 rintro e w2 ⟨y,rfl,se,r,rfl,hr⟩
 have sg:=zN se
 rcases hr with ⟨rfl,hr⟩|⟨hi,hr⟩
 ·have HR:=zN hr
  clear hr se
  go_wp2_with fail
  go_ret
  exact Ret.mk sg.out (by rw[HR.out];rfl)
 ·have HR:=zN hr
  have sh:decide ((0:Int)≤r)=true:=decide_eq_true hi
  clear hr se
  go_wp2_with fail
  go_ret
  exact Ret.mk sg.out (by rw[HR.out];rfl)
def nmB(c:Cd):Bool:=decide (c.var=⟨#[]⟩)
def IdxC(es:List Cd)(v:Value):Prop:=∃k:Int,v=.int .i64 k∧((k = -1∧es.any nmB=false)∨(0≤k∧es.any nmB=true))
theorem index_nm{F:Nat→Prop}{w:World}{A:Option Addr}{n c:Nat}{es:List Cd}(hE:Sl eL F w (.slice A n c) es)(hn:n≤1048576) :
  Calls Tryz.prog 186 #[.slice A n c,.func (.func 119) #[] #[]] w (Ret (fun y _=>IdxC es y) w):=by
 have sw:=hE.cap.1
 have HN:=zN sw;have HE:=zN hE
 clear sw hE
 go_enter Tryz.func186,Tryz.ntmps186
 go_wp2_with fail
 go_loopw [8] (fun q wr=>∃i:Nat,i≤n∧q=.int .i64 (i:Int)∧Hid ((es.take i).any nmB=false)∧Hid (Ext w wr)) (fun q _=>n-(intOf q).toNat)
 case atStart=>exact⟨0,jn _,rfl,zN rfl,zN (Ext.refl _)⟩
 case round =>
  obtain⟨i,hi,rfl,sq,se⟩:=hrel
  obtain⟨W,rfl⟩:∃W:World,W=wr:=⟨_,rfl⟩
  by_cases hlt:i<n
  ·have i1:(0:Int)≤(i:Int):=by omega
   have i2:(i:Int)<(n:Int):=by omega
   have sh:i<es.length:=by have:=HN.out;omega
   obtain⟨ad,rfl,-,d0,d1,d2,d3,d4⟩:=HE.out.cd sh
   replace d0:=se.out.cell d0;replace d1:=se.out.cell d1;replace d2:=se.out.cell d2;replace d3:=se.out.cell d3;replace d4:=se.out.cell d4
   have sg:=jf sh
   have sp:nmB es[i]=false→(es.take (i+1)).any nmB=false:=qu (p:=nmB) sh sq.out
   have HC:=zN (p6 (w:=W) (c:=es[i]))
   obtain⟨x,sx⟩:=sd (es[i])
   rw[←sx]at d0 d1 d2 d3 d4 HC sg sp
   have sj:=zN sg;have si:=zN sp
   obtain⟨z,hz⟩:=sd (nmB x)
   have sy:decide (x.var=⟨#[]⟩)=z:=hz.symm
   rw[sy]at HC
   have HZ:=zN hz
   obtain⟨sF,sD,sC,sB,sE⟩:=x
   simp only at d0 d1 d2 d3 d4 HC
   clear sg sp sx sh hz sy
   go_wp2_with fail
   refine HC.out.mono ?_
   rintro e w2 ⟨y,rfl,su,rfl⟩
   have sr:=zN (se.out.trans su)
   clear su d0 d1 d2 d3 d4
   rcases z with _|_
   ·have sA:=zN (si.out HZ.out.symm)
    go_wp2_with fail
    go_roundw
    case rel=>exact⟨i+1,by omega,by go_num,sA,sr⟩
    case measure=>simp[intOf];omega
   ·have HA:Hid (es.any nmB=true):=zN (jM.2 ⟨_,sj.out,HZ.out.symm⟩)
    go_wp2_with fail
    go_ret
    exact Ret.mk sr.out ⟨_,rfl,.inr ⟨i1,HA.out⟩⟩
  ·obtain rfl:i=n:=by omega
   have sG:¬(i:Int)<(i:Int):=by omega
   have HA:Hid (es.any nmB=false):=zN (by
    have h:=sq.out
    rw[jp (by have:=HN.out;omega)]at h
    exact h)
   go_wp2_with fail
   go_ret
   exact Ret.mk se.out ⟨_,rfl,.inl ⟨rfl,HA.out⟩⟩
theorem qE{F:Nat→Prop}{w:World}{A:Option Addr}{n c:Nat}{es:List Cd}(hE:Sl eL F w (.slice A n c) es)(hn:n≤1048576) :
  Calls Tryz.prog 118 #[.slice A n c,.func (.func 119) #[] #[]] w (Ret (fun y _=>y=.bool (es.any nmB)) w):=by
 have HI:=zN (index_nm hE hn)
 clear hE
 go_enter Tryz.func118,Tryz.ntmps118
 go_wp2_with fail
 refine HI.out.mono ?_
 rintro e w2 ⟨y,rfl,se,r,rfl,hr⟩
 have sg:=zN se
 rcases hr with ⟨rfl,hr⟩|⟨hi,hr⟩
 ·have HR:=zN hr
  clear hr se
  go_wp2_with fail
  go_ret
  exact Ret.mk sg.out (by rw[HR.out];rfl)
 ·have HR:=zN hr
  have sh:decide ((0:Int)≤r)=true:=decide_eq_true hi
  clear hr se
  go_wp2_with fail
  go_ret
  exact Ret.mk sg.out (by rw[HR.out];rfl)
end Go.Proofs.YtplldnnnhgnbjaaGreatDoor
