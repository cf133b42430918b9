/- packed -/
import Derived.Test.YtplldnnnhgnbjaaGreatDoorMu15
import Derived.Test.YtplldnnnhgnbjaaGreatDoorMu23
namespace Go.Proofs.YtplldnnnhgnbjaaGreatDoor
open Go.RowKit Go.Maps
set_option maxRecDepth 20000 in
theorem nameless_any{w:World}{c:Cd} :
  Calls Tryz.prog 119 #[.agg #[.string c.var,.int .i64 c.op,.int .i64 c.kind,.int .i64 c.int,.string c.str]] w (Ret (fun x _=>x=.bool (decide (c.var=⟨#[]⟩))) w):=by
 have kb:=Bk.new w 53 [.string c.var,.int .i64 c.op,.int .i64 c.kind,.int .i64 c.int,.string c.str]
 have hx:Ext w (w.alloc (.cells #[.string c.var,.int .i64 c.op,.int .i64 c.kind,.int .i64 c.int,.string c.str] 53)):=(Ext.refl w).alloc _
 have HX:=zO hx
 obtain⟨z,hz⟩:∃z,z=decide (c.var=⟨#[]⟩):=⟨_,rfl⟩
 have hq:c.var.toList.isEmpty=z:=by
  rw[hz,Bool.eq_iff_iff,List.isEmpty_iff,decide_eq_true_eq]
  refine⟨fun e=>?_,fun e=>by rw[e];exact ByteArray.toList_eq _⟩
  rw[ByteArray.toList_eq]at e
  exact Go.WideShapes.bytes_inj (by rw[e])
 rw[←hz]
 obtain⟨cv,co,ck,ci,cs⟩:=c
 clear hz hx
 simp only at *
 go_enter Tryz.func119,Tryz.ntmps119
 go_upto_region 1 with fail
 change Bk (w.alloc (.cells #[.string cv,.int .i64 co,.int .i64 ck,.int .i64 ci,.string cs] 53)) _ _ _ at kb
 generalize (w.alloc (.cells #[.string cv,.int .i64 co,.int .i64 ck,.int .i64 ci,.string cs] 53))=w1 at *
 have b0:=kb.cell (i:=0) (by simp)
 simp only[ja]at b0
 clear kb
 go_wp2_with fail
 go_ret
 exact Ret.mk HX.out rfl
end Go.Proofs.YtplldnnnhgnbjaaGreatDoor
namespace Go.Proofs.YtplldnnnhgnbjaaGreatDoor
open Go.RowKit Go.Maps
theorem any_take{α : Type}{p : α→Bool}{l:List α}{i:Nat}(hi:i<l.length)(h:(l.take i).any p=false)(h1:p l[i]=false):(l.take (i+1)).any p=false:=by
 rw[jj hi,List.any_append,h,List.any_cons,h1]
 rfl
structure NgOk(m:Nat)(x:Ng):Prop where
 so:SoR x.rows
 len:x.vars.length=x.cs.length
 cl:x.vars.length≤1048576
 rl:x.rows.length≤1048576
 rr:∀r∈x.rows,r.length≤1048576
 lt:∀c∈x.vars,c<(m:Int)
def ngB(r:List Vl)(x:Ng):Bool:=hasR x.rows (imgR x.vars x.cs r)
set_option maxRecDepth 20000 in
set_option maxHeartbeats 1600000 in
theorem excn_any{F J:Nat→Prop}{w:World}{g:Nat}{R C K B:Option Addr}{cr cc ck d m nr nc nk:Nat}{x:Ng}{xs:List Vl}(hg:Bk w g 74 [.slice B m d])(hB:Sl rdVl J w (.slice B m d) xs)(hR:Sl rdRow F w (.slice R nr cr) x.rows)(hC:Ins F w (.slice C nc cc) x.vars)(hK:Sl rdVl F w (.slice K nk ck) x.cs)(hx:NgOk m x)(hm:m≤1048576) :
  Calls Tryz.prog 115 #[.agg #[.int .i64 x.ar,.slice R nr cr,.slice C nc cc,.slice K nk ck],.pointer (some ⟨g,0,none⟩)] w (Ret (fun y _=>y=.bool (ngB xs x)) w):=by
 have hnr:=hR.cap.1;have hnk:=hK.cap.1
 have hnc:nc=x.vars.length:=by
  obtain⟨A',c',e,-⟩:=hC
  injection e
 obtain rfl:nk=nc:=by have:=hx.len;omega
 have HE:=zO (fun (V:World) (hV:Ext w V)=>contains_neg (a:=x.ar) hx.so (hR.ext hV) (hC.ext hV) (hK.ext hV) (hB.ext hV) hx.lt (by have:=hx.cl;omega) hm hx.rr (by have:=hx.rl;omega))
 have g0:=hg.cell (i:=0) (by simp)
 simp only[ja]at g0
 obtain⟨ar,har⟩:∃z,z=x.ar:=⟨_,rfl⟩
 obtain⟨z,hz⟩:∃z,z=ngB xs x:=⟨_,rfl⟩
 have HZ:Hid (hasR x.rows (imgR x.vars x.cs xs)=z):=zO hz.symm
 rw[←har]at HE ⊢
 rw[←hz]
 rw[HZ.out]at HE
 have kb:=Bk.new w 220 [.int .i64 ar,.slice R nr cr,.slice C nk cc,.slice K nk ck]
 change Bk (w.alloc (.cells #[.int .i64 ar,.slice R nr cr,.slice C nk cc,.slice K nk ck] 220)) _ _ _ at kb
 have hx2:Ext w (w.alloc (.cells #[.int .i64 ar,.slice R nr cr,.slice C nk cc,.slice K nk ck] 220)):=(Ext.refl w).alloc _
 clear hg hB hR hC hK hx hnr hnk hnc har hz
 go_enter Tryz.func115,Tryz.ntmps115
 go_upto_region 1 with fail
 generalize (w.alloc (.cells #[.int .i64 ar,.slice R nr cr,.slice C nk cc,.slice K nk ck] 220))=w1 at *
 have HX:=zO hx2
 have k0:=kb.cell (i:=0) (by simp);have k1:=kb.cell (i:=1) (by simp);have k2:=kb.cell (i:=2) (by simp);have k3:=kb.cell (i:=3) (by simp)
 simp only[ja,je]at k0 k1 k2 k3
 replace g0:=hx2.cell g0
 clear kb hx2
 go_wp2_with fail
 refine(HE.out _ HX.out).mono ?_
 rintro e w2 ⟨y,rfl,he2,rfl⟩
 have HX2:=zO (HX.out.trans he2)
 clear he2 k0 k1 k2 k3 g0
 go_wp2_with fail
 go_ret
 exact Ret.mk HX2.out rfl
def IdxN(r:List Vl)(es:List Ng)(v:Value):Prop:=∃k:Int,v=.int .i64 k∧((k = -1∧es.any (ngB r)=false)∨(0≤k∧es.any (ngB r)=true))
set_option maxRecDepth 20000 in
set_option maxHeartbeats 1600000 in
theorem index_ng{F J:Nat→Prop}{w:World}{g:Nat}{A B:Option Addr}{n c m d:Nat}{es:List Ng}{xs:List Vl}(hg:Bk w g 74 [.slice B m d])(hB:Sl rdVl J w (.slice B m d) xs)(hE:Sl rdNg F w (.slice A n c) es)(hx:∀x∈es,NgOk m x)(hn:n≤1048576)(hm:m≤1048576) :
  Calls Tryz.prog 185 #[.slice A n c,.func (.func 115) #[] #[.pointer (some ⟨g,0,none⟩)]] w (Ret (fun y _=>IdxN xs es y) w):=by
 have hnl:=hE.cap.1
 have HN:=zO hnl;have HE:=zO hE;have HG:=zO hg;have HX:=zO hx;have HB:=zO hB
 clear hnl hE hg hx hB
 go_enter Tryz.func185,Tryz.ntmps185
 go_wp2_with fail
 go_loopw [8] (fun q wr=>∃i:Nat,i≤n∧q=.int .i64 (i:Int)∧Hid ((es.take i).any (ngB xs)=false)∧Hid (Ext w wr)) (fun q _=>n-(intOf q).toNat)
 case atStart=>exact⟨0,jn _,rfl,zO rfl,zO (Ext.refl _)⟩
 case round =>
  obtain⟨i,hi,rfl,HGO,HXW⟩:=hrel
  obtain⟨W,rfl⟩:∃W:World,W=wr:=⟨_,rfl⟩
  by_cases hlt:i<n
  ·have i1:(0:Int)≤(i:Int):=by omega
   have i2:(i:Int)<(n:Int):=by omega
   have hix:i<es.length:=by have:=HN.out;omega
   obtain⟨ad,R,cr,C,cc,K,ck,rfl,c0,c1,c2,c3,hR,hC,hK⟩:=HE.out.ng hix
   replace c0:=HXW.out.cell c0;replace c1:=HXW.out.cell c1;replace c2:=HXW.out.cell c2;replace c3:=HXW.out.cell c3
   have HC:=zO (excn_any (HG.out.ext HXW.out) (HB.out.ext HXW.out) (hR.ext HXW.out) (hC.ext HXW.out) (hK.ext HXW.out) (HX.out _ (jg hix)) hm)
   have hmem:=jg hix
   have hgo:ngB xs es[i]=false→(es.take (i+1)).any (ngB xs)=false:=any_take (p:=ngB xs) hix HGO.out
   obtain⟨x,hxx⟩:∃x,x=es[i]:=⟨_,rfl⟩
   rw[←hxx]at c0 c1 c2 c3 HC hmem hgo
   have HMEM:=zO hmem;have HGO2:=zO hgo
   clear hR hC hK hmem hgo hxx hix
   obtain⟨z,hz⟩:∃z,z=ngB xs x:=⟨_,rfl⟩
   rw[←hz]at HC
   have HZ:=zO hz
   clear hz
   generalize x.ar=ar at *
   generalize x.rows.length=nr at *
   generalize x.vars.length=nc at *
   generalize x.cs.length=nk at *
   go_wp2_with fail
   refine HC.out.mono ?_
   rintro e w2 ⟨y,rfl,he2,rfl⟩
   have HX2:=zO (HXW.out.trans he2)
   clear he2 c0 c1 c2 c3
   rcases z with _|_
   ·have HG2:=zO (HGO2.out HZ.out.symm)
    go_wp2_with fail
    go_roundw
    case rel=>exact⟨i+1,by omega,by go_num,HG2,HX2⟩
    case measure=>simp[intOf];omega
   ·have HA:Hid (es.any (ngB xs)=true):=zO (jL.2 ⟨x,HMEM.out,HZ.out.symm⟩)
    go_wp2_with fail
    go_ret
    exact Ret.mk HX2.out ⟨_,rfl,.inr ⟨i1,HA.out⟩⟩
  ·obtain rfl:i=n:=by omega
   have hdn:¬(i:Int)<(i:Int):=by omega
   have HA:Hid (es.any (ngB xs)=false):=zO (by
    have h:=HGO.out
    rw[jo (by have:=HN.out;omega)]at h
    exact h)
   go_wp2_with fail
   go_ret
   exact Ret.mk HXW.out ⟨_,rfl,.inl ⟨rfl,HA.out⟩⟩
set_option maxRecDepth 20000 in
set_option maxHeartbeats 1600000 in
theorem contains_ng{F J:Nat→Prop}{w:World}{g:Nat}{A B:Option Addr}{n c m d:Nat}{es:List Ng}{xs:List Vl}(hg:Bk w g 74 [.slice B m d])(hB:Sl rdVl J w (.slice B m d) xs)(hE:Sl rdNg F w (.slice A n c) es)(hx:∀x∈es,NgOk m x)(hn:n≤1048576)(hm:m≤1048576) :
  Calls Tryz.prog 117 #[.slice A n c,.func (.func 115) #[] #[.pointer (some ⟨g,0,none⟩)]] w (Ret (fun y _=>y=.bool (es.any (ngB xs))) w):=by
 have HI:=zO (index_ng hg hB hE hx hn hm)
 clear hg hB hE hx
 go_enter Tryz.func117,Tryz.ntmps117
 go_wp2_with fail
 refine HI.out.mono ?_
 rintro e w2 ⟨y,rfl,he2,r,rfl,hr⟩
 have HE2:=zO he2
 rcases hr with ⟨rfl,hr⟩|⟨hi,hr⟩
 ·have HR:=zO hr
  clear hr he2
  go_wp2_with fail
  go_ret
  exact Ret.mk HE2.out (by rw[HR.out];rfl)
 ·have HR:=zO hr
  have hle:decide ((0:Int)≤r)=true:=decide_eq_true hi
  clear hr he2
  go_wp2_with fail
  go_ret
  exact Ret.mk HE2.out (by rw[HR.out];rfl)
def nmB(c:Cd):Bool:=decide (c.var=⟨#[]⟩)
def IdxC(es:List Cd)(v:Value):Prop:=∃k:Int,v=.int .i64 k∧((k = -1∧es.any nmB=false)∨(0≤k∧es.any nmB=true))
set_option maxRecDepth 20000 in
set_option maxHeartbeats 1600000 in
theorem index_nm{F:Nat→Prop}{w:World}{A:Option Addr}{n c:Nat}{es:List Cd}(hE:Sl rdCd F w (.slice A n c) es)(hn:n≤1048576) :
  Calls Tryz.prog 186 #[.slice A n c,.func (.func 119) #[] #[]] w (Ret (fun y _=>IdxC es y) w):=by
 have hnl:=hE.cap.1
 have HN:=zO hnl;have HE:=zO hE
 clear hnl hE
 go_enter Tryz.func186,Tryz.ntmps186
 go_wp2_with fail
 go_loopw [8] (fun q wr=>∃i:Nat,i≤n∧q=.int .i64 (i:Int)∧Hid ((es.take i).any nmB=false)∧Hid (Ext w wr)) (fun q _=>n-(intOf q).toNat)
 case atStart=>exact⟨0,jn _,rfl,zO rfl,zO (Ext.refl _)⟩
 case round =>
  obtain⟨i,hi,rfl,HGO,HXW⟩:=hrel
  obtain⟨W,rfl⟩:∃W:World,W=wr:=⟨_,rfl⟩
  by_cases hlt:i<n
  ·have i1:(0:Int)≤(i:Int):=by omega
   have i2:(i:Int)<(n:Int):=by omega
   have hix:i<es.length:=by have:=HN.out;omega
   obtain⟨ad,rfl,-,d0,d1,d2,d3,d4⟩:=HE.out.cd hix
   replace d0:=HXW.out.cell d0;replace d1:=HXW.out.cell d1;replace d2:=HXW.out.cell d2;replace d3:=HXW.out.cell d3;replace d4:=HXW.out.cell d4
   have hmem:=jg hix
   have hgo:nmB es[i]=false→(es.take (i+1)).any nmB=false:=any_take (p:=nmB) hix HGO.out
   have HC:=zO (nameless_any (w:=W) (c:=es[i]))
   obtain⟨x,hxx⟩:∃x,x=es[i]:=⟨_,rfl⟩
   rw[←hxx]at d0 d1 d2 d3 d4 HC hmem hgo
   have HMEM:=zO hmem;have HGO2:=zO hgo
   obtain⟨z,hz⟩:∃z,z=nmB x:=⟨_,rfl⟩
   have hz2:decide (x.var=⟨#[]⟩)=z:=hz.symm
   rw[hz2]at HC
   have HZ:=zO hz
   obtain⟨cvr,cop,ckd,cit,cst⟩:=x
   simp only at d0 d1 d2 d3 d4 HC
   clear hmem hgo hxx hix hz hz2
   go_wp2_with fail
   refine HC.out.mono ?_
   rintro e w2 ⟨y,rfl,he2,rfl⟩
   have HX2:=zO (HXW.out.trans he2)
   clear he2 d0 d1 d2 d3 d4
   rcases z with _|_
   ·have HG2:=zO (HGO2.out HZ.out.symm)
    go_wp2_with fail
    go_roundw
    case rel=>exact⟨i+1,by omega,by go_num,HG2,HX2⟩
    case measure=>simp[intOf];omega
   ·have HA:Hid (es.any nmB=true):=zO (jL.2 ⟨_,HMEM.out,HZ.out.symm⟩)
    go_wp2_with fail
    go_ret
    exact Ret.mk HX2.out ⟨_,rfl,.inr ⟨i1,HA.out⟩⟩
  ·obtain rfl:i=n:=by omega
   have hdn:¬(i:Int)<(i:Int):=by omega
   have HA:Hid (es.any nmB=false):=zO (by
    have h:=HGO.out
    rw[jo (by have:=HN.out;omega)]at h
    exact h)
   go_wp2_with fail
   go_ret
   exact Ret.mk HXW.out ⟨_,rfl,.inl ⟨rfl,HA.out⟩⟩
set_option maxRecDepth 20000 in
set_option maxHeartbeats 1600000 in
theorem contains_nm{F:Nat→Prop}{w:World}{A:Option Addr}{n c:Nat}{es:List Cd}(hE:Sl rdCd F w (.slice A n c) es)(hn:n≤1048576) :
  Calls Tryz.prog 118 #[.slice A n c,.func (.func 119) #[] #[]] w (Ret (fun y _=>y=.bool (es.any nmB)) w):=by
 have HI:=zO (index_nm hE hn)
 clear hE
 go_enter Tryz.func118,Tryz.ntmps118
 go_wp2_with fail
 refine HI.out.mono ?_
 rintro e w2 ⟨y,rfl,he2,r,rfl,hr⟩
 have HE2:=zO he2
 rcases hr with ⟨rfl,hr⟩|⟨hi,hr⟩
 ·have HR:=zO hr
  clear hr he2
  go_wp2_with fail
  go_ret
  exact Ret.mk HE2.out (by rw[HR.out];rfl)
 ·have HR:=zO hr
  have hle:decide ((0:Int)≤r)=true:=decide_eq_true hi
  clear hr he2
  go_wp2_with fail
  go_ret
  exact Ret.mk HE2.out (by rw[HR.out];rfl)
end Go.Proofs.YtplldnnnhgnbjaaGreatDoor
