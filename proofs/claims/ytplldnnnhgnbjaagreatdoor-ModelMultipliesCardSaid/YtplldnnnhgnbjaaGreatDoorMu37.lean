/- packed -/
import Derived.Shelf.SlGeneric
import Derived.Shelf.SlSortCmp.Insertion1
import Derived.Ground.SlsfProg
import Derived.Test.YtplldnnnhgnbjaaGreatDoorProg
import Derived.Test.YtplldnnnhgnbjaaGreatDoorMu36
import Derived.Test.YtplldnnnhgnbjaaGreatDoorMu32
namespace Go.Proofs
open Go.Shelf
def Tryz.layInsRow_ren:Go.Shelf.Ren:=⟨fun|20=>188|n=>n,fun|24=>74|22=>38|3=>3|25=>128|4=>4|0=>0|n=>n,fun|n=>n⟩
theorem Tryz.layInsRow:Go.Proofs.SlLaysF.n20 Tryz.prog Tryz.layInsRow_ren:={
 mixed:=by kernel_rfl
 f20:=⟨Tryz.f188.name,by decide,Tryz.func188.trans (congrArg some (by kernel_rfl))⟩
 t0:=Tryz.underlying0
 a0:=Tryz.isAgg0
 z0:=Tryz.sizeOf0
 v0:=Tryz.zeroValue0
 t3:=Tryz.underlying3
 a3:=Tryz.isAgg3
 z3:=Tryz.sizeOf3
 v3:=Tryz.zeroValue3
 t4:=Tryz.underlying4
 a4:=Tryz.isAgg4
 z4:=Tryz.sizeOf4
 v4:=Tryz.zeroValue4
 t22:=Tryz.underlying38
 a22:=Tryz.isAgg38
 z22:=Tryz.sizeOf38
 v22:=Tryz.zeroValue38
 a24:=Tryz.isAgg74
 z24:=Tryz.sizeOf74
 t25:=Tryz.underlying128
 a25:=Tryz.isAgg128
 z25:=Tryz.sizeOf128
 v25:=Tryz.zeroValue128 }
end Go.Proofs
namespace Go.Proofs.YtplldnnnhgnbjaaGreatDoor
open Go.RowKit Go.Maps Go.Sort Go.Shelf Go.Lib
open Go.Proofs (Row1 SW CmpLays1 OneCell)
section
variable {α : Type} [Inhabited α] {enc : α→Value} {w0:World} {blk off:Nat} {d0:Array α}
theorem symMerge_any{cap cg:Nat}{cb:Array Value}{cf : α→α→Int}(R:Row1 enc w0 blk off d0)(eg:∀args w,(callFunc cg args).run Tryz.prog w=.ok (.enter cg args) w)(hC:CmpLays1 Tryz.prog cg cb enc cf blk off d0.size w0)(hsz:d0.size≤1048576):∀(N:Nat) {w:World} {a m b:Nat},b-a<N→SP enc w0 blk off d0 w→a<m→m<b→b≤d0.size →
  Calls Tryz.prog 248 #[.slice (some ⟨blk,off,none⟩) d0.size cap,.int .i64 (a:Int),.int .i64 (m:Int),.int .i64 (b:Int),.func (.func cg) #[] cb] w (fun e w'=>e=.returned (.tuple #[])∧SP enc w0 blk off d0 w')
 | 0,w,a,m,b,hN,_,ha,hm,_=>by omega
 | N+1,w,a,m,b,hN,hS,ha,hm,hb=>by
  have HREC:=fun (k:Nat) (hk:k≤N)=>zO (fun (V:World) (a2 m2 b2:Nat) (h1:b2-a2<k) (hV:SP enc w0 blk off d0 V) (h2:a2<m2) (h3:m2<b2) (h4:b2≤d0.size)=>symMerge_any (cap:=cap) R eg hC hsz N (by omega) hV h2 h3 h4)
  have HROT:=zO (fun (V:World) (a2 m2 b2:Nat) (hV:SP enc w0 blk off d0 V) (h2:a2<m2) (h3:m2<b2) (h4:b2≤d0.size)=>rotate_any (cap:=cap) (fv:=.func (.func cg) #[] cb) R hV h2 h3 h4 hsz)
  by_cases h1:m=a+1
  ·exact symA R eg hC hsz hS h1 hm hb
  ·by_cases h2:b=m+1
   ·exact symB R eg hC hsz hS h2 ha h1 hb
   ·by_cases h3:(a+b) / 2<m
    ·exact symC1 (md:=(a+b) / 2) (n:=(a+b) / 2+m) R eg hC hsz hS ha hm hb h1 h2 (by omega) (by omega) (by omega) (by omega) (by omega) h3 rfl (HREC (b-a) (by omega)) HROT
    ·exact symC2 (md:=(a+b) / 2) (n:=(a+b) / 2+m) R eg hC hsz hS ha hm hb h1 h2 (by omega) (by omega) (by omega) (by omega) (by omega) h3 rfl (HREC (b-a) (by omega)) HROT
theorem ins_any{w:World}{cap cg a b:Nat}{cb:Array Value}{cf : α→α→Int}(R:Row1 enc w0 blk off d0)(eg:∀args w,(callFunc cg args).run Tryz.prog w=.ok (.enter cg args) w)(hC:CmpLays1 Tryz.prog cg cb enc cf blk off d0.size w0)(hL:SWO (Go.Proofs.ltOf cf))(hS:SP enc w0 blk off d0 w)(hab:a≤b)(hb:b≤d0.size)(hsz:d0.size≤1048576) :
  Calls Tryz.prog 188 #[.slice (some ⟨blk,off,none⟩) d0.size cap,.int .i64 (a:Int),.int .i64 (b:Int),.func (.func cg) #[] cb] w (fun e w'=>e=.returned (.tuple #[])∧SP enc w0 blk off d0 w'):=by
 obtain⟨dk,hs,hp,S⟩:=hS
 have h:=Go.Proofs.Any.insertionSortCmpFunc_s Tryz.layInsRow enc cf cg cb blk off cap a b d0 dk w0 w eg hC R hs.symm S hab (by omega) (by omega)
 change Calls Tryz.prog 188 _ _ _ at h
 rw[hs]at h
 refine h.mono ?_
 rintro e w' ⟨rfl,h2⟩
 have h3:=(Go.Sort.insertionSort_holds hL dk a b hab (by omega)).1
 exact⟨rfl,_,by rw[h3.1,hs],Go.Sort.permIn_trans _ _ _ _ _ hp (Go.Sort.permIn_mono _ _ _ _ _ _ (jn _) hb (by omega) h3),h2⟩
set_option maxRecDepth 20000 in
set_option maxHeartbeats 3200000 in
theorem stable_any{w:World}{cap cg:Nat}{cb:Array Value}{cf : α→α→Int}(R:Row1 enc w0 blk off d0)(eg:∀args w,(callFunc cg args).run Tryz.prog w=.ok (.enter cg args) w)(hC:CmpLays1 Tryz.prog cg cb enc cf blk off d0.size w0)(hL:SWO (Go.Proofs.ltOf cf))(hS:SP enc w0 blk off d0 w)(hsz:d0.size≤1048576) :
  Calls Tryz.prog 200 #[.slice (some ⟨blk,off,none⟩) d0.size cap,.int .i64 (d0.size:Int),.func (.func cg) #[] cb] w (fun e w'=>e=.returned (.tuple #[])∧SP enc w0 blk off d0 w'):=by
 have HINS:=zO (fun (V:World) (a2 b2:Nat) (hV:SP enc w0 blk off d0 V) (h1:a2≤b2) (h2:b2≤d0.size)=>ins_any (cap:=cap) R eg hC hL hV h1 h2 hsz)
 have HSYM:=zO (fun (V:World) (a2 m2 b2:Nat) (hV:SP enc w0 blk off d0 V) (h1:a2<m2) (h2:m2<b2) (h3:b2≤d0.size)=>symMerge_any (cap:=cap) R eg hC hsz (b2-a2+1) (by omega) hV h1 h2 h3)
 obtain⟨n,hn⟩:∃q,q=d0.size:=⟨_,rfl⟩
 rw[←hn]at hsz HINS HSYM ⊢
 have HS:=zO hS
 clear hS hn hC hL
 go_enter Tryz.func200,Tryz.ntmps200
 go_wp2_with fail
 go_loopw [7,8] (fun s t wr=>∃a:Nat,a≤n∧s=.int .i64 (a:Int)∧t=.int .i64 ((a:Int)+20)∧Hid (SP enc w0 blk off d0 wr)) (fun s _ _=>n-(intOf s).toNat)
 case atStart=>exact⟨0,jn _,rfl,rfl,HS⟩
 case round =>
  obtain⟨a,ha,rfl,rfl,HP⟩:=hrel
  obtain⟨W,rfl⟩:∃W:World,W=wr:=⟨_,rfl⟩
  clear HS
  by_cases hlt:(a:Int)+20≤(n:Int)
  ·have e1:(a:Int)+20=((a+20:Nat):Int):=by omega
   have E1:=zO e1
   clear e1
   go_wp2_with fail
   rw[E1.out]
   refine(HINS.out _ a (a+20) HP.out (by omega) (by omega)).mono ?_
   rintro e w1 ⟨rfl,hq⟩
   have HQ:=zO hq
   clear hq
   rw[←E1.out]
   go_wp2_with fail
   go_roundw
   case rel=>exact⟨a+20,by omega,by go_num,by first|rfl|go_num|(congr 1;omega),HQ⟩
   case measure=>simp[intOf];omega
  ·go_wp2_with fail
   refine(HINS.out _ a n HP.out ha (by omega)).mono ?_
   rintro e w1 ⟨rfl,hq⟩
   have HS:=zO hq
   clear hq HP
   go_wp2_with fail
   go_loopw [6] (fun s wr=>∃b:Nat,1≤b∧b≤2097152∧s=.int .i64 (b:Int)∧Hid (SP enc w0 blk off d0 wr)) (fun s _=>2097152-(intOf s).toNat)
   case atStart=>exact⟨20,by omega,by omega,rfl,HS⟩
   case round =>
    obtain⟨b,hb1,hb2,rfl,HP⟩:=hrel
    obtain⟨W2,rfl⟩:∃W:World,W=wr:=⟨_,rfl⟩
    clear HS
    by_cases hbn:b<n
    ·have hbI:(b:Int)<(n:Int):=by omega
     go_wp2_with fail
     go_loopw [7,8] (fun s t wr=>∃c:Nat,c≤n∧s=.int .i64 (c:Int)∧t=.int .i64 ((c:Int)+2*(b:Int))∧Hid (SP enc w0 blk off d0 wr)) (fun s _ _=>n-(intOf s).toNat)
     case atStart=>exact⟨0,jn _,rfl,by first|rfl|go_num|(congr 1;omega),HP⟩
     case round =>
      obtain⟨c,hc,rfl,rfl,HR⟩:=hrel
      obtain⟨W3,rfl⟩:∃W:World,W=wr:=⟨_,rfl⟩
      clear HP
      have e1:(c:Int)+(b:Int)=((c+b:Nat):Int):=by omega
      have e2:(c:Int)+2*(b:Int)=((c+2*b:Nat):Int):=by omega
      have E1:=zO e1;have E2:=zO e2
      clear e1 e2
      by_cases hcn:(c:Int)+2*(b:Int)≤(n:Int)
      ·go_wp2_with fail
       rw[E1.out,E2.out]
       refine(HSYM.out _ c (c+b) (c+2*b) HR.out (by omega) (by omega) (by omega)).mono ?_
       rintro e w4 ⟨rfl,hq⟩
       have HQ:=zO hq
       clear hq
       rw[←E1.out,←E2.out]
       go_wp2_with fail
       go_roundw
       case rel=>exact⟨c+2*b,by omega,by rw[E2.out],by first|rfl|go_num|(congr 1;omega),HQ⟩
       case measure=>simp[intOf];omega
      ·by_cases hm:(c:Int)+(b:Int)<(n:Int)
       ·go_wp2_with fail
        rw[E1.out]
        refine(HSYM.out _ c (c+b) n HR.out (by omega) (by omega) (by omega)).mono ?_
        rintro e w4 ⟨rfl,hq⟩
        have HQ:=zO hq
        clear hq
        rw[←E1.out]
        go_wp2_with fail
        go_roundw
        case rel=>exact⟨b*2,by omega,by omega,by first|rfl|go_num|(congr 1;omega),HQ⟩
        case measure=>simp[intOf];omega
       ·go_wp2_with fail
        go_roundw
        case rel=>exact⟨b*2,by omega,by omega,by first|rfl|go_num|(congr 1;omega),HR⟩
        case measure=>simp[intOf];omega
    ·have hbI:¬(b:Int)<(n:Int):=by omega
     go_wp2_with fail
     go_end0
     exact⟨rfl,HP.out⟩
theorem sortStable_any{w:World}{cap cg:Nat}{cb:Array Value}{cf : α→α→Int}(R:Row1 enc w0 blk off d0)(eg:∀args w,(callFunc cg args).run Tryz.prog w=.ok (.enter cg args) w)(hC:CmpLays1 Tryz.prog cg cb enc cf blk off d0.size w0)(hL:SWO (Go.Proofs.ltOf cf))(hS:SP enc w0 blk off d0 w)(hsz:d0.size≤1048576) :
  Calls Tryz.prog 129 #[.slice (some ⟨blk,off,none⟩) d0.size cap,.func (.func cg) #[] cb] w (fun e w'=>e=.returned (.tuple #[])∧SP enc w0 blk off d0 w'):=by
 have H:=zO (stable_any (cap:=cap) R eg hC hL hS hsz)
 obtain⟨n,hn⟩:∃q,q=d0.size:=⟨_,rfl⟩
 rw[←hn]at H hsz ⊢
 clear hS hn hC hL
 go_enter Tryz.func129,Tryz.ntmps129
 go_wp2_with fail
 refine H.out.mono ?_
 rintro e w1 ⟨rfl,hq⟩
 have HQ:=zO hq
 clear hq
 go_wp2_with fail
 go_end0
 exact⟨rfl,HQ.out⟩
end
end Go.Proofs.YtplldnnnhgnbjaaGreatDoor
namespace Go.Proofs.YtplldnnnhgnbjaaGreatDoor
open Go.RowKit Go.Maps
section
variable {F:Nat→Prop} {w:World} {g:Nat}
def PrV(F:Nat→Prop)(w:World)(g:Nat):Type:={ p:Value×List Vl // Sl rdVl (fun k=>F k∧some g≠some k) w p.1 p.2∧p.2.length≤1048576 }
def PrV.enc(p:PrV F w g):Value:=p.1.1
def PrV.row(p:PrV F w g):List Vl:=p.1.2
def PrV.cf(p q:PrV F w g):Int:=cmpR p.row q.row
theorem PrV.one:Go.Proofs.OneCell (PrV.enc (F:=F) (w:=w) (g:=g)):=fun p=>by
 obtain⟨A,c,e⟩:=p.2.1.sl
 unfold PrV.enc
 rw[e]
 rfl
theorem PrV.swo:Go.Sort.SWO (Go.Proofs.ltOf (PrV.cf (F:=F) (w:=w) (g:=g))) where
 irrefl x:=by
  unfold Go.Proofs.ltOf PrV.cf
  rw[cmp_row.self]
  rfl
 trans x y z h1 h2:=by
  unfold Go.Proofs.ltOf PrV.cf at *
  rw[decide_eq_true_eq]at *
  exact cmp_row.trans _ _ _ h1 h2
 ntrans x y z h1 h2:=by
  unfold Go.Proofs.ltOf PrV.cf at *
  rw[decide_eq_false_iff_not]at *
  intro h3
  have a1:=cmp_row.anti x.row y.row
  have a2:=cmp_row.anti y.row z.row
  have a3:=cmp_row.anti x.row z.row
  have:=cmp_row.le_trans (a:=z.row) (b:=y.row) (d:=x.row) (by omega) (by omega)
  omega
end
section
variable {F:Nat→Prop} {w:World} {g:Nat}
instance:Inhabited (PrV F w g):=⟨⟨(.slice none 0 0,[]),Sl.nil _ _ _,by simp⟩⟩
end
theorem OwR.prs{F:Nat→Prop}{w:World}{base n g cap:Nat}{us:List Value}{rows:List (List Vl)}(h:OwR F w base (.slice (some ⟨g,0,none⟩) n cap) n us rows)(hr:∀x∈rows,x.length≤1048576):∃l:List (PrV F w g),l.map PrV.enc=us∧l.map PrV.row=rows:=by
 obtain⟨f,hf⟩:∃f:Fin rows.length→PrV F w g,∀i,PrV.enc (f i)=us[i.1]'(by have:=h.len;omega)∧PrV.row (f i)=rows[i.1]:=⟨fun i=>⟨(us[i.1]'(by have:=h.len;omega),rows[i.1]),h.rd i.1 i.2 (by have:=h.len;omega),hr _ (jg i.2)⟩,fun i=>⟨rfl,rfl⟩⟩
 refine⟨List.ofFn f,?_,?_⟩
 ·apply jY
  ·rw[jm,List.length_ofFn,h.len]
  ·intro i h1 h2
   rw[jy,List.getElem_ofFn,(hf _).1]
 ·apply jY
  ·rw[jm,List.length_ofFn]
  ·intro i h1 h2
   rw[jy,List.getElem_ofFn,(hf _).2]
def ClonesPost(n:Nat)(rows:List (List Vl))(w:World)(e:Ending)(w':World):Prop:=Ext w w'∧∃g us,w.heap.size≤g∧e=.returned (.slice (some ⟨g,0,none⟩) n n)∧OwR (fun k=>g<k) w' g (.slice (some ⟨g,0,none⟩) n n) n us rows
set_option maxRecDepth 20000 in
set_option maxHeartbeats 3200000 in
theorem clones_any{F:Nat→Prop}{w:World}{A:Option Addr}{n c:Nat}{rows:List (List Vl)}(hA:Sl rdRow F w (.slice A n c) rows)(hr:∀x∈rows,x.length≤1048576)(hn:n≤1048576) :
  Calls Tryz.prog 128 #[.slice A n c] w (ClonesPost n rows w):=by
 have hnl:=hA.cap.1
 have HA:=zO hA;have HR:=zO hr;have HNL:=zO hnl
 obtain⟨p0,hp0,hx0,hx1,hx2⟩:=info_parts info_row
 clear hA hr hnl
 go_enter Tryz.func128,Tryz.ntmps128
 go_upto_region 1 with fail
 obtain⟨w2,hrun,hown,hgrow⟩:=run_make_full (P:=Tryz.prog) w w.heap.size 38 74 p0 (.slice none 0 0) 1 Tryz.underlying38 hp0 hx0 hx1 .i64 .i64 n (by rw[hx2];omega) (by simp only[maxLen];omega) (jq _)
 have hwg:w.heap.size<w2.heap.size:=by
  rcases hown.2 with ⟨h0,-⟩|⟨g',cap',cur,e,hb,hc,-⟩
  ·cases h0
  ·injection e with e1
   injection e1 with e1
   injection e1 with e1
   have:=(jT.1 hc).1
   omega
 have hX2:Ext w w2:=(Ext.refl w).grown hgrow (fun k hk=>by cases hk)
 obtain⟨cur0,hcur0⟩:∃l,l=(madeCells (Value.cells (.slice none 0 0)) (n*1)).toList:=⟨_,rfl⟩
 rw[←hcur0]at hown
 have HOWN:=zO hown;have HX2:=zO hX2
 obtain⟨g,hg⟩:∃g,g=w.heap.size:=⟨_,rfl⟩
 rw[←hg]at HOWN hrun hwg
 have hwgl:w.heap.size≤g:=by omega
 have HWG:=zO hwgl
 clear hp0 hx0 hx1 hx2 hown hgrow hX2 hcur0 hg
 go_upto_region 2 with fail
 clear hrun
 go_wp2_with fail
 go_loopw [10] (fun t wr=>∃(j:Nat) (cur:List Value),j≤n∧t=.int .i64 (j:Int)∧Hid (wr.ownsRow g 74 1 (.slice (some ⟨g,0,none⟩) n n) n cur)∧Hid (∀q (h:q<rows.length) (h':q<cur.length),q<j→Sl rdVl (fun k=>g<k) wr cur[q] rows[q])∧Fr (fun b=>b=g) w2 wr) (fun t _=>n-(intOf t).toNat)
 case atStart=>exact⟨0,cur0,jn _,rfl,HOWN,zO (fun q h h' h0=>by omega),Fr.refl _ _⟩
 case round =>
  obtain⟨j,cur,hj,rfl,HOW,HRD,hfr⟩:=hrel
  obtain⟨W3,rfl⟩:∃W:World,W=wr:=⟨_,rfl⟩
  have HF:=zO hfr
  have hxw:Ext w W3:=hfr.new HX2.out (fun b hb=>by omega)
  have HXW:=zO hxw
  have hgl:g<W3.heap.size:=by have:=hfr.size;omega
  by_cases hlt:j<n
  ·have i1:(0:Int)≤(j:Int):=by omega
   have i2:(j:Int)<(n:Int):=by omega
   have hjr:j<rows.length:=by have:=HNL.out;omega
   obtain⟨ad,B,e,rfl,-,c0,hrow⟩:=HA.out.row hjr
   replace c0:=hxw.cell c0
   have hlen:=HR.out _ (jg hjr)
   obtain⟨xr,hxr⟩:∃q,q=rows[j]'hjr:=⟨_,rfl⟩
   rw[←hxr]at c0 hrow hlen
   have HXRJ:=zO hxr
   have HP:=zO (fun (V:World) (hV:Ext w V)=>clone_row (w:=V) (hrow.ext hV) hlen)
   obtain⟨⟨o0,p0⟩,f0⟩:=own_cellS HOW.out (i:=j) (by omega)
   obtain⟨nx,hnx⟩:∃q,q=xr.length:=⟨_,rfl⟩
   rw[←hnx]at c0 HP
   clear hrow hlen hnx hxr hfr hxw
   go_wp2_with fail
   refine(HP.out _ HXW.out).mono ?_
   rintro e w5 ⟨y,rfl,he5,A5,c5,rfl,hy⟩
   replace p0:=he5.cell p0
   have ho5:=own_ext' HOW.out he5
   have f5:=(own_cellS ho5 (i:=j) (by omega)).2
   have hy2:=hy.mono (G:=fun k=>g<k) (by decide) (fun k _ hk=>by omega)
   have hf6:=(HF.out.ext he5).setCell (p:=⟨g,j,none⟩) (.inl rfl) (.slice A5 nx c5)
   have ho6:=own_setc ho5 (i:=j) (by omega) (.slice A5 nx c5)
   have hst:Fr (fun k=>k=g) w5 (w5.setCell ⟨g,j,none⟩ (.slice A5 nx c5)):=(Fr.refl (fun k=>k=g) w5).setCell (p:=⟨g,j,none⟩) (.inl rfl) _
   have HF6:=zO hf6;have HO6:=zO ho6
   have HRD6:Hid (∀q (h:q<rows.length) (h':q<(cur.set j (.slice A5 nx c5)).length),q<j+1→Sl rdVl (fun k=>g<k) (w5.setCell ⟨g,j,none⟩ (.slice A5 nx c5)) (cur.set j (.slice A5 nx c5))[q] rows[q]):=zO (fun q h h' h0=>by
    by_cases hqj:q=j
    ·subst hqj
     rw[List.getElem_set_self,←HXRJ.out]
     exact hy2.fr hst (fun k hk e=>by omega)
    ·rw[List.getElem_set_ne (fun e=>hqj e.symm)]
     exact((HRD.out q h (by simpa using h') (by omega)).ext he5).fr hst (fun k hk e=>by omega))
   clear he5 ho5 hy hy2 hf6 ho6 hst f0 c0
   go_wp2_with fail
   go_roundw
   case rel=>exact⟨j+1,_,by omega,by go_num,HO6,HRD6,HF6.out⟩
   case measure=>simp[intOf];omega
  ·obtain rfl:j=n:=by omega
   have hdj:¬(j:Int)<(j:Int):=by omega
   have HQ:Hid (ClonesPost j rows w (.returned (.slice (some ⟨g,0,none⟩) j j)) W3):=zO ⟨HXW.out,g,cur,HWG.out,rfl,HOW.out,by have:=HOW.out.1;have:=HNL.out;omega,fun q h h'=>(HRD.out q h h' (by have:=HNL.out;omega)).mono (by decide) (fun k _ hk=>⟨hk,fun e=>by
    have e2:g=k:=by injection e
    omega⟩)⟩
   clear hfr hxw
   go_wp2_with fail
   go_ret
   exact HQ.out
theorem rsortcmp_any{F G:Nat→Prop}{w:World}{gb:Nat}{A B:Option Addr}{n c m d:Nat}{xs ys:List Vl}(hbox:w.cell? ⟨gb,0,none⟩=some (.slice none 0 0))(hA:Sl rdVl F w (.slice A n c) xs)(hB:Sl rdVl G w (.slice B m d) ys)(hn:n≤1048576)(hm:m≤1048576) :
  Calls Tryz.prog 130 #[.slice A n c,.slice B m d,.pointer (some ⟨gb,0,none⟩)] w (fun e w'=>e=.returned (.int .i64 (cmpR xs ys))∧Gr w w'):=by
 have H:=zO (rcompby_any hA hB hn hm)
 obtain⟨z,hz⟩:∃z,z=cmpR xs ys:=⟨_,rfl⟩
 rw[←hz]at H ⊢
 clear hA hB hz
 go_enter Tryz.func130,Tryz.ntmps130
 go_wp2_with fail
 refine H.out.mono ?_
 rintro e w1 ⟨rfl,hg⟩
 have HG:=zO hg
 clear hg
 go_wp2_with fail
 go_ret
 exact⟨rfl,HG.out⟩
def RSortPost(n:Nat)(rows:List (List Vl))(w:World)(e:Ending)(w':World):Prop:=Ext w w'∧∃g us rows',w.heap.size≤g∧e=.returned (.slice (some ⟨g,0,none⟩) n n)∧rows'.Perm rows∧OwR (fun k=>g<k) w' g (.slice (some ⟨g,0,none⟩) n n) n us rows'
theorem rsorted_own{F:Nat→Prop}{w:World}{base n g cap gb:Nat}{us:List Value}{rows:List (List Vl)}(h:OwR F w base (.slice (some ⟨g,0,none⟩) n cap) n us rows)(hbox:w.cell? ⟨gb,0,none⟩=some (.slice none 0 0))(hne:gb≠g)(hr:∀x∈rows,x.length≤1048576)(hn:n≤1048576) :
  Calls Tryz.prog 129 #[.slice (some ⟨g,0,none⟩) n cap,.func (.func 130) #[] #[.pointer (some ⟨gb,0,none⟩)]] w (fun e w'=>e=.returned (.tuple #[])∧w.grownBy w' (some g)∧∃us' rows',rows'.Perm rows∧OwR F w' base (.slice (some ⟨g,0,none⟩) n cap) n us' rows'):=by
 obtain⟨l,hl1,hl2⟩:=h.prs hr
 have hnu:=h.num
 have hll:l.length=n:=by rw[hnu,←hl1,jm]
 rcases h.own.2 with ⟨h0,-⟩|⟨g',cap',cur,e,hb,hc,h1,h2,h3,h4⟩
 ·cases h0
 injection e with e1 e2 e3
 injection e1 with e1
 injection e1 with e1
 subst e1 e3
 rw[Nat.mul_one]at h4
 have hh:=holds_own (l:=l) PrV.enc hc (by rw[hll,hl1,←h4])
 have hlt:g<w.heap.size:=(jT.1 hc).1
 have hcl:Go.Proofs.CmpLays1 Tryz.prog 130 #[.pointer (some ⟨gb,0,none⟩)] (PrV.enc (F:=F) (w:=w) (g:=g)) PrV.cf g 0 l.toArray.size w:=by
  intro m os dk _ x y
  have hf:=grown_fr (fr_sorted (w:=w) (g:=g) PrV.enc m dk os)
  obtain⟨⟨v1,r1⟩,q1,l1⟩:=x
  obtain⟨⟨v2,r2⟩,q2,l2⟩:=y
  simp only at q1 l1 q2 l2
  have k1:=q1.fr hf (fun k hk e=>hk.2 e)
  have k2:=q2.fr hf (fun k hk e=>hk.2 e)
  obtain⟨A,c,rfl⟩:=k1.sl
  obtain⟨B,d,rfl⟩:=k2.sl
  exact rsortcmp_any (hf.cell hbox (fun e=>hne (by injection e with e;exact e.symm))) k1 k2 l1 l2
 have hcon:=sortStable_any (cap:=cap) (d0:=l.toArray) (enc:=PrV.enc (F:=F) (w:=w) (g:=g)) ⟨PrV.one,hh,hlt⟩ (enters_of Tryz.func130 (by kernel_rfl) rfl) hcl PrV.swo ⟨_,rfl,Go.Sort.permIn_refl _ _ _,Go.Proofs.SW.start hh⟩ (by simp;omega)
 rw[show l.toArray.size=n by simp[hll]]at hcon
 refine hcon.mono ?_
 rintro e w' ⟨rfl,d',hsz,⟨-,-,hperm⟩,m,os,rfl⟩
 have hds:d'.size=n:=by rw[hsz];simp[hll]
 have hx1:(d'.extract 0 n).toList=d'.toList:=by rw[←hds];simp
 have hx2:(l.toArray.extract 0 n).toList=l:=by rw[←hll];simp
 rw[show l.toArray.size=n by simp[hll],hx1,hx2]at hperm
 have hg:w.grownBy (Go.Proofs.sortWorld PrV.enc w g 0 m d' os) (some g):=fr_sorted _ _ _ _
 refine⟨rfl,hg,d'.toList.map PrV.enc,d'.toList.map PrV.row,?_,own_sorted _ hds hb hc h1 h2 h3,by simp,fun i hi hi'=>?_⟩
 ·rw[←hl2]
  exact hperm.map _
 ·rw[jy,jy]
  exact(d'.toList[i]'(by simpa using hi)).2.1.fr (grown_fr hg) (fun k hk e=>hk.2 e)
set_option maxRecDepth 20000 in
set_option maxHeartbeats 1600000 in
theorem rsort_any{F:Nat→Prop}{w:World}{A:Option Addr}{n c:Nat}{rows:List (List Vl)}(hA:Sl rdRow F w (.slice A n c) rows)(hr:∀x∈rows,x.length≤1048576)(hn:n≤1048576) :
  Calls Tryz.prog 58 #[.slice A n c,.slice none 0 0] w (RSortPost n rows w):=by
 have kb:=Bk.new w 236 [.slice none 0 0]
 have hx:Ext w (w.alloc (.cells #[.slice none 0 0] 236)):=(Ext.refl w).alloc _
 change Bk (w.alloc (.cells #[.slice none 0 0] 236)) _ _ _ at kb
 have HCL:=zO (clones_any (hA.ext hx) hr hn)
 have HR:=zO hr
 go_enter Tryz.func58,Tryz.ntmps58
 go_upto_region 1 with fail
 generalize (w.alloc (.cells #[.slice none 0 0] 236))=w1 at *
 have HKB:=zO kb;have HX:=zO hx
 have hw1:w.heap.size<w1.heap.size:=kb.lt
 clear kb hx hA hr
 go_wp2_with fail
 refine HCL.out.mono ?_
 rintro e w2 ⟨he2,g,us,hg,rfl,how⟩
 have HOW:=zO how;have HE:=zO he2
 have hbx:=(HKB.out.ext he2).cell (i:=0) (by simp)
 simp only[ja]at hbx
 have HBX:=zO hbx
 clear how he2 hbx
 go_wp2_with fail
 refine(rsorted_own HOW.out HBX.out (by omega) HR.out hn).mono ?_
 rintro e w3 ⟨rfl,hgr,us',rows',hp,ho⟩
 have HQ:Hid (RSortPost n rows w (.returned (.slice (some ⟨g,0,none⟩) n n)) w3):=zO ⟨(HX.out.trans HE.out).grown hgr (fun k hk=>by injection hk with hk;omega),g,us',rows',by omega,rfl,hp,ho⟩
 clear hgr hp ho
 go_wp2_with fail
 go_ret
 exact HQ.out
end Go.Proofs.YtplldnnnhgnbjaaGreatDoor
namespace Go.Proofs.YtplldnnnhgnbjaaGreatDoor
open Go.RowKit Go.Maps
def AssignsPost(M:Dm)(r:Rl)(w:World)(e:Ending)(w':World):Prop :=
 Ext w w'∧((validE M r≠0∧e=.returned (.tuple #[.slice none 0 0,.int .i64 (validE M r)]))∨(validE M r=0∧∃A c L,e=.returned (.tuple #[.slice A (L:List (List Vl)).length c,.int .i64 0])∧L.length≤1500∧L.Nodup∧∀z,z∈L↔z.length=(varsC r).length∧satM M (varsC r) r z))
set_option maxRecDepth 100000 in
set_option maxHeartbeats 6400000 in
theorem assigns_any{F G H:Nat→Prop}{w:World}{sv vc:Value}{b nb:Nat}{r:Rl}{M:Dm}(hA:Ats F w sv r.ats)(hC:Sl rdCd G w vc r.cds)(hD:DbB H w b nb M)(hz:RlZ r)(hb0:r.ats.length≤90)(hb1:∀a∈r.ats,a.terms.length≤1000)(hb2:r.cds.length≤1000)(hd:DbOk M)(hh:prodA M (posL r)≤1500)(hv:(varsC r).length≤1048576)(htab:TabE w) :
  Calls Tryz.prog 20 #[.agg #[sv,vc],.agg #[.map (some b)]] w (AssignsPost M r w):=by
 obtain⟨Aa,na,ca,rfl⟩:∃A n c,sv=.slice A n c:=let ⟨A,c,e⟩:=hA.sl;⟨A,_,c,e⟩
 obtain⟨Ac,nc,cc,rfl⟩:∃A n c,vc=.slice A n c:=let ⟨A,c,e⟩:=hC.sl;⟨A,_,c,e⟩
 have k3:=three_blk w 46 33 38 [.slice Aa na ca,.slice Ac nc cc] [.map (some b)] [.slice none 0 0]
 have hx:=(((Ext.refl w).alloc (.cells #[.slice Aa na ca,.slice Ac nc cc] 46)).alloc (.cells #[.map (some b)] 33)).alloc (.cells #[.slice none 0 0] 38)
 have HEA:=fun (gr:Nat) (W:World) (hX:Ext w W) (hg:w.heap.size≤gr) (hb:Bk W gr 38 [.slice none 0 0])=>each_any (N:=1500) (wT:=w) (fid:=56) (caps:=#[.pointer (some ⟨gr,0,none⟩)]) (St:=AsgSt w.heap.size gr) (L:=[]) (O:=fun q=>q=gr) (hA.ext hX) (hC.ext hX) ((hD.mono (G:=fun k=>H k∧k<w.heap.size) (fun k h1 h2=>⟨h2,h1⟩)).ext hX) hz hb0 hb1 hb2 hd htab hX (fun _ _=>rfl) (fun gx h1 _ _=>asg_vis (jq _) (by omega) hv) (fun e L' hL hm=>by rw[zn,jW];exact sat_1500 hd e hh hL hm) ⟨fun _=>False,.slice none 0 0,[],⟨hb,OwR.nil _ _ _,fun h=>h⟩,(fun q hq=>by rw[hq];exact hb.lt),rfl,(fun _ h=>h.elim),(fun q hq=>by cases hq)⟩ (fun q hq=>by rw[hq];exact hb.lt) (fun q hq=>by rw[hq];exact hg) (fun k hk _ hO=>by have:=hk.2;omega)
 obtain⟨ev,hev⟩:∃x,x=validE M r:=⟨_,rfl⟩
 obtain⟨PP,hPP⟩:∃P,P=AssignsPost M r w:=⟨_,rfl⟩
 have HP1:Hid (∀V,Ext w V→ev≠0→PP (.returned (.tuple #[.slice none 0 0,.int .i64 ev])) V):=zO (fun V hV h0=>by rw[hPP,hev];exact⟨hV,.inl ⟨hev ▸ h0,rfl⟩⟩)
 have HP2:Hid (∀V (A:Option Addr) (n c:Nat) (L:List (List Vl)),Ext w V→ev=0→n=L.length→L.length≤1500→L.Nodup→(∀z,z∈L↔z.length=(varsC r).length∧satM M (varsC r) r z)→PP (.returned (.tuple #[.slice A n c,.int .i64 0])) V):=zO (fun V A n c L hV h0 hn h1 h2 h3=>by rw[hPP];subst hn;exact⟨hV,.inr ⟨by rw[←hev];exact h0,A,c,L,rfl,h1,h2,h3⟩⟩)
 have HSAT:Hid (∀L:List (List Vl),ev=0→L.Nodup→(∀z,z∈L↔z.length=(varsC r).length∧satM M (varsC r) r z)→L.length≤1500):=zO (fun L h0 h1 h2=>sat_1500 hd (by rw[←hev];exact h0) hh h1 h2)
 have HVL:Hid ((varsC r).length≤1048576):=zO hv
 rw[←hPP]
 have HEV:=zO hev;have HEAC:=zO HEA
 clear hA hC hD hz hb0 hb1 hb2 hd hh hv htab hPP hev HEA
 go_enter Tryz.func20,Tryz.ntmps20
 go_upto_region 2 with fail
 change Bk (((w.alloc (.cells #[.slice Aa na ca,.slice Ac nc cc] 46)).alloc (.cells #[.map (some b)] 33)).alloc (.cells #[.slice none 0 0] 38)) _ _ _∧Bk (((w.alloc (.cells #[.slice Aa na ca,.slice Ac nc cc] 46)).alloc (.cells #[.map (some b)] 33)).alloc (.cells #[.slice none 0 0] 38)) _ _ _∧Bk (((w.alloc (.cells #[.slice Aa na ca,.slice Ac nc cc] 46)).alloc (.cells #[.map (some b)] 33)).alloc (.cells #[.slice none 0 0] 38)) _ _ _ at k3
 generalize (((w.alloc (.cells #[.slice Aa na ca,.slice Ac nc cc] 46)).alloc (.cells #[.map (some b)] 33)).alloc (.cells #[.slice none 0 0] 38))=w1 at *
 obtain⟨kr,kd,kb⟩:=k3
 have a0:=kr.cell (i:=0) (by simp);have a1:=kr.cell (i:=1) (by simp);have a2:=kd.cell (i:=0) (by simp)
 simp only[ja,je]at a0 a1 a2
 obtain⟨gr,hgr⟩:∃g,g=w.heap.size+1+1:=⟨_,rfl⟩
 rw[←hgr]at kb ⊢
 have HE:=zO (HEAC.out gr w1 hx (by omega) kb)
 have HX:=zO hx
 have HGR:Hid (w.heap.size≤gr):=zO (by omega)
 clear kr kd kb hx hgr HEAC
 go_wp2_with fail
 refine HE.out.mono ?_
 rintro e w2 ⟨he,L,O,hS,hf,-,hL⟩
 rw[←HEV.out]at he hL
 subst he
 rw[jX]at hS
 obtain⟨F1,v,us,hB,-,-,-,-⟩:=hS
 have hx2:=hf.new HX.out (fun q hq=>by rw[hq];exact HGR.out)
 have HX2:=zO hx2;have HB:=zO hB
 clear hf hx2 hB a0 a1 a2
 by_cases h0:ev=0
 ·have g0:(ev != 0)=false:=by rw[h0];rfl
  obtain⟨L1,L2⟩:L.Nodup∧∀z,z∈L↔z.length=(varsC r).length∧satM M (varsC r) r z:=by
   rcases hL with ⟨h,-⟩|⟨-,h⟩
   ·exact absurd h0 h
   ·exact h
  have hl5:=HSAT.out L h0 L1 L2
  obtain⟨A3,c3,rfl⟩:=own_slice HB.out.own.own
  have hul:us.length=L.length:=HB.out.own.len
  have hsl:=HB.out.own.sl (F:=F1) (G:=fun _=>True) (fun _ _=>trivial) (fun _ _=>trivial)
  have hso:=rsort_any hsl (fun x hx=>by rw[((L2 x).1 hx).1];exact HVL.out) (by omega)
  have b0:=HB.out.box.cell (i:=0) (by simp)
  simp only[ja,je]at b0
  have HFIN:=zO (fun (V:World) (A:Option Addr) (c:Nat) (hV:Ext w2 V)=>HP2.out V A us.length c L (HX2.out.trans hV) h0 hul hl5 L1 L2)
  obtain⟨nu,hnu⟩:∃n,n=us.length:=⟨_,rfl⟩
  rw[←hnu]at b0 hso HFIN
  have HSO:=zO hso
  clear hL L1 L2 hl5 hul hsl hso hnu h0 HB
  go_wp2_with fail
  refine HSO.out.mono ?_
  rintro e w3 ⟨he3,g,us',rows',-,rfl,-,-⟩
  have HQ:=zO (HFIN.out w3 (some ⟨g,0,none⟩) nu he3)
  clear he3 b0
  go_wp2_with fail
  exact HQ.out
 ·have g0:(ev != 0)=true:=bne_iff_ne.2 h0
  have HP:=zO (HP1.out w2 HX2.out h0)
  clear h0 hL
  go_wp2_with fail
  exact HP.out
end Go.Proofs.YtplldnnnhgnbjaaGreatDoor
namespace Go.Proofs.YtplldnnnhgnbjaaGreatDoor
open Go.RowKit Go.Maps
theorem vl_beq(a c b d:Int)(s t:ByteArray):((a == c) && ((b == d) && (s == t)))=decide ((⟨a,b,s⟩:Vl)=⟨c,d,t⟩):=by
 rw[beq_toListBytes]
 by_cases h:s=t
 ·rw[str_eq h,Bool.eq_iff_iff]
  simp[h]
 ·rw[str_ne h,Bool.eq_iff_iff]
  simp[h]
set_option maxRecDepth 20000 in
set_option maxHeartbeats 3200000 in
theorem same23{F G:Nat→Prop}{w:World}{A B:Option Addr}{n c m d:Nat}{xs ys:List Vl}(h:Sl rdVl F w (.slice A n c) xs)(k:Sl rdVl G w (.slice B m d) ys)(hn:n≤1048576)(hm:m≤1048576) :
  Calls Tryz.prog 25 #[.slice A n c,.slice B m d] w (Ret (fun x _=>x=.bool (decide (xs=ys))) w):=by
 have hnx:=h.cap.1
 have hny:=k.cap.1
 by_cases hnm:n=m
 ·subst hnm
  obtain⟨q,hq⟩:∃q,q=decide (xs=ys):=⟨_,rfl⟩
  rw[←hq]
  have HQ:=zO hq
  have HA:=zO h;have HB:=zO k;have HN:=zO hnx;have HM:=zO hny
  clear h k hnx hny hq
  go_enter Tryz.func25,Tryz.ntmps25
  go_wp2_with fail
  go_loopw [5] (fun t wr=>∃i:Nat,i≤n∧t=.int .i64 (i:Int)∧Hid (xs.take i=ys.take i)∧Ext w wr) (fun t _=>n-(intOf t).toNat)
  case atStart=>exact⟨0,jn _,rfl,zO (by simp),Ext.refl _⟩
  case round =>
   obtain⟨i,hi,rfl,HE,hx⟩:=hrel
   have HX:=zO hx
   by_cases hlt:i<n
   ·have i1:(0:Int)≤(i:Int):=by omega
    have i2:(i:Int)<(n:Int):=by omega
    have hil:i<xs.length:=by have:=HN.out;omega
    have hjl:i<ys.length:=by have:=HM.out;omega
    obtain⟨ad,rfl,-,c0,c1,c2⟩:=HA.out.vl hil
    obtain⟨bd,rfl,-,d0,d1,d2⟩:=HB.out.vl hjl
    replace c0:=hx.cell c0;replace c1:=hx.cell c1;replace c2:=hx.cell c2;replace d0:=hx.cell d0;replace d1:=hx.cell d1;replace d2:=hx.cell d2
    have htx:xs.take (i+1)=xs.take i++[xs[i]]:=jj hil
    have hty:ys.take (i+1)=ys.take i++[ys[i]]:=jj hjl
    have HNE:Hid (xs[i]≠ys[i]→xs≠ys):=zO (fun h e=>h (by subst e;rfl))
    obtain⟨x,hxx⟩:∃x,x=xs[i]:=⟨_,rfl⟩
    obtain⟨y,hyy⟩:∃y,y=ys[i]:=⟨_,rfl⟩
    rw[←hxx]at c0 c1 c2 htx HNE
    rw[←hyy]at d0 d1 d2 hty HNE
    have HTX:=zO htx;have HTY:=zO hty
    obtain⟨kd,it,st⟩:=x
    obtain⟨kd2,it2,st2⟩:=y
    simp only at c0 c1 c2 d0 d1 d2
    have heq:=fun W=>eq_val W kd kd2 it it2 st st2
    rw[vl_beq]at heq
    obtain⟨r,hr⟩:∃r,r=decide ((⟨kd,it,st⟩:Vl)=⟨kd2,it2,st2⟩):=⟨_,rfl⟩
    rw[←hr]at heq
    have hqq:(⟨kd,it,st⟩:Vl)=⟨kd2,it2,st2⟩↔r=true:=by rw[hr];exact decide_eq_true_iff.symm
    clear hxx hyy hx htx hty hr
    rcases r with _|_
    ·have HV:Hid (q=false):=zO (by rw[HQ.out];exact decide_eq_false (HNE.out (fun e=>by simpa using hqq.1 e)))
     clear hqq
     go_upto_region 6 with fail
     go_quiet (fail)
     have HXQ:=zO (HX.out.drewN nq)
     generalize (wr.drewN nq)=w2 at *
     clear heq
     go_wp2_with fail
     go_ret
     exact Ret.mk HXQ.out (by rw[HV.out];rfl)
    ·have HE2:Hid (xs.take (i+1)=ys.take (i+1)):=zO (by rw[HTX.out,HTY.out,HE.out,hqq.2 rfl])
     clear hqq
     go_upto_region 6 with fail
     go_quiet (fail)
     have HXQ:=zO (HX.out.drewN nq)
     generalize (wr.drewN nq)=w2 at *
     clear heq
     go_wp2_with fail
     go_roundw
     case rel=>exact⟨i+1,by omega,by go_num,HE2,HXQ.out⟩
     case measure=>simp[intOf];omega
   ·obtain rfl:i=n:=by omega
    have hdi:¬(i:Int)<(i:Int):=by omega
    have HV:Hid (q=true):=zO (by
     rw[HQ.out]
     refine decide_eq_true ?_
     have h:=HE.out
     rwa [jo (by have:=HN.out;omega),jo (by have:=HM.out;omega)]at h)
    clear hx
    go_wp2_with fail
    go_ret
    exact Ret.mk HX.out (by rw[HV.out];rfl)
 ·have hb:((n:Int) != (m:Int))=true:=by rw[bne_iff_ne];omega
  have hb2:decide (xs=ys)=false:=decide_eq_false (fun e=>hnm (by rw[hnx,hny,e]))
  rw[hb2]
  clear h k hnx hny hnm
  go_enter Tryz.func25,Tryz.ntmps25
  go_wp2_with fail
  go_ret
  exact Ret.mk (Ext.refl _) rfl
set_option maxRecDepth 20000 in
set_option maxHeartbeats 3200000 in
theorem has23{F G:Nat→Prop}{w:World}{A B:Option Addr}{n c m d:Nat}{rows:List (List Vl)}{r:List Vl}(h:Sl rdRow F w (.slice A n c) rows)(k:Sl rdVl G w (.slice B m d) r)(hn:n≤1048576)(hm:m≤1048576)(hr:∀x∈rows,x.length≤1048576) :
  Calls Tryz.prog 55 #[.slice A n c,.slice B m d] w (Ret (fun x _=>x=.bool (decide (r∈rows))) w):=by
 have hnx:=h.cap.1
 obtain⟨q,hq⟩:∃q,q=decide (r∈rows):=⟨_,rfl⟩
 rw[←hq]
 have HQ:=zO hq;have HA:=zO h;have HB:=zO k;have HN:=zO hnx;have HR:=zO hr
 clear h k hnx hq hr
 go_enter Tryz.func55,Tryz.ntmps55
 go_wp2_with fail
 go_loopw [5] (fun t wr=>∃i:Nat,i≤n∧t=.int .i64 (i:Int)∧Hid (r ∉ rows.take i)∧Ext w wr) (fun t _=>n-(intOf t).toNat)
 case atStart=>exact⟨0,jn _,rfl,zO (by simp),Ext.refl _⟩
 case round =>
  obtain⟨i,hi,rfl,HE,hx⟩:=hrel
  have HX:=zO hx
  by_cases hlt:i<n
  ·have i1:(0:Int)≤(i:Int):=by omega
   have i2:(i:Int)<(n:Int):=by omega
   have hil:i<rows.length:=by have:=HN.out;omega
   obtain⟨ad,D,e,rfl,-,c0,hs⟩:=HA.out.row hil
   replace c0:=hx.cell c0
   have hxl:=HR.out _ (jg hil)
   have htx:rows.take (i+1)=rows.take i++[rows[i]]:=jj hil
   have HSM:=zO (fun (V:World) (hV:Ext w V)=>same23 (hs.ext hV) (HB.out.ext hV) hxl hm)
   have HMM:=zO (jg hil)
   obtain⟨x,hxx⟩:∃x,x=rows[i]:=⟨_,rfl⟩
   rw[←hxx]at c0 htx HSM HMM
   obtain⟨lx,hlx⟩:∃l,l=x.length:=⟨_,rfl⟩
   rw[←hlx]at c0 HSM
   have HTX:=zO htx
   rcases hrb:decide (x=r) with _|_
   ·have HE2:Hid (r ∉ rows.take (i+1)):=zO (by
     rw[HTX.out,jp]
     rintro(h|h)
     ·exact HE.out h
     ·exact of_decide_eq_false hrb (jt.1 h).symm)
    rw[hrb]at HSM
    clear hxx hlx hx htx hs hrb hxl
    go_wp2_with fail
    refine(HSM.out _ HX.out).mono ?_
    rintro e2 w2 ⟨v,rfl,he2,rfl⟩
    have HX2:=zO (HX.out.trans he2)
    clear he2
    go_wp2_with fail
    go_roundw
    case rel=>exact⟨i+1,by omega,by go_num,HE2,HX2.out⟩
    case measure=>simp[intOf];omega
   ·have HV:Hid (q=true):=zO (by rw[HQ.out];exact decide_eq_true (of_decide_eq_true hrb ▸ HMM.out))
    rw[hrb]at HSM
    clear hxx hlx hx htx hs hrb hxl
    go_wp2_with fail
    refine(HSM.out _ HX.out).mono ?_
    rintro e2 w2 ⟨v,rfl,he2,rfl⟩
    have HX2:=zO (HX.out.trans he2)
    clear he2
    go_wp2_with fail
    go_ret
    exact Ret.mk HX2.out (by rw[HV.out];rfl)
  ·obtain rfl:i=n:=by omega
   have hdi:¬(i:Int)<(i:Int):=by omega
   have HV:Hid (q=false):=zO (by
    rw[HQ.out]
    refine decide_eq_false ?_
    have h:=HE.out
    rwa [jo (by have:=HN.out;omega)]at h)
   clear hx
   go_wp2_with fail
   go_ret
   exact Ret.mk HX.out (by rw[HV.out];rfl)
set_option maxRecDepth 20000 in
set_option maxHeartbeats 800000 in
theorem index23{F:Nat→Prop}{w:World}{v:Value}{l:List ByteArray}{s:ByteArray}(h:Strs F w v l)(hl:l.length≤1000000) :
  Calls Tryz.prog 19 #[v,.string s] w (IdxAt l s w):=by
 obtain⟨A,c,rfl,hc,hat⟩:=h
 obtain⟨n,hn⟩:∃n,n=l.length:=⟨_,rfl⟩
 rw[←hn]at hc hl ⊢
 have HN:=zO hn;have HAT:=zO hat
 clear hn hat
 go_enter Tryz.func19,Tryz.ntmps19
 go_wp2_with fail
 go_loopw [5] (fun q wr=>∃i:Nat,i≤n∧q=.int .i64 (i:Int)∧(∀j (h:j<l.length),j<i→l[j]≠s)∧wr=w) (fun q _=>n-(intOf q).toNat)
 case atStart=>exact⟨0,jn _,rfl,fun _ _ h=>absurd h (by omega),rfl⟩
 case round =>
  obtain⟨i,hi,rfl,hgo,rfl⟩:=hrel
  have HGO:=zO hgo
  clear hgo
  by_cases hlt:i<n
  ·have i1:(0:Int)≤(i:Int):=by omega
   have i2:(i:Int)<(n:Int):=by omega
   have hix:i<l.length:=by have:=HN.out;omega
   obtain⟨ad,rfl,-,c0⟩:=HAT.out.str hix
   by_cases he:l[i]=s
   ·have HR:Hid ((i:Int)=idxI l s):=zO (idxI_at hix he (fun j h hj=>HGO.out j h hj)).symm
    rw[he]at c0
    clear he
    go_wp2_with fail
    go_ret
    exact⟨by rw[←HR.out];rfl,rfl⟩
   ·have HE:=zO he
    have HGO2:Hid (∀j (h:j<l.length),j<i+1→l[j]≠s):=zO (fun j h hj=>by
     by_cases e:j=i
     ·subst e
      exact HE.out
     ·exact HGO.out j h (by omega))
    have hs1:=str_ne he
    obtain⟨x,hx⟩:∃x,x=l[i]:=⟨_,rfl⟩
    rw[←hx]at c0 hs1
    clear he hx
    go_wp2_with fail
    go_roundw
    case rel=>exact⟨i+1,by omega,by go_num,HGO2.out,by trivial⟩
    case measure=>simp[intOf];omega
  ·obtain rfl:i=n:=by omega
   have hdi:¬(i:Int)<(i:Int):=by omega
   have HR:Hid (idxI l s = -1):=zO (by
    rw[idxI,if_neg]
    intro hm
    obtain⟨j,hj,e⟩:=jv hm
    exact HGO.out j hj (by have:=HN.out;omega) e)
   go_wp2_with fail
   go_ret
   exact⟨by rw[HR.out];rfl,rfl⟩
set_option maxRecDepth 20000 in
set_option maxHeartbeats 1600000 in
theorem sameall23{F G:Nat→Prop}{w:World}{A B:Option Addr}{n c m d:Nat}{xs ys:List (List Vl)}(h:Sl rdRow F w (.slice A n c) xs)(k:Sl rdRow G w (.slice B m d) ys)(hn:n≤1048576)(hm:m≤1048576)(hx:∀x∈xs,x.length≤1048576)(hy:∀x∈ys,x.length≤1048576) :
  Calls Tryz.prog 16 #[.slice A n c,.slice B m d] w (Ret (fun x _=>x=.bool (decide (xs=ys))) w):=by
 have hnx:=h.cap.1
 have hny:=k.cap.1
 by_cases hnm:n=m
 ·subst hnm
  obtain⟨q,hq⟩:∃q,q=decide (xs=ys):=⟨_,rfl⟩
  rw[←hq]
  have HQ:=zO hq
  have HA:=zO h;have HB:=zO k;have HN:=zO hnx;have HM:=zO hny;have HX:=zO hx;have HY:=zO hy
  clear h k hnx hny hq hx hy
  go_enter Tryz.func16,Tryz.ntmps16
  go_wp2_with fail
  go_loopw [5] (fun t wr=>∃i:Nat,i≤n∧t=.int .i64 (i:Int)∧Hid (xs.take i=ys.take i)∧Hid (Ext w wr)) (fun t _=>n-(intOf t).toNat)
  case atStart=>exact⟨0,jn _,rfl,zO (by simp),zO (Ext.refl _)⟩
  case round =>
   obtain⟨i,hi,rfl,HE,HX2⟩:=hrel
   obtain⟨W,rfl⟩:∃W:World,W=wr:=⟨_,rfl⟩
   by_cases hlt:i<n
   ·have i1:(0:Int)≤(i:Int):=by omega
    have i2:(i:Int)<(n:Int):=by omega
    have hil:i<xs.length:=by have:=HN.out;omega
    have hjl:i<ys.length:=by have:=HM.out;omega
    obtain⟨ad,B1,e1,rfl,-,c0,hr1⟩:=HA.out.row hil
    obtain⟨bd,B2,e2,rfl,-,d0,hr2⟩:=HB.out.row hjl
    have HS:=zO (fun (V:World) (hV:Ext w V)=>same23 (hr1.ext hV) (hr2.ext hV) (HX.out _ (jg hil)) (HY.out _ (jg hjl)))
    have htx:xs.take (i+1)=xs.take i++[xs[i]]:=jj hil
    have hty:ys.take (i+1)=ys.take i++[ys[i]]:=jj hjl
    have HNE:Hid (xs[i]≠ys[i]→xs≠ys):=zO (fun h e=>h (by subst e;rfl))
    obtain⟨x,hxx⟩:∃x,x=xs[i]:=⟨_,rfl⟩
    obtain⟨y,hyy⟩:∃y,y=ys[i]:=⟨_,rfl⟩
    rw[←hxx]at c0 htx HNE HS
    rw[←hyy]at d0 hty HNE HS
    have HTX:=zO htx;have HTY:=zO hty
    obtain⟨r,hr⟩:∃r,r=decide (x=y):=⟨_,rfl⟩
    rw[←hr]at HS
    have HQQ:Hid (x=y↔r=true):=zO (by rw[hr];exact decide_eq_true_iff.symm)
    obtain⟨n1,hn1⟩:∃n,n=x.length:=⟨_,rfl⟩
    obtain⟨n2,hn2⟩:∃n,n=y.length:=⟨_,rfl⟩
    rw[←hn1,←hn2]at HS
    rw[←hn1]at c0
    rw[←hn2]at d0
    clear hxx hyy htx hty hr hr1 hr2 hn1 hn2
    go_upto_region 6 with fail
    go_region_held3 (fun V=>Ext w V∧V.cell? (ad.add i)=some (.slice B1 n1 e1)∧V.cell? (bd.add i)=some (.slice B2 n2 e2)) ((refine(fun he=>⟨he,Ext.cell he c0,Ext.cell he d0⟩) ?_;refine Ext.trans HX2.out.drew ?_;first|exact Ext.refl _|assumption)) (first
     | (go_at_call 25;(with_reducible refine(HS.out _ (And.left (by assumption))).mono ?_);rintro e W2 ⟨v,rfl,he2,rfl⟩))
    have HX3:=zO (HX2.out.drew.trans he2)
    clear he2 c0 d0
    rcases r with _|_
    ·have HV:Hid (q=false):=zO (by rw[HQ.out];exact decide_eq_false (HNE.out (fun e=>by simpa using HQQ.out.1 e)))
     go_wp2_with fail
     go_ret
     exact Ret.mk HX3.out (by rw[HV.out];rfl)
    ·have HE2:Hid (xs.take (i+1)=ys.take (i+1)):=zO (by rw[HTX.out,HTY.out,HE.out,HQQ.out.2 rfl])
     go_wp2_with fail
     go_roundw
     case rel=>exact⟨i+1,by omega,by go_num,HE2,HX3⟩
     case measure=>simp[intOf];omega
   ·obtain rfl:i=n:=by omega
    have hdi:¬(i:Int)<(i:Int):=by omega
    have HV:Hid (q=true):=zO (by
     rw[HQ.out]
     refine decide_eq_true ?_
     have h:=HE.out
     rwa [jo (by have:=HN.out;omega),jo (by have:=HM.out;omega)]at h)
    go_wp2_with fail
    go_ret
    exact Ret.mk HX2.out (by rw[HV.out];rfl)
 ·have hb:((n:Int) != (m:Int))=true:=by rw[bne_iff_ne];omega
  have hb2:decide (xs=ys)=false:=decide_eq_false (fun e=>hnm (by rw[hnx,hny,e]))
  rw[hb2]
  clear h k hnx hny hnm hx hy
  go_enter Tryz.func16,Tryz.ntmps16
  go_wp2_with fail
  go_ret
  exact Ret.mk (Ext.refl _) rfl
end Go.Proofs.YtplldnnnhgnbjaaGreatDoor
