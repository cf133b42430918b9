/- packed -/
import Derived.Shelf.SlGeneric
import Derived.Shelf.SlSortCmp.Insertion1
import Derived.Ground.SlsfProg
import Derived.Test.YtplldnnnhgnbjaaGreatDoorProg
import Derived.Test.YtplldnnnhgnbjaaGreatDoorMv38
import Derived.Test.YtplldnnnhgnbjaaGreatDoorMv34
set_option maxRecDepth 100000
set_option maxHeartbeats 6400000
namespace Go.Proofs
open Go.Shelf
def Tryz.layInsRow_ren:Go.Shelf.Ren:=⟨fun|20=>188|n=>n,fun|24=>74|22=>38|3=>3|25=>128|4=>4|0=>0|n=>n,fun|n=>n⟩
theorem Tryz.layInsRow:Go.Proofs.SlLaysF.n20 Tryz.prog Tryz.layInsRow_ren:={
 mixed:=by kernel_rfl
 f20:=⟨Tryz.f188.name,by decide,Tryz.func188.trans (congrArg some (by kernel_rfl))⟩
 t0:=Tryz.underlying0
 a0:=Tryz.isAgg0
 z0:=Tryz.sizeOf0
 v0:=Tryz.zeroValue0
 t3:=Tryz.underlying3
 a3:=Tryz.isAgg3
 z3:=Tryz.sizeOf3
 v3:=Tryz.zeroValue3
 t4:=Tryz.underlying4
 a4:=Tryz.isAgg4
 z4:=Tryz.sizeOf4
 v4:=Tryz.zeroValue4
 t22:=Tryz.underlying38
 a22:=Tryz.isAgg38
 z22:=Tryz.sizeOf38
 v22:=Tryz.zeroValue38
 a24:=Tryz.isAgg74
 z24:=Tryz.sizeOf74
 t25:=Tryz.underlying128
 a25:=Tryz.isAgg128
 z25:=Tryz.sizeOf128
 v25:=Tryz.zeroValue128 }
end Go.Proofs
namespace Go.Proofs.YtplldnnnhgnbjaaGreatDoor
open Go.RowKit Go.Maps Go.Sort Go.Shelf Go.Lib
open Go.Proofs (Row1 SW CmpLays1 OneCell)
section
variable {α : Type} [Inhabited α] {enc : α→Value} {w0:World} {blk off:Nat} {d0:Array α}
theorem lv{cap cg:Nat}{cb:Array Value}{cf : α→α→Int}(R:Row1 enc w0 blk off d0)(eg:∀args w,(callFunc cg args).run Tryz.prog w=.ok (.enter cg args) w)(hC:CmpLays1 Tryz.prog cg cb enc cf blk off d0.size w0)(se:d0.size≤1048576):∀(N:Nat) {w:World} {a m b:Nat},b-a<N→SP enc w0 blk off d0 w→a<m→m<b→b≤d0.size →
  Calls Tryz.prog 248 #[.slice (some ⟨blk,off,none⟩) d0.size cap,.int .i64 (a:Int),.int .i64 (m:Int),.int .i64 (b:Int),.func (.func cg) #[] cb] w (fun e w'=>e=.returned (.tuple #[])∧SP enc w0 blk off d0 w')
 | 0,w,a,m,b,hN,_,ha,hm,_=>by omega
 | N+1,w,a,m,b,hN,hS,ha,hm,hb=>by
  have sg:=fun (k:Nat) (hk:k≤N)=>zN (fun (V:World) (a2 m2 b2:Nat) (h1:b2-a2<k) (hV:SP enc w0 blk off d0 V) (h2:a2<m2) (h3:m2<b2) (h4:b2≤d0.size)=>lv (cap:=cap) R eg hC se N (by omega) hV h2 h3 h4)
  have sh:=zN (fun (V:World) (a2 m2 b2:Nat) (hV:SP enc w0 blk off d0 V) (h2:a2<m2) (h3:m2<b2) (h4:b2≤d0.size)=>rotate_any (cap:=cap) (fv:=.func (.func cg) #[] cb) R hV h2 h3 h4 se)
  by_cases h1:m=a+1
  ·exact symA R eg hC se hS h1 hm hb
  ·by_cases h2:b=m+1
   ·exact symB R eg hC se hS h2 ha h1 hb
   ·by_cases h3:(a+b) / 2<m
    ·exact symC1 (md:=(a+b) / 2) (n:=(a+b) / 2+m) R eg hC se hS ha hm hb h1 h2 (by omega) (by omega) (by omega) (by omega) (by omega) h3 rfl (sg (b-a) (by omega)) sh
    ·exact symC2 (md:=(a+b) / 2) (n:=(a+b) / 2+m) R eg hC se hS ha hm hb h1 h2 (by omega) (by omega) (by omega) (by omega) (by omega) h3 rfl (sg (b-a) (by omega)) sh
theorem ins_any{w:World}{cap cg a b:Nat}{cb:Array Value}{cf : α→α→Int}(R:Row1 enc w0 blk off d0)(eg:∀args w,(callFunc cg args).run Tryz.prog w=.ok (.enter cg args) w)(hC:CmpLays1 Tryz.prog cg cb enc cf blk off d0.size w0)(hL:SWO (Go.Proofs.ltOf cf))(hS:SP enc w0 blk off d0 w)(se:a≤b)(hb:b≤d0.size)(sg:d0.size≤1048576) :
  Calls Tryz.prog 188 #[.slice (some ⟨blk,off,none⟩) d0.size cap,.int .i64 (a:Int),.int .i64 (b:Int),.func (.func cg) #[] cb] w (fun e w'=>e=.returned (.tuple #[])∧SP enc w0 blk off d0 w'):=by
 obtain⟨dk,hs,hp,S⟩:=hS
 have h:=Go.Proofs.Any.insertionSortCmpFunc_s Tryz.layInsRow enc cf cg cb blk off cap a b d0 dk w0 w eg hC R hs.symm S se (by omega) (by omega)
 change Calls Tryz.prog 188 _ _ _ at h
 rw[hs]at h
 refine h.mono ?_
 rintro e w' ⟨rfl,h2⟩
 have h3:=(Go.Sort.insertionSort_holds hL dk a b se (by omega)).1
 exact⟨rfl,_,by rw[h3.1,hs],Go.Sort.permIn_trans _ _ _ _ _ hp (Go.Sort.permIn_mono _ _ _ _ _ _ (jn _) hb (by omega) h3),h2⟩
theorem stable_any{w:World}{cap cg:Nat}{cb:Array Value}{cf : α→α→Int}(R:Row1 enc w0 blk off d0)(eg:∀args w,(callFunc cg args).run Tryz.prog w=.ok (.enter cg args) w)(hC:CmpLays1 Tryz.prog cg cb enc cf blk off d0.size w0)(hL:SWO (Go.Proofs.ltOf cf))(hS:SP enc w0 blk off d0 w)(sh:d0.size≤1048576) :
  Calls Tryz.prog 200 #[.slice (some ⟨blk,off,none⟩) d0.size cap,.int .i64 (d0.size:Int),.func (.func cg) #[] cb] w (fun e w'=>e=.returned (.tuple #[])∧SP enc w0 blk off d0 w'):=by
 have se:=zN (fun (V:World) (a2 b2:Nat) (hV:SP enc w0 blk off d0 V) (h1:a2≤b2) (h2:b2≤d0.size)=>ins_any (cap:=cap) R eg hC hL hV h1 h2 sh)
 have sg:=zN (fun (V:World) (a2 m2 b2:Nat) (hV:SP enc w0 blk off d0 V) (h1:a2<m2) (h2:m2<b2) (h3:b2≤d0.size)=>lv (cap:=cap) R eg hC sh (b2-a2+1) (by omega) hV h1 h2 h3)
 obtain⟨n,hn⟩:=sd d0.size
 rw[←hn]at sh se sg ⊢
 have HS:=zN hS
 clear hS hn hC hL
 go_enter Tryz.func200,Tryz.ntmps200
 go_wp2_with fail
 go_loopw [7,8] (fun s t wr=>∃a:Nat,a≤n∧s=.int .i64 (a:Int)∧t=.int .i64 ((a:Int)+20)∧Hid (SP enc w0 blk off d0 wr)) (fun s _ _=>n-(intOf s).toNat)
 case atStart=>exact⟨0,jn _,rfl,rfl,HS⟩
 case round =>
  obtain⟨a,ha,rfl,rfl,HP⟩:=hrel
  obtain⟨W,rfl⟩:∃W:World,W=wr:=⟨_,rfl⟩
  clear HS
  by_cases hlt:(a:Int)+20≤(n:Int)
  ·have e1:(a:Int)+20=((a+20:Nat):Int):=by omega
   have E1:=zN e1
   clear e1
   go_wp2_with fail
   rw[E1.out]
   refine(se.out _ a (a+20) HP.out (by omega) (by omega)).mono ?_
   rintro e w1 ⟨rfl,hq⟩
   have HQ:=zN hq
   clear hq
   rw[←E1.out]
   go_wp2_with fail
   go_roundw
   case rel=>exact⟨a+20,by omega,by go_num,by first|rfl|go_num|(congr 1;omega),HQ⟩
   case measure=>simp[intOf];omega
  ·go_wp2_with fail
   refine(se.out _ a n HP.out ha (by omega)).mono ?_
   rintro e w1 ⟨rfl,hq⟩
   have HS:=zN hq
   clear hq HP
   go_wp2_with fail
   go_loopw [6] (fun s wr=>∃b:Nat,1≤b∧b≤2097152∧s=.int .i64 (b:Int)∧Hid (SP enc w0 blk off d0 wr)) (fun s _=>2097152-(intOf s).toNat)
   case atStart=>exact⟨20,by omega,by omega,rfl,HS⟩
   case round =>
    obtain⟨b,sj,sp,rfl,HP⟩:=hrel
    obtain⟨W2,rfl⟩:∃W:World,W=wr:=⟨_,rfl⟩
    clear HS
    by_cases hbn:b<n
    ·have si:(b:Int)<(n:Int):=by omega
     go_wp2_with fail
     go_loopw [7,8] (fun s t wr=>∃c:Nat,c≤n∧s=.int .i64 (c:Int)∧t=.int .i64 ((c:Int)+2*(b:Int))∧Hid (SP enc w0 blk off d0 wr)) (fun s _ _=>n-(intOf s).toNat)
     case atStart=>exact⟨0,jn _,rfl,by first|rfl|go_num|(congr 1;omega),HP⟩
     case round =>
      obtain⟨c,hc,rfl,rfl,HR⟩:=hrel
      obtain⟨W3,rfl⟩:∃W:World,W=wr:=⟨_,rfl⟩
      clear HP
      have e1:(c:Int)+(b:Int)=((c+b:Nat):Int):=by omega
      have e2:(c:Int)+2*(b:Int)=((c+2*b:Nat):Int):=by omega
      have E1:=zN e1;have E2:=zN e2
      clear e1 e2
      by_cases hcn:(c:Int)+2*(b:Int)≤(n:Int)
      ·go_wp2_with fail
       rw[E1.out,E2.out]
       refine(sg.out _ c (c+b) (c+2*b) HR.out (by omega) (by omega) (by omega)).mono ?_
       rintro e w4 ⟨rfl,hq⟩
       have HQ:=zN hq
       clear hq
       rw[←E1.out,←E2.out]
       go_wp2_with fail
       go_roundw
       case rel=>exact⟨c+2*b,by omega,by rw[E2.out],by first|rfl|go_num|(congr 1;omega),HQ⟩
       case measure=>simp[intOf];omega
      ·by_cases hm:(c:Int)+(b:Int)<(n:Int)
       ·go_wp2_with fail
        rw[E1.out]
        refine(sg.out _ c (c+b) n HR.out (by omega) (by omega) (by omega)).mono ?_
        rintro e w4 ⟨rfl,hq⟩
        have HQ:=zN hq
        clear hq
        rw[←E1.out]
        go_wp2_with fail
        go_roundw
        case rel=>exact⟨b*2,by omega,by omega,by first|rfl|go_num|(congr 1;omega),HQ⟩
        case measure=>simp[intOf];omega
       ·go_wp2_with fail
        go_roundw
        case rel=>exact⟨b*2,by omega,by omega,by first|rfl|go_num|(congr 1;omega),HR⟩
        case measure=>simp[intOf];omega
    ·have si:¬(b:Int)<(n:Int):=by omega
     go_wp2_with fail
     go_end0
     exact⟨rfl,HP.out⟩
theorem n8{w:World}{cap cg:Nat}{cb:Array Value}{cf : α→α→Int}(R:Row1 enc w0 blk off d0)(eg:∀args w,(callFunc cg args).run Tryz.prog w=.ok (.enter cg args) w)(hC:CmpLays1 Tryz.prog cg cb enc cf blk off d0.size w0)(hL:SWO (Go.Proofs.ltOf cf))(hS:SP enc w0 blk off d0 w)(se:d0.size≤1048576) :
  Calls Tryz.prog 129 #[.slice (some ⟨blk,off,none⟩) d0.size cap,.func (.func cg) #[] cb] w (fun e w'=>e=.returned (.tuple #[])∧SP enc w0 blk off d0 w'):=by
 have H:=zN (stable_any (cap:=cap) R eg hC hL hS se)
 obtain⟨n,hn⟩:=sd d0.size
 rw[←hn]at H se ⊢
 clear hS hn hC hL
 go_enter Tryz.func129,Tryz.ntmps129
 go_wp2_with fail
 refine H.out.mono ?_
 rintro e w1 ⟨rfl,hq⟩
 have HQ:=zN hq
 clear hq
 go_wp2_with fail
 go_end0
 exact⟨rfl,HQ.out⟩
end
end Go.Proofs.YtplldnnnhgnbjaaGreatDoor
namespace Go.Proofs.YtplldnnnhgnbjaaGreatDoor
open Go.RowKit Go.Maps
section
variable {F:Nat→Prop} {w:World} {g:Nat}
def PrV(F:Nat→Prop)(w:World)(g:Nat):Type:={ p:Value×List Vl // Sl aM (fun k=>F k∧some g≠some k) w p.1 p.2∧p.2.length≤1048576 }
def PrV.enc(p:PrV F w g):Value:=p.1.1
def PrV.row(p:PrV F w g):List Vl:=p.1.2
def PrV.cf(p q:PrV F w g):Int:=dh p.row q.row
theorem PrV.one:Go.Proofs.OneCell (PrV.enc (F:=F) (w:=w) (g:=g)):=fun p=>by
 obtain⟨A,c,e⟩:=p.2.1.sl
 unfold PrV.enc
 rw[e]
 rfl
theorem PrV.swo:Go.Sort.SWO (Go.Proofs.ltOf (PrV.cf (F:=F) (w:=w) (g:=g))) where
 irrefl x:=by
  unfold Go.Proofs.ltOf PrV.cf
  rw[bG.self]
  rfl
 trans x y z h1 h2:=by
  unfold Go.Proofs.ltOf PrV.cf at *
  rw[decide_eq_true_eq]at *
  exact bG.trans _ _ _ h1 h2
 ntrans x y z h1 h2:=by
  unfold Go.Proofs.ltOf PrV.cf at *
  rw[decide_eq_false_iff_not]at *
  intro h3
  have a1:=bG.anti x.row y.row
  have a2:=bG.anti y.row z.row
  have a3:=bG.anti x.row z.row
  have:=bG.le_trans (a:=z.row) (b:=y.row) (d:=x.row) (by omega) (by omega)
  omega
end
section
variable {F:Nat→Prop} {w:World} {g:Nat}
instance:Inhabited (PrV F w g):=⟨⟨(.slice none 0 0,[]),Sl.nil _ _ _,by simp⟩⟩
end
theorem OwR.prs{F:Nat→Prop}{w:World}{base n g cap:Nat}{us:List Value}{rows:List (List Vl)}(h:OwR F w base (.slice (some ⟨g,0,none⟩) n cap) n us rows)(hr:∀x∈rows,x.length≤1048576):∃l:List (PrV F w g),l.map PrV.enc=us∧l.map PrV.row=rows:=by
 obtain⟨f,hf⟩:∃f:Fin rows.length→PrV F w g,∀i,PrV.enc (f i)=us[i.1]'(by have:=h.len;omega)∧PrV.row (f i)=rows[i.1]:=⟨fun i=>⟨(us[i.1]'(by have:=h.len;omega),rows[i.1]),h.rd i.1 i.2 (by have:=h.len;omega),hr _ (jf i.2)⟩,fun i=>⟨rfl,rfl⟩⟩
 refine⟨List.ofFn f,?_,?_⟩
 ·apply zf
  ·rw[jk,List.length_ofFn,h.len]
  ·intro i h1 h2
   rw[jy,List.getElem_ofFn,(hf _).1]
 ·apply zf
  ·rw[jk,List.length_ofFn]
  ·intro i h1 h2
   rw[jy,List.getElem_ofFn,(hf _).2]
def mQ(n:Nat)(rows:List (List Vl))(w:World)(e:Ending)(w':World):Prop:=Ext w w'∧∃g us,w.heap.size≤g∧e=.returned (.slice (some ⟨g,0,none⟩) n n)∧OwR (fun k=>g<k) w' g (.slice (some ⟨g,0,none⟩) n n) n us rows
theorem clones_any{F:Nat→Prop}{w:World}{A:Option Addr}{n c:Nat}{rows:List (List Vl)}(hA:Sl aG F w (.slice A n c) rows)(hr:∀x∈rows,x.length≤1048576)(hn:n≤1048576) :
  Calls Tryz.prog 128 #[.slice A n c] w (mQ n rows w):=by
 have sN:=hA.cap.1
 have HA:=zN hA;have HR:=zN hr;have sA:=zN sN
 obtain⟨p0,sQ,hx0,hx1,hx2⟩:=info_parts fD
 clear hA hr sN
 go_enter Tryz.func128,Tryz.ntmps128
 go_upto_region 1 with fail
 obtain⟨w2,sw,se,si⟩:=run_make_full (P:=Tryz.prog) w w.heap.size 38 74 p0 (.slice none 0 0) 1 Tryz.underlying38 sQ hx0 hx1 .i64 .i64 n (by rw[hx2];omega) (by simp only[maxLen];omega) (jo _)
 have sX:w.heap.size<w2.heap.size:=by
  rcases se.2 with ⟨h0,-⟩|⟨g',sW,sg,e,hb,hc,-⟩
  ·cases h0
  ·injection e with e1
   injection e1 with e1
   injection e1 with e1
   have:=(jR.1 hc).1
   omega
 have sL:Ext w w2:=(Ext.refl w).grown si (fun k hk=>by cases hk)
 obtain⟨sD,sh⟩:=sd ((madeCells (Value.cells (.slice none 0 0)) (n*1)).toList)
 rw[←sh]at se
 have sq:=zN se;have sV:=zN sL
 obtain⟨g,hg⟩:=sd w.heap.size
 rw[←hg]at sq sw sX
 have sH:w.heap.size≤g:=by omega
 have sU:=zN sH
 clear sQ hx0 hx1 hx2 se si sL sh hg
 go_upto_region 2 with fail
 clear sw
 go_wp2_with fail
 go_loopw [10] (fun t wr=>∃(j:Nat) (sg:List Value),j≤n∧t=.int .i64 (j:Int)∧Hid (wr.ownsRow g 74 1 (.slice (some ⟨g,0,none⟩) n n) n sg)∧Hid (∀q (h:q<rows.length) (h':q<sg.length),q<j→Sl aM (fun k=>g<k) wr sg[q] rows[q])∧Fr (fun b=>b=g) w2 wr) (fun t _=>n-(intOf t).toNat)
 case atStart=>exact⟨0,sD,jn _,rfl,sq,zN (fun q h h' h0=>by omega),Fr.refl _ _⟩
 case round =>
  obtain⟨j,sg,hj,rfl,sx,sJ,su⟩:=hrel
  obtain⟨W3,rfl⟩:∃W:World,W=wr:=⟨_,rfl⟩
  have HF:=zN su
  have sy:Ext w W3:=su.new sV.out (fun b hb=>by omega)
  have sK:=zN sy
  have sZ:g<W3.heap.size:=by have:=su.size;omega
  by_cases hlt:j<n
  ·have i1:(0:Int)≤(j:Int):=by omega
   have i2:(j:Int)<(n:Int):=by omega
   have sE:j<rows.length:=by have:=sA.out;omega
   obtain⟨ad,B,e,rfl,-,c0,sp⟩:=HA.out.row sE
   replace c0:=sy.cell c0
   have sj:=HR.out _ (jf sE)
   obtain⟨xr,sI⟩:=sd (rows[j]'sE)
   rw[←sI]at c0 sp sj
   have sC:=zN sI
   have HP:=zN (fun (V:World) (hV:Ext w V)=>iz (w:=V) (sp.ext hV) sj)
   obtain⟨⟨o0,p0⟩,f0⟩:=bt sx.out (i:=j) (by omega)
   obtain⟨nx,sO⟩:=sd xr.length
   rw[←sO]at c0 HP
   clear sp sj sO sI su sy
   go_wp2_with fail
   refine(HP.out _ sK.out).mono ?_
   rintro e w5 ⟨y,rfl,sr,A5,c5,rfl,hy⟩
   replace p0:=sr.cell p0
   have sF:=aD sx.out sr
   have f5:=(bt sF (i:=j) (by omega)).2
   have sR:=hy.mono (G:=fun k=>g<k) (by decide) (fun k _ hk=>by omega)
   have sM:=(HF.out.ext sr).setCell (p:=⟨g,j,none⟩) (.inl rfl) (.slice A5 nx c5)
   have sP:=bZ sF (i:=j) (by omega) (.slice A5 nx c5)
   have sG:Fr (fun k=>k=g) w5 (w5.setCell ⟨g,j,none⟩ (.slice A5 nx c5)):=(Fr.refl (fun k=>k=g) w5).setCell (p:=⟨g,j,none⟩) (.inl rfl) _
   have sS:=zN sM;have sT:=zN sP
   have sB:Hid (∀q (h:q<rows.length) (h':q<(sg.set j (.slice A5 nx c5)).length),q<j+1→Sl aM (fun k=>g<k) (w5.setCell ⟨g,j,none⟩ (.slice A5 nx c5)) (sg.set j (.slice A5 nx c5))[q] rows[q]):=zN (fun q h h' h0=>by
    by_cases hqj:q=j
    ·subst hqj
     rw[List.getElem_set_self,←sC.out]
     exact sR.fr sG (fun k hk e=>by omega)
    ·rw[List.getElem_set_ne (fun e=>hqj e.symm)]
     exact((sJ.out q h (by simpa using h') (by omega)).ext sr).fr sG (fun k hk e=>by omega))
   clear sr sF hy sR sM sP sG f0 c0
   go_wp2_with fail
   go_roundw
   case rel=>exact⟨j+1,_,by omega,by go_num,sT,sB,sS.out⟩
   case measure=>simp[intOf];omega
  ·obtain rfl:j=n:=by omega
   have sY:¬(j:Int)<(j:Int):=by omega
   have HQ:Hid (mQ j rows w (.returned (.slice (some ⟨g,0,none⟩) j j)) W3):=zN ⟨sK.out,g,sg,sU.out,rfl,sx.out,by have:=sx.out.1;have:=sA.out;omega,fun q h h'=>(sJ.out q h h' (by have:=sA.out;omega)).mono (by decide) (fun k _ hk=>⟨hk,fun e=>by
    have e2:g=k:=by injection e
    omega⟩)⟩
   clear su sy
   go_wp2_with fail
   go_ret
   exact HQ.out
theorem qb{F G:Nat→Prop}{w:World}{gb:Nat}{A B:Option Addr}{n c m d:Nat}{xs ys:List Vl}(se:w.cell? ⟨gb,0,none⟩=some (.slice none 0 0))(hA:Sl aM F w (.slice A n c) xs)(hB:Sl aM G w (.slice B m d) ys)(hn:n≤1048576)(hm:m≤1048576) :
  Calls Tryz.prog 130 #[.slice A n c,.slice B m d,.pointer (some ⟨gb,0,none⟩)] w (fun e w'=>e=.returned (.int .i64 (dh xs ys))∧Gr w w'):=by
 have H:=zN (ik hA hB hn hm)
 obtain⟨z,hz⟩:=sd (dh xs ys)
 rw[←hz]at H ⊢
 clear hA hB hz
 go_enter Tryz.func130,Tryz.ntmps130
 go_wp2_with fail
 refine H.out.mono ?_
 rintro e w1 ⟨rfl,hg⟩
 have HG:=zN hg
 clear hg
 go_wp2_with fail
 go_ret
 exact⟨rfl,HG.out⟩
def oJ(n:Nat)(rows:List (List Vl))(w:World)(e:Ending)(w':World):Prop:=Ext w w'∧∃g us rows',w.heap.size≤g∧e=.returned (.slice (some ⟨g,0,none⟩) n n)∧rows'.Perm rows∧OwR (fun k=>g<k) w' g (.slice (some ⟨g,0,none⟩) n n) n us rows'
theorem rC{F:Nat→Prop}{w:World}{base n g cap gb:Nat}{us:List Value}{rows:List (List Vl)}(h:OwR F w base (.slice (some ⟨g,0,none⟩) n cap) n us rows)(si:w.cell? ⟨gb,0,none⟩=some (.slice none 0 0))(sx:gb≠g)(hr:∀x∈rows,x.length≤1048576)(hn:n≤1048576) :
  Calls Tryz.prog 129 #[.slice (some ⟨g,0,none⟩) n cap,.func (.func 130) #[] #[.pointer (some ⟨gb,0,none⟩)]] w (fun e w'=>e=.returned (.tuple #[])∧w.grownBy w' (some g)∧∃us' rows',rows'.Perm rows∧OwR F w' base (.slice (some ⟨g,0,none⟩) n cap) n us' rows'):=by
 obtain⟨l,sp,su⟩:=h.prs hr
 have sy:=h.num
 have sh:l.length=n:=by rw[sy,←sp,jk]
 rcases h.own.2 with ⟨h0,-⟩|⟨g',sq,sB,e,hb,hc,h1,h2,h3,h4⟩
 ·cases h0
 injection e with e1 e2 e3
 injection e1 with e1
 injection e1 with e1
 subst e1 e3
 rw[Nat.mul_one]at h4
 have hh:=oZ (l:=l) PrV.enc hc (by rw[sh,sp,←h4])
 have sw:g<w.heap.size:=(jR.1 hc).1
 have sr:Go.Proofs.CmpLays1 Tryz.prog 130 #[.pointer (some ⟨gb,0,none⟩)] (PrV.enc (F:=F) (w:=w) (g:=g)) PrV.cf g 0 l.toArray.size w:=by
  intro m os dk _ x y
  have hf:=am (iB (w:=w) (g:=g) PrV.enc m dk os)
  obtain⟨⟨v1,r1⟩,q1,l1⟩:=x
  obtain⟨⟨v2,r2⟩,q2,l2⟩:=y
  simp only at q1 l1 q2 l2
  have k1:=q1.fr hf (fun k hk e=>hk.2 e)
  have k2:=q2.fr hf (fun k hk e=>hk.2 e)
  obtain⟨A,c,rfl⟩:=k1.sl
  obtain⟨B,d,rfl⟩:=k2.sl
  exact qb (hf.cell si (fun e=>sx (by injection e with e;exact e.symm))) k1 k2 l1 l2
 have sg:=n8 (cap:=cap) (d0:=l.toArray) (enc:=PrV.enc (F:=F) (w:=w) (g:=g)) ⟨PrV.one,hh,sw⟩ (enters_of Tryz.func130 (by kernel_rfl) rfl) sr PrV.swo ⟨_,rfl,Go.Sort.permIn_refl _ _ _,Go.Proofs.SW.start hh⟩ (by simp;omega)
 rw[show l.toArray.size=n by simp[sh]]at sg
 refine sg.mono ?_
 rintro e w' ⟨rfl,d',sA,⟨-,-,se⟩,m,os,rfl⟩
 have sj:d'.size=n:=by rw[sA];simp[sh]
 have hx1:(d'.extract 0 n).toList=d'.toList:=by rw[←sj];simp
 have hx2:(l.toArray.extract 0 n).toList=l:=by rw[←sh];simp
 rw[show l.toArray.size=n by simp[sh],hx1,hx2]at se
 have hg:w.grownBy (Go.Proofs.sortWorld PrV.enc w g 0 m d' os) (some g):=iB _ _ _ _
 refine⟨rfl,hg,d'.toList.map PrV.enc,d'.toList.map PrV.row,?_,nO _ sj hb hc h1 h2 h3,by simp,fun i hi sC=>?_⟩
 ·rw[←su]
  exact se.map _
 ·rw[jy,jy]
  exact(d'.toList[i]'(by simpa using hi)).2.1.fr (am hg) (fun k hk e=>hk.2 e)
theorem rsort_any{F:Nat→Prop}{w:World}{A:Option Addr}{n c:Nat}{rows:List (List Vl)}(hA:Sl aG F w (.slice A n c) rows)(hr:∀x∈rows,x.length≤1048576)(hn:n≤1048576) :
  Calls Tryz.prog 58 #[.slice A n c,.slice none 0 0] w (oJ n rows w):=by
 have kb:=Bk.new w 236 [.slice none 0 0]
 have hx:Ext w (w.alloc (.cells #[.slice none 0 0] 236)):=(Ext.refl w).alloc _
 change Bk (w.alloc (.cells #[.slice none 0 0] 236)) _ _ _ at kb
 have sp:=zN (clones_any (hA.ext hx) hr hn)
 have HR:=zN hr
 go_enter Tryz.func58,Tryz.ntmps58
 go_upto_region 1 with fail
 generalize (w.alloc (.cells #[.slice none 0 0] 236))=w1 at *
 have sq:=zN kb;have HX:=zN hx
 have sw:w.heap.size<w1.heap.size:=kb.lt
 clear kb hx hA hr
 go_wp2_with fail
 refine sp.out.mono ?_
 rintro e w2 ⟨se,g,us,hg,rfl,si⟩
 have sr:=zN si;have HE:=zN se
 have sg:=(sq.out.ext se).c0
 have sj:=zN sg
 clear si se sg
 go_wp2_with fail
 refine(rC sr.out sj.out (by omega) HR.out hn).mono ?_
 rintro e w3 ⟨rfl,sh,su,rows',hp,ho⟩
 have HQ:Hid (oJ n rows w (.returned (.slice (some ⟨g,0,none⟩) n n)) w3):=zN ⟨(HX.out.trans HE.out).grown sh (fun k hk=>by injection hk with hk;omega),g,su,rows',by omega,rfl,hp,ho⟩
 clear sh hp ho
 go_wp2_with fail
 go_ret
 exact HQ.out
end Go.Proofs.YtplldnnnhgnbjaaGreatDoor
namespace Go.Proofs.YtplldnnnhgnbjaaGreatDoor
open Go.RowKit Go.Maps
def mh(M:Dm)(r:Rl)(w:World)(e:Ending)(w':World):Prop :=
 Ext w w'∧((bC M r≠0∧e=.returned (.tuple #[.slice none 0 0,.int .i64 (bC M r)]))∨(bC M r=0∧∃A c L,e=.returned (.tuple #[.slice A (L:List (List Vl)).length c,.int .i64 0])∧L.length≤1500∧L.Nodup∧∀z,z∈L↔z.length=(aj r).length∧eO M (aj r) r z))
theorem qw{F G H:Nat→Prop}{w:World}{sv vc:Value}{b nb:Nat}{r:Rl}{M:Dm}(hA:Ats F w sv r.ats)(hC:Sl eL G w vc r.cds)(hD:DbB H w b nb M)(hz:RlZ r)(sw:r.ats.length≤90)(sx:∀a∈r.ats,a.terms.length≤1000)(sy:r.cds.length≤1000)(hd:mD M)(hh:bM M (bL r)≤1500)(hv:(aj r).length≤1048576)(si:eG w) :
  Calls Tryz.prog 20 #[.agg #[sv,vc],.agg #[.map (some b)]] w (mh M r w):=by
 obtain⟨Aa,na,ca,rfl⟩:∃A n c,sv=.slice A n c:=let ⟨A,c,e⟩:=hA.sl;⟨A,_,c,e⟩
 obtain⟨Ac,nc,cc,rfl⟩:∃A n c,vc=.slice A n c:=let ⟨A,c,e⟩:=hC.sl;⟨A,_,c,e⟩
 have k3:=dN w 46 33 38 [.slice Aa na ca,.slice Ac nc cc] [.map (some b)] [.slice none 0 0]
 have hx:=(((Ext.refl w).alloc (.cells #[.slice Aa na ca,.slice Ac nc cc] 46)).alloc (.cells #[.map (some b)] 33)).alloc (.cells #[.slice none 0 0] 38)
 have sr:=fun (gr:Nat) (W:World) (hX:Ext w W) (hg:w.heap.size≤gr) (hb:Bk W gr 38 [.slice none 0 0])=>nF (N:=1500) (wT:=w) (fid:=56) (caps:=#[.pointer (some ⟨gr,0,none⟩)]) (St:=AsgSt w.heap.size gr) (L:=[]) (O:=fun q=>q=gr) (hA.ext hX) (hC.ext hX) ((hD.mono (G:=fun k=>H k∧k<w.heap.size) (fun k h1 h2=>⟨h2,h1⟩)).ext hX) hz sw sx sy hd si hX (fun _ _=>rfl) (fun gx h1 _ _=>asg_vis (jo _) (by omega) hv) (fun e L' hL hm=>by rw[jQ,jY];exact fL hd e hh hL hm) ⟨fun _=>False,.slice none 0 0,[],⟨hb,OwR.nil _ _ _,fun h=>h⟩,(fun q hq=>by rw[hq];exact hb.lt),rfl,(fun _ h=>h.elim),(fun q hq=>by cases hq)⟩ (fun q hq=>by rw[hq];exact hb.lt) (fun q hq=>by rw[hq];exact hg) (fun k hk _ hO=>by have:=hk.2;omega)
 obtain⟨ev,se⟩:=sd (bC M r)
 obtain⟨PP,sj⟩:=sd (mh M r w)
 have sI:Hid (∀V,Ext w V→ev≠0→PP (.returned (.tuple #[.slice none 0 0,.int .i64 ev])) V):=zN (fun V hV h0=>by rw[sj,se];exact⟨hV,.inl ⟨se ▸ h0,rfl⟩⟩)
 have sJ:Hid (∀V (A:Option Addr) (n c:Nat) (L:List (List Vl)),Ext w V→ev=0→n=L.length→L.length≤1500→L.Nodup→(∀z,z∈L↔z.length=(aj r).length∧eO M (aj r) r z)→PP (.returned (.tuple #[.slice A n c,.int .i64 0])) V):=zN (fun V A n c L hV h0 hn h1 h2 h3=>by rw[sj];subst hn;exact⟨hV,.inr ⟨by rw[←se];exact h0,A,c,L,rfl,h1,h2,h3⟩⟩)
 have sp:Hid (∀L:List (List Vl),ev=0→L.Nodup→(∀z,z∈L↔z.length=(aj r).length∧eO M (aj r) r z)→L.length≤1500):=zN (fun L h0 h1 h2=>fL hd (by rw[←se];exact h0) hh h1 h2)
 have sL:Hid ((aj r).length≤1048576):=zN hv
 rw[←sj]
 have sG:=zN se;have sg:=zN sr
 clear hA hC hD hz sw sx sy hd hh hv si sj se sr
 go_enter Tryz.func20,Tryz.ntmps20
 go_upto_region 2 with fail
 change Bk (((w.alloc (.cells #[.slice Aa na ca,.slice Ac nc cc] 46)).alloc (.cells #[.map (some b)] 33)).alloc (.cells #[.slice none 0 0] 38)) _ _ _∧Bk (((w.alloc (.cells #[.slice Aa na ca,.slice Ac nc cc] 46)).alloc (.cells #[.map (some b)] 33)).alloc (.cells #[.slice none 0 0] 38)) _ _ _∧Bk (((w.alloc (.cells #[.slice Aa na ca,.slice Ac nc cc] 46)).alloc (.cells #[.map (some b)] 33)).alloc (.cells #[.slice none 0 0] 38)) _ _ _ at k3
 generalize (((w.alloc (.cells #[.slice Aa na ca,.slice Ac nc cc] 46)).alloc (.cells #[.map (some b)] 33)).alloc (.cells #[.slice none 0 0] 38))=w1 at *
 obtain⟨kr,kd,kb⟩:=k3
 have a0:=kr.c0;have a1:=kr.c1;have a2:=kd.c0
 obtain⟨gr,sB⟩:=sd (w.heap.size+1+1)
 rw[←sB]at kb ⊢
 have HE:=zN (sg.out gr w1 hx (by omega) kb)
 have HX:=zN hx
 have sH:Hid (w.heap.size≤gr):=zN (by omega)
 clear kr kd kb hx sB sg
 go_wp2_with fail
 refine HE.out.mono ?_
 rintro e w2 ⟨he,L,O,hS,hf,-,hL⟩
 rw[←sG.out]at he hL
 subst he
 rw[ze]at hS
 obtain⟨F1,v,us,hB,-,-,-,-⟩:=hS
 have hx2:=hf.new HX.out (fun q hq=>by rw[hq];exact sH.out)
 have su:=zN hx2;have HB:=zN hB
 clear hf hx2 hB a0 a1 a2
 by_cases h0:ev=0
 ·have g0:(ev != 0)=false:=by rw[h0];rfl
  obtain⟨L1,L2⟩:L.Nodup∧∀z,z∈L↔z.length=(aj r).length∧eO M (aj r) r z:=by
   rcases hL with ⟨h,-⟩|⟨-,h⟩
   ·exact absurd h0 h
   ·exact h
  have sC:=sp.out L h0 L1 L2
  obtain⟨A3,c3,rfl⟩:=af HB.out.own.own
  have sF:us.length=L.length:=HB.out.own.len
  have sE:=HB.out.own.sl (F:=F1) (G:=fun _=>True) (fun _ _=>trivial) (fun _ _=>trivial)
  have sq:=rsort_any sE (fun x hx=>by rw[((L2 x).1 hx).1];exact sL.out) (by omega)
  have b0:=HB.out.box.c0
  have sh:=zN (fun (V:World) (A:Option Addr) (c:Nat) (hV:Ext w2 V)=>sJ.out V A us.length c L (su.out.trans hV) h0 sF sC L1 L2)
  obtain⟨nu,sD⟩:=sd us.length
  rw[←sD]at b0 sq sh
  have sK:=zN sq
  clear hL L1 L2 sC sF sE sq sD h0 HB
  go_wp2_with fail
  refine sK.out.mono ?_
  rintro e w3 ⟨sA,g,sM,rows',-,rfl,-,-⟩
  have HQ:=zN (sh.out w3 (some ⟨g,0,none⟩) nu sA)
  clear sA b0
  go_wp2_with fail
  exact HQ.out
 ·have g0:(ev != 0)=true:=bne_iff_ne.2 h0
  have HP:=zN (sI.out w2 su.out h0)
  clear h0 hL
  go_wp2_with fail
  exact HP.out
end Go.Proofs.YtplldnnnhgnbjaaGreatDoor
namespace Go.Proofs.YtplldnnnhgnbjaaGreatDoor
open Go.RowKit Go.Maps
theorem vl_beq(a c b d:Int)(s t:ByteArray):((a == c) && ((b == d) && (s == t)))=decide ((⟨a,b,s⟩:Vl)=⟨c,d,t⟩):=by
 rw[beq_toListBytes]
 by_cases h:s=t
 ·rw[str_eq h,Bool.eq_iff_iff]
  simp[h]
 ·rw[str_ne h,Bool.eq_iff_iff]
  simp[h]
theorem same23{F G:Nat→Prop}{w:World}{A B:Option Addr}{n c m d:Nat}{xs ys:List Vl}(h:Sl aM F w (.slice A n c) xs)(k:Sl aM G w (.slice B m d) ys)(hn:n≤1048576)(hm:m≤1048576) :
  Calls Tryz.prog 25 #[.slice A n c,.slice B m d] w (Ret (fun x _=>x=.bool (decide (xs=ys))) w):=by
 have sg:=h.cap.1
 have sh:=k.cap.1
 by_cases hnm:n=m
 ·subst hnm
  obtain⟨q,hq⟩:=sd (decide (xs=ys))
  rw[←hq]
  have HQ:=zN hq
  have HA:=zN h;have HB:=zN k;have HN:=zN sg;have HM:=zN sh
  clear h k sg sh hq
  go_enter Tryz.func25,Tryz.ntmps25
  go_wp2_with fail
  go_loopw [5] (fun t wr=>∃i:Nat,i≤n∧t=.int .i64 (i:Int)∧Hid (xs.take i=ys.take i)∧Ext w wr) (fun t _=>n-(intOf t).toNat)
  case atStart=>exact⟨0,jn _,rfl,zN (by simp),Ext.refl _⟩
  case round =>
   obtain⟨i,hi,rfl,HE,hx⟩:=hrel
   have HX:=zN hx
   by_cases hlt:i<n
   ·have i1:(0:Int)≤(i:Int):=by omega
    have i2:(i:Int)<(n:Int):=by omega
    have sy:i<xs.length:=by have:=HN.out;omega
    have sA:i<ys.length:=by have:=HM.out;omega
    obtain⟨ad,rfl,-,c0,c1,c2⟩:=HA.out.vl sy
    obtain⟨bd,rfl,-,d0,d1,d2⟩:=HB.out.vl sA
    replace c0:=hx.cell c0;replace c1:=hx.cell c1;replace c2:=hx.cell c2;replace d0:=hx.cell d0;replace d1:=hx.cell d1;replace d2:=hx.cell d2
    have sq:xs.take (i+1)=xs.take i++[xs[i]]:=jj sy
    have sr:ys.take (i+1)=ys.take i++[ys[i]]:=jj sA
    have sj:Hid (xs[i]≠ys[i]→xs≠ys):=zN (fun h e=>h (by subst e;rfl))
    obtain⟨x,sB⟩:=sd (xs[i])
    obtain⟨y,sC⟩:=sd (ys[i])
    rw[←sB]at c0 c1 c2 sq sj
    rw[←sC]at d0 d1 d2 sr sj
    have sE:=zN sq;have sF:=zN sr
    obtain⟨kd,it,st⟩:=x
    obtain⟨sw,su,sx⟩:=y
    simp only at c0 c1 c2 d0 d1 d2
    have se:=fun W=>eq_val W kd sw it su st sx
    rw[vl_beq]at se
    obtain⟨r,hr⟩:=sd (decide ((⟨kd,it,st⟩:Vl)=⟨sw,su,sx⟩))
    rw[←hr]at se
    have si:(⟨kd,it,st⟩:Vl)=⟨sw,su,sx⟩↔r=true:=by rw[hr];exact decide_eq_true_iff.symm
    clear sB sC hx sq sr hr
    rcases r with _|_
    ·have HV:Hid (q=false):=zN (by rw[HQ.out];exact decide_eq_false (sj.out (fun e=>by simpa using si.1 e)))
     clear si
     go_upto_region 6 with fail
     go_quiet (fail)
     have sp:=zN (HX.out.drewN nq)
     generalize (wr.drewN nq)=w2 at *
     clear se
     go_wp2_with fail
     go_ret
     exact Ret.mk sp.out (by rw[HV.out];rfl)
    ·have sD:Hid (xs.take (i+1)=ys.take (i+1)):=zN (by rw[sE.out,sF.out,HE.out,si.2 rfl])
     clear si
     go_upto_region 6 with fail
     go_quiet (fail)
     have sp:=zN (HX.out.drewN nq)
     generalize (wr.drewN nq)=w2 at *
     clear se
     go_wp2_with fail
     go_roundw
     case rel=>exact⟨i+1,by omega,by go_num,sD,sp.out⟩
     case measure=>simp[intOf];omega
   ·obtain rfl:i=n:=by omega
    have sH:¬(i:Int)<(i:Int):=by omega
    have HV:Hid (q=true):=zN (by
     rw[HQ.out]
     refine decide_eq_true ?_
     have h:=HE.out
     rwa [jp (by have:=HN.out;omega),jp (by have:=HM.out;omega)]at h)
    clear hx
    go_wp2_with fail
    go_ret
    exact Ret.mk HX.out (by rw[HV.out];rfl)
 ·have hb:((n:Int) != (m:Int))=true:=by rw[bne_iff_ne];omega
  have sG:decide (xs=ys)=false:=decide_eq_false (fun e=>hnm (by rw[sg,sh,e]))
  rw[sG]
  clear h k sg sh hnm
  go_enter Tryz.func25,Tryz.ntmps25
  go_wp2_with fail
  go_ret
  exact Ret.mk (Ext.refl _) rfl
theorem has23{F G:Nat→Prop}{w:World}{A B:Option Addr}{n c m d:Nat}{rows:List (List Vl)}{r:List Vl}(h:Sl aG F w (.slice A n c) rows)(k:Sl aM G w (.slice B m d) r)(hn:n≤1048576)(hm:m≤1048576)(hr:∀x∈rows,x.length≤1048576) :
  Calls Tryz.prog 55 #[.slice A n c,.slice B m d] w (Ret (fun x _=>x=.bool (decide (r∈rows))) w):=by
 have sw:=h.cap.1
 obtain⟨q,hq⟩:=sd (decide (r∈rows))
 rw[←hq]
 have HQ:=zN hq;have HA:=zN h;have HB:=zN k;have HN:=zN sw;have HR:=zN hr
 clear h k sw hq hr
 go_enter Tryz.func55,Tryz.ntmps55
 go_wp2_with fail
 go_loopw [5] (fun t wr=>∃i:Nat,i≤n∧t=.int .i64 (i:Int)∧Hid (r ∉ rows.take i)∧Ext w wr) (fun t _=>n-(intOf t).toNat)
 case atStart=>exact⟨0,jn _,rfl,zN (by simp),Ext.refl _⟩
 case round =>
  obtain⟨i,hi,rfl,HE,hx⟩:=hrel
  have HX:=zN hx
  by_cases hlt:i<n
  ·have i1:(0:Int)≤(i:Int):=by omega
   have i2:(i:Int)<(n:Int):=by omega
   have sh:i<rows.length:=by have:=HN.out;omega
   obtain⟨ad,D,e,rfl,-,c0,hs⟩:=HA.out.row sh
   replace c0:=hx.cell c0
   have sq:=HR.out _ (jf sh)
   have si:rows.take (i+1)=rows.take i++[rows[i]]:=jj sh
   have se:=zN (fun (V:World) (hV:Ext w V)=>same23 (hs.ext hV) (HB.out.ext hV) sq hm)
   have su:=zN (jf sh)
   obtain⟨x,sr⟩:=sd (rows[i])
   rw[←sr]at c0 si se su
   obtain⟨lx,sp⟩:=sd x.length
   rw[←sp]at c0 se
   have sy:=zN si
   rcases hrb:decide (x=r) with _|_
   ·have sx:Hid (r ∉ rows.take (i+1)):=zN (by
     rw[sy.out,ju]
     rintro(h|h)
     ·exact HE.out h
     ·exact of_decide_eq_false hrb (jq.1 h).symm)
    rw[hrb]at se
    clear sr sp hx si hs hrb sq
    go_wp2_with fail
    refine(se.out _ HX.out).mono ?_
    rintro e2 w2 ⟨v,rfl,sg,rfl⟩
    have sj:=zN (HX.out.trans sg)
    clear sg
    go_wp2_with fail
    go_roundw
    case rel=>exact⟨i+1,by omega,by go_num,sx,sj.out⟩
    case measure=>simp[intOf];omega
   ·have HV:Hid (q=true):=zN (by rw[HQ.out];exact decide_eq_true (of_decide_eq_true hrb ▸ su.out))
    rw[hrb]at se
    clear sr sp hx si hs hrb sq
    go_wp2_with fail
    refine(se.out _ HX.out).mono ?_
    rintro e2 w2 ⟨v,rfl,sg,rfl⟩
    have sj:=zN (HX.out.trans sg)
    clear sg
    go_wp2_with fail
    go_ret
    exact Ret.mk sj.out (by rw[HV.out];rfl)
  ·obtain rfl:i=n:=by omega
   have sA:¬(i:Int)<(i:Int):=by omega
   have HV:Hid (q=false):=zN (by
    rw[HQ.out]
    refine decide_eq_false ?_
    have h:=HE.out
    rwa [jp (by have:=HN.out;omega)]at h)
   clear hx
   go_wp2_with fail
   go_ret
   exact Ret.mk HX.out (by rw[HV.out];rfl)
theorem index23{F:Nat→Prop}{w:World}{v:Value}{l:List ByteArray}{s:ByteArray}(h:Strs F w v l)(hl:l.length≤1000000) :
  Calls Tryz.prog 19 #[v,.string s] w (oH l s w):=by
 obtain⟨A,c,rfl,hc,sh⟩:=h
 obtain⟨n,hn⟩:=sd l.length
 rw[←hn]at hc hl ⊢
 have HN:=zN hn;have sp:=zN sh
 clear hn sh
 go_enter Tryz.func19,Tryz.ntmps19
 go_wp2_with fail
 go_loopw [5] (fun q wr=>∃i:Nat,i≤n∧q=.int .i64 (i:Int)∧(∀j (h:j<l.length),j<i→l[j]≠s)∧wr=w) (fun q _=>n-(intOf q).toNat)
 case atStart=>exact⟨0,jn _,rfl,fun _ _ h=>absurd h (by omega),rfl⟩
 case round =>
  obtain⟨i,hi,rfl,si,rfl⟩:=hrel
  have se:=zN si
  clear si
  by_cases hlt:i<n
  ·have i1:(0:Int)≤(i:Int):=by omega
   have i2:(i:Int)<(n:Int):=by omega
   have sj:i<l.length:=by have:=HN.out;omega
   obtain⟨ad,rfl,-,c0⟩:=sp.out.str sj
   by_cases he:l[i]=s
   ·have HR:Hid ((i:Int)=bW l s):=zN (li sj he (fun j h hj=>se.out j h hj)).symm
    rw[he]at c0
    clear he
    go_wp2_with fail
    go_ret
    exact⟨by rw[←HR.out];rfl,rfl⟩
   ·have HE:=zN he
    have sg:Hid (∀j (h:j<l.length),j<i+1→l[j]≠s):=zN (fun j h hj=>by
     by_cases e:j=i
     ·subst e
      exact HE.out
     ·exact se.out j h (by omega))
    have sq:=str_ne he
    obtain⟨x,hx⟩:=sd (l[i])
    rw[←hx]at c0 sq
    clear he hx
    go_wp2_with fail
    go_roundw
    case rel=>exact⟨i+1,by omega,by go_num,sg.out,by trivial⟩
    case measure=>simp[intOf];omega
  ·obtain rfl:i=n:=by omega
   have sr:¬(i:Int)<(i:Int):=by omega
   have HR:Hid (bW l s = -1):=zN (by
    rw[bW,if_neg]
    intro hm
    obtain⟨j,hj,e⟩:=jx hm
    exact se.out j hj (by have:=HN.out;omega) e)
   go_wp2_with fail
   go_ret
   exact⟨by rw[HR.out];rfl,rfl⟩
theorem sameall23{F G:Nat→Prop}{w:World}{A B:Option Addr}{n c m d:Nat}{xs ys:List (List Vl)}(h:Sl aG F w (.slice A n c) xs)(k:Sl aG G w (.slice B m d) ys)(hn:n≤1048576)(hm:m≤1048576)(hx:∀x∈xs,x.length≤1048576)(hy:∀x∈ys,x.length≤1048576) :
  Calls Tryz.prog 16 #[.slice A n c,.slice B m d] w (Ret (fun x _=>x=.bool (decide (xs=ys))) w):=by
 have se:=h.cap.1
 have sg:=k.cap.1
 by_cases hnm:n=m
 ·subst hnm
  obtain⟨q,hq⟩:=sd (decide (xs=ys))
  rw[←hq]
  have HQ:=zN hq
  have HA:=zN h;have HB:=zN k;have HN:=zN se;have HM:=zN sg;have HX:=zN hx;have HY:=zN hy
  clear h k se sg hq hx hy
  go_enter Tryz.func16,Tryz.ntmps16
  go_wp2_with fail
  go_loopw [5] (fun t wr=>∃i:Nat,i≤n∧t=.int .i64 (i:Int)∧Hid (xs.take i=ys.take i)∧Hid (Ext w wr)) (fun t _=>n-(intOf t).toNat)
  case atStart=>exact⟨0,jn _,rfl,zN (by simp),zN (Ext.refl _)⟩
  case round =>
   obtain⟨i,hi,rfl,HE,si⟩:=hrel
   obtain⟨W,rfl⟩:∃W:World,W=wr:=⟨_,rfl⟩
   by_cases hlt:i<n
   ·have i1:(0:Int)≤(i:Int):=by omega
    have i2:(i:Int)<(n:Int):=by omega
    have sj:i<xs.length:=by have:=HN.out;omega
    have sp:i<ys.length:=by have:=HM.out;omega
    obtain⟨ad,B1,e1,rfl,-,c0,sB⟩:=HA.out.row sj
    obtain⟨bd,B2,e2,rfl,-,d0,sC⟩:=HB.out.row sp
    have HS:=zN (fun (V:World) (hV:Ext w V)=>same23 (sB.ext hV) (sC.ext hV) (HX.out _ (jf sj)) (HY.out _ (jf sp)))
    have su:xs.take (i+1)=xs.take i++[xs[i]]:=jj sj
    have sw:ys.take (i+1)=ys.take i++[ys[i]]:=jj sp
    have sh:Hid (xs[i]≠ys[i]→xs≠ys):=zN (fun h e=>h (by subst e;rfl))
    obtain⟨x,sD⟩:=sd (xs[i])
    obtain⟨y,sE⟩:=sd (ys[i])
    rw[←sD]at c0 su sh HS
    rw[←sE]at d0 sw sh HS
    have sG:=zN su;have sH:=zN sw
    obtain⟨r,hr⟩:=sd (decide (x=y))
    rw[←hr]at HS
    have sx:Hid (x=y↔r=true):=zN (by rw[hr];exact decide_eq_true_iff.symm)
    obtain⟨n1,sq⟩:=sd x.length
    obtain⟨n2,sr⟩:=sd y.length
    rw[←sq,←sr]at HS
    rw[←sq]at c0
    rw[←sr]at d0
    clear sD sE su sw hr sB sC sq sr
    go_upto_region 6 with fail
    go_region_held3 (fun V=>Ext w V∧V.cell? (ad.add i)=some (.slice B1 n1 e1)∧V.cell? (bd.add i)=some (.slice B2 n2 e2)) ((refine(fun he=>⟨he,Ext.cell he c0,Ext.cell he d0⟩) ?_;refine Ext.trans si.out.drew ?_;first|exact Ext.refl _|assumption)) (first
     | (go_at_call 25;(with_reducible refine(HS.out _ (And.left (by assumption))).mono ?_);rintro e W2 ⟨v,rfl,sA,rfl⟩))
    have sy:=zN (si.out.drew.trans sA)
    clear sA c0 d0
    rcases r with _|_
    ·have HV:Hid (q=false):=zN (by rw[HQ.out];exact decide_eq_false (sh.out (fun e=>by simpa using sx.out.1 e)))
     go_wp2_with fail
     go_ret
     exact Ret.mk sy.out (by rw[HV.out];rfl)
    ·have sF:Hid (xs.take (i+1)=ys.take (i+1)):=zN (by rw[sG.out,sH.out,HE.out,sx.out.2 rfl])
     go_wp2_with fail
     go_roundw
     case rel=>exact⟨i+1,by omega,by go_num,sF,sy⟩
     case measure=>simp[intOf];omega
   ·obtain rfl:i=n:=by omega
    have sJ:¬(i:Int)<(i:Int):=by omega
    have HV:Hid (q=true):=zN (by
     rw[HQ.out]
     refine decide_eq_true ?_
     have h:=HE.out
     rwa [jp (by have:=HN.out;omega),jp (by have:=HM.out;omega)]at h)
    go_wp2_with fail
    go_ret
    exact Ret.mk si.out (by rw[HV.out];rfl)
 ·have hb:((n:Int) != (m:Int))=true:=by rw[bne_iff_ne];omega
  have sI:decide (xs=ys)=false:=decide_eq_false (fun e=>hnm (by rw[se,sg,e]))
  rw[sI]
  clear h k se sg hnm hx hy
  go_enter Tryz.func16,Tryz.ntmps16
  go_wp2_with fail
  go_ret
  exact Ret.mk (Ext.refl _) rfl
end Go.Proofs.YtplldnnnhgnbjaaGreatDoor
