/- packed -/
import Derived.Test.YtplldnnnhgnbjaaGreatDoorMu18
import Derived.Test.YtplldnnnhgnbjaaGreatDoorMu15
namespace Go.Proofs.YtplldnnnhgnbjaaGreatDoor
open Go.RowKit Go.Maps
def SchFull(m:Dm)(s:ByteArray)(w:World)(e:Ending)(w':World):Prop :=
 Ext w w'∧((m s=none∧e=.returned (.tuple #[.agg #[.string ⟨#[]⟩,.slice none 0 0],.bool false]))∨∃x A c,m s=some x∧e=.returned (.tuple #[.agg #[.string s,.slice A x.kinds.length c],.bool true])∧Ins (fun k=>w.heap.size<k) w' (.slice A x.kinds.length c) x.kinds)
set_option maxRecDepth 20000 in
set_option maxHeartbeats 1600000 in
theorem schema_full{F:Nat→Prop}{w:World}{b n:Nat}{m:Dm}{s:ByteArray}(hD:DbB F w b n m)(hs:s.size≤1000)(hkb:∀x,m s=some x→x.kinds.length≤1000) :
  Calls Tryz.prog 67 #[.agg #[.map (some b)],.string s] w (SchFull m s w):=by
 have hs2:s.size≤maxLen:=by simp only[maxLen];omega
 obtain⟨f,hM,hm⟩:=hD
 have HM:=zO hM
 have k2:=two_blk w 33 92 [.map (some b)] [.string ⟨#[]⟩,.slice none 0 0]
 have hx:Ext w ((w.alloc (.cells #[.map (some b)] 33)).alloc (.cells #[.string ⟨#[]⟩,.slice none 0 0] 92)):=((Ext.refl w).alloc _).alloc _
 rcases hm s with ⟨h1,h2⟩|⟨x,u,h1,h2,u1,r1,rfl,hk,-,hr⟩
 ·have HU1:Hid ((f s).getD (.agg #[.slice none 0 0,.int .i64 0,.slice none 0 0])=.agg #[.slice none 0 0,.int .i64 0,.slice none 0 0]):=zO (by rw[h2];rfl)
  have HU2:Hid ((f s).isSome=false):=zO (by rw[h2];rfl)
  have HNO:=zO h1
  clear hm h1 h2 hM hkb
  go_enter Tryz.func67,Tryz.ntmps67
  go_upto_region 1 with fail
  change Bk ((w.alloc (.cells #[.map (some b)] 33)).alloc (.cells #[.string ⟨#[]⟩,.slice none 0 0] 92)) _ _ _∧Bk ((w.alloc (.cells #[.map (some b)] 33)).alloc (.cells #[.string ⟨#[]⟩,.slice none 0 0] 92)) _ _ _ at k2
  generalize ((w.alloc (.cells #[.map (some b)] 33)).alloc (.cells #[.string ⟨#[]⟩,.slice none 0 0] 92))=w1 at *
  obtain⟨ka,kb⟩:=k2
  have a0:=ka.cell (i:=0) (by simp)
  simp only[ja,je]at a0
  have HX:=zO hx;have HKB:=zO kb;have HM1:=zO (HM.out.ext hx)
  have hlt:=kb.lt
  clear ka kb hx
  go_upto_region 2 with (first
   | (refine wpList_lookup_okV rfl _ _ 31 181 rfl Tryz.underlying31 (.agg #[.slice none 0 0,.int .i64 0,.slice none 0 0]) (zero_entry _) b n f rfl HM1.out s rfl hs2 _ HU1.out false HU2.out ?_))
  have ke:=Bk.new w1 181 [.slice none 0 0,.int .i64 0,.slice none 0 0]
  change Bk (w1.alloc (.cells #[.slice none 0 0,.int .i64 0,.slice none 0 0] 181)) _ _ _ at ke
  have hx2:Ext w1 (w1.alloc (.cells #[.slice none 0 0,.int .i64 0,.slice none 0 0] 181)):=(Ext.refl w1).alloc _
  generalize (w1.alloc (.cells #[.slice none 0 0,.int .i64 0,.slice none 0 0] 181))=w2 at *
  have e0:=ke.cell (i:=0) (by simp)
  simp only[ja,je]at e0
  have HKB2:=zO (HKB.out.ext hx2);have HX2:=zO (HX.out.trans hx2)
  have f0:=HKB2.out.free 0;have f1:=HKB2.out.free 1
  have b0:=HKB2.out.cell (i:=0) (by simp);have b1:=HKB2.out.cell (i:=1) (by simp)
  simp only[ja,je]at b0 b1
  clear ke hx2 a0
  clear e0
  go_wp2_with fail
  have kz:Bk ((w2.setCell ⟨w.heap.size+1,0,none⟩ (.string ⟨#[]⟩)).setCell ⟨w.heap.size+1,1,none⟩ (.slice none 0 0)) (w.heap.size+1) 92 [.string ⟨#[]⟩,.slice none 0 0]:=(HKB2.out.set 0 _).set 1 _
  have hez:Ext w ((w2.setCell ⟨w.heap.size+1,0,none⟩ (.string ⟨#[]⟩)).setCell ⟨w.heap.size+1,1,none⟩ (.slice none 0 0)):=(HX2.out.setCell (p:=⟨w.heap.size+1,0,none⟩) (jP _) _).setCell (p:=⟨w.heap.size+1,1,none⟩) (jP _) _
  generalize ((w2.setCell ⟨w.heap.size+1,0,none⟩ (.string ⟨#[]⟩)).setCell ⟨w.heap.size+1,1,none⟩ (.slice none 0 0))=wz at *
  have z0:=kz.cell (i:=0) (by simp);have z1:=kz.cell (i:=1) (by simp)
  simp only[ja,je]at z0 z1
  exact bodyPost_ret (v:=.tuple #[.agg #[.string ⟨#[]⟩,.slice none 0 0],.bool false]) (by simp[results,Tryz.results67,go_sem,z0,z1]) rfl ⟨hez,.inl ⟨HNO.out,rfl⟩⟩
 ·obtain⟨A,c,rfl⟩:=hr.sl
  obtain⟨A0,c0,e0',-,hck⟩:=hk
  subst e0'
  have HU1:Hid ((f s).getD (.agg #[.slice none 0 0,.int .i64 0,.slice none 0 0])=.agg #[.slice A0 x.kinds.length c0,.int .i64 x.rel.ar,.slice A x.rel.rows.length c]):=zO (by rw[h2];rfl)
  have HU2:Hid ((f s).isSome=true):=zO (by rw[h2];rfl)
  have hkl:=hkb x h1
  obtain⟨nr,hnr⟩:∃k,k=x.rel.rows.length:=⟨_,rfl⟩
  obtain⟨ra,hra⟩:∃k,k=x.rel.ar:=⟨_,rfl⟩
  obtain⟨nk,hnk⟩:∃k,k=x.kinds.length:=⟨_,rfl⟩
  have HQ:=zO (fun (V:World) (A9:Option Addr) (c9:Nat) (hV:Ext w V) (hI:Ins (fun k=>w.heap.size<k) V (.slice A9 nk c9) x.kinds)=>(show SchFull m s w (.returned (.tuple #[.agg #[.string s,.slice A9 nk c9],.bool true])) V by
   refine⟨hV,.inr ⟨x,A9,c9,h1,by rw[hnk],by rw[←hnk];exact hI⟩⟩))
  have HCLN:=zO (fun (V:World) (hV:Ext w V) (hV2:w.heap.size+1<V.heap.size)=>(clone_ints (w:=V) (n:=nk) (c:=c0) (hck.ext hV) (by rw[jm,hnk];omega) (by simp[Value.oneCell']) (by omega)).mono (R':=Ret (fun y w'=>∃A9 c9,y=.slice A9 nk c9∧Ins (fun k=>w.heap.size+1<k) w' y x.kinds) V) (by
   rintro e w' ⟨y,rfl,he,hown⟩
   obtain⟨A9,c9,rfl⟩:=own_slice hown
   exact⟨_,rfl,he,A9,c9,rfl,(Ins.of_own hown).mono (fun k _ hk=>by omega)⟩))
  have HSTR:=zO (fun (V:World)=>strclone_any s V (by omega))
  rw[←hnr,←hra,←hnk]at HU1
  clear hm h1 h2 hM hr hck hnr hra hnk hkl hkb
  go_enter Tryz.func67,Tryz.ntmps67
  go_upto_region 1 with fail
  change Bk ((w.alloc (.cells #[.map (some b)] 33)).alloc (.cells #[.string ⟨#[]⟩,.slice none 0 0] 92)) _ _ _∧Bk ((w.alloc (.cells #[.map (some b)] 33)).alloc (.cells #[.string ⟨#[]⟩,.slice none 0 0] 92)) _ _ _ at k2
  generalize ((w.alloc (.cells #[.map (some b)] 33)).alloc (.cells #[.string ⟨#[]⟩,.slice none 0 0] 92))=w1 at *
  obtain⟨ka,kb⟩:=k2
  have a0:=ka.cell (i:=0) (by simp)
  simp only[ja,je]at a0
  have HX:=zO hx;have HKB:=zO kb;have HM1:=zO (HM.out.ext hx)
  have hlt:=kb.lt
  clear ka kb hx
  go_upto_region 2 with (first
   | (refine wpList_lookup_okV rfl _ _ 31 181 rfl Tryz.underlying31 (.agg #[.slice none 0 0,.int .i64 0,.slice none 0 0]) (zero_entry _) b n f rfl HM1.out s rfl hs2 _ HU1.out true HU2.out ?_))
  have ke:=Bk.new w1 181 [.slice A0 nk c0,.int .i64 ra,.slice A nr c]
  change Bk (w1.alloc (.cells #[.slice A0 nk c0,.int .i64 ra,.slice A nr c] 181)) _ _ _ at ke
  have hx2:Ext w1 (w1.alloc (.cells #[.slice A0 nk c0,.int .i64 ra,.slice A nr c] 181)):=(Ext.refl w1).alloc _
  generalize (w1.alloc (.cells #[.slice A0 nk c0,.int .i64 ra,.slice A nr c] 181))=w2 at *
  have e0:=ke.cell (i:=0) (by simp)
  simp only[ja,je]at e0
  have HKB2:=zO (HKB.out.ext hx2);have HX2:=zO (HX.out.trans hx2)
  have f0:=HKB2.out.free 0;have f1:=HKB2.out.free 1
  have b0:=HKB2.out.cell (i:=0) (by simp);have b1:=HKB2.out.cell (i:=1) (by simp)
  simp only[ja,je]at b0 b1
  clear ke hx2 a0
  have HLT:Hid (w.heap.size+1<w2.heap.size):=zO HKB2.out.lt
  have he1:w1.heap.size≠w.heap.size+1:=by omega
  go_upto_region 4 with fail
  go_region_held3 (fun V=>Fr (fun k=>k=w.heap.size+1) w2 V∧V.cell? ⟨w1.heap.size,0,none⟩=some (.slice A0 nk c0))
   ((refine(fun hf=>⟨hf,Fr.cell hf e0 he1⟩) ?_;repeat (first|exact Fr.refl _ _|assumption|refine Fr.drew ?_|refine Fr.setCell ?_ (by first|exact .inl rfl|(left;rfl)) _|exact Ext.fr (by assumption) _)))
   (first
    | (go_at_call 144;(with_reducible refine(HSTR.out _).mono ?_);rintro e wi ⟨rfl,hei⟩;have hen:Ext w2 wi:=(by refine Ext.trans ?_ hei;repeat (first|exact Ext.refl _|refine Ext.drew ?_|refine Ext.trans ?_ (by assumption)));have kbi:=HKB2.out.ext hen;have b0:=kbi.cell (i:=0) (by simp);have b1:=kbi.cell (i:=1) (by simp);have f0:=kbi.free 0;have f1:=kbi.free 1;simp only[ja,je]at b0 b1)
    | (go_at_call 85;(with_reducible refine(HCLN.out _ (Ext.trans HX2.out (by repeat (first|exact Ext.refl _|refine Ext.drew ?_|refine Ext.trans ?_ (by assumption)))) (jM HLT.out (Ext.size (by repeat (first|exact Ext.refl _|refine Ext.drew ?_|refine Ext.trans ?_ (by assumption)))))).mono ?_);rintro e wi ⟨yv,rfl,hei,A9,c9,rfl,hin⟩;have hen:Ext w2 wi:=(by refine Ext.trans ?_ hei;repeat (first|exact Ext.refl _|refine Ext.drew ?_|refine Ext.trans ?_ (by assumption)));have kbi:=HKB2.out.ext hen;have b0:=kbi.cell (i:=0) (by simp);have b1:=kbi.cell (i:=1) (by simp);have f0:=kbi.free 0;have f1:=kbi.free 1;simp only[ja,je]at b0 b1))
  all_goals
   have kz:Bk ((wi.setCell ⟨w.heap.size+1,0,none⟩ (.string s)).setCell ⟨w.heap.size+1,1,none⟩ (.slice A9 nk c9)) (w.heap.size+1) 92 [.string s,.slice A9 nk c9]:=(kbi.set 0 _).set 1 _
   have hez:Ext w ((wi.setCell ⟨w.heap.size+1,0,none⟩ (.string s)).setCell ⟨w.heap.size+1,1,none⟩ (.slice A9 nk c9)):=((HX2.out.trans hen).setCell (p:=⟨w.heap.size+1,0,none⟩) (jP _) _).setCell (p:=⟨w.heap.size+1,1,none⟩) (jP _) _
   have hin2:Ins (fun k=>w.heap.size+1<k) wi (.slice A9 nk c9) x.kinds:=by
    first
     | exact hin
     | exact hin.ext hei
     | exact hin.ext (Ext.trans (by repeat (first|exact Ext.refl _|refine Ext.drew ?_)) hei)
   have hfz:Fr (fun k=>k=w.heap.size+1) wi ((wi.setCell ⟨w.heap.size+1,0,none⟩ (.string s)).setCell ⟨w.heap.size+1,1,none⟩ (.slice A9 nk c9)):=((Fr.refl (fun k=>k=w.heap.size+1) wi).setCell (p:=⟨w.heap.size+1,0,none⟩) (.inl rfl) _).setCell (p:=⟨w.heap.size+1,1,none⟩) (.inl rfl) _
   have HI9:Hid (Ins (fun k=>w.heap.size<k) ((wi.setCell ⟨w.heap.size+1,0,none⟩ (.string s)).setCell ⟨w.heap.size+1,1,none⟩ (.slice A9 nk c9)) (.slice A9 nk c9) x.kinds):=zO ((hin2.fr hfz (fun k hk e=>by omega)).mono (fun k _ hk=>by omega))
   clear hin hin2 hfz
   generalize ((wi.setCell ⟨w.heap.size+1,0,none⟩ (.string s)).setCell ⟨w.heap.size+1,1,none⟩ (.slice A9 nk c9))=wz at *
   have z0:=kz.cell (i:=0) (by simp);have z1:=kz.cell (i:=1) (by simp)
   simp only[ja,je]at z0 z1
   go_wp2_with fail
   exact bodyPost_ret (v:=.tuple #[.agg #[.string s,.slice A9 nk c9],.bool true]) (by simp[results,Tryz.results67,go_sem,z0,z1]) rfl (HQ.out _ _ _ hez HI9.out)
theorem info_sch:(Tryz.prog.info? 92).map (fun i=>(i.zero,i.size,i.bytes))=some (some (.agg #[.string ⟨#[]⟩,.slice none 0 0]),2,40):=by kernel_rfl
def kdsOf(m:Dm)(s:ByteArray):List Int:=((m s).map (fun x=>x.kinds)).getD []
def schL(m:Dm)(l:List ByteArray):List Sc:=l.map fun s=>⟨s,kdsOf m s⟩
theorem sch_of{G:Nat→Prop}{w:World}{base n g cap:Nat}{E:TypeId}{us:List Value}{m:Dm}{l:List ByteArray}(h:w.ownsRow base E 2 (.slice (some ⟨g,0,none⟩) n cap) n us)(hn:n=l.length)(hr:∀q (hq:q<l.length),∃u,us[q*2]?=some (.string l[q])∧us[q*2+1]?=some u∧Ins G w u (kdsOf m l[q]))(hG:G g):Sl rdSc G w (.slice (some ⟨g,0,none⟩) n cap) (schL m l):=by
 obtain⟨A,c,e,hc,hcl⟩:=Cl.of_own h
 injection e with e1 e2 e3
 subst e1 e3
 have hl:(schL m l).length=l.length:=by simp[schL]
 refine⟨_,_,by rw[hl,hn],by omega,fun i hi=>?_⟩
 obtain⟨u,h0,h1,h2⟩:=hr i (by omega)
 obtain⟨ad,k1,-,k3⟩:=hcl.at' h0
 obtain⟨ad',k4,-,k6⟩:=hcl.at' h1
 injection k1 with k1
 injection k4 with k4
 subst k1 k4
 have hgi:(schL m l)[i]=⟨l[i],kdsOf m l[i]⟩:=by simp[schL]
 refine⟨_,[.string l[i],u],rfl,hG,⟨u,by rw[hgi],by rw[hgi];exact h2⟩,fun j hj=>?_⟩
 obtain rfl|rfl:j=0∨j=1:=by simp at hj;omega
 ·exact k3
 ·exact k6
def SchsPost(m:Dm)(n:Nat)(w:World)(e:Ending)(w':World):Prop :=
 ∃v l,e=.returned v∧Ext w w'∧Sl rdSc (fun k=>w.heap.size<k) w' v (schL m l)∧l.Nodup∧l.length≤n∧∀s,s∈l↔(m s).isSome=true
def SchOk(g nk:Nat)(s:ByteArray)(ks:List Int)(V:World)(e:Ending)(w':World):Prop:=Ext V w'∧∃A c,e=.returned (.tuple #[.agg #[.string s,.slice A nk c],.bool true])∧Ins (fun k=>g<k) w' (.slice A nk c) ks
set_option maxRecDepth 20000 in
set_option maxHeartbeats 1600000 in
theorem schemas_any{F:Nat→Prop}{w:World}{b n:Nat}{m:Dm}(hD:DbB F w b n m)(hn:n≤1000000)(hb:∀s x,m s=some x→s.size≤1000∧x.kinds.length≤1000) :
  Calls Tryz.prog 23 #[.agg #[.map (some b)]] w (SchsPost m n w):=by
 have kb:=Bk.new w 33 [.map (some b)]
 have hx:Ext w (w.alloc (.cells #[.map (some b)] 33)):=(Ext.refl w).alloc _
 have HD:=zO hD;have HB:=zO hb;have HN:=zO hn
 obtain⟨p0,hp0,hx0,hx1,hx2⟩:=info_parts info_sch
 clear hD hb hn
 go_enter Tryz.func23,Tryz.ntmps23
 go_upto_region 1 with fail
 change Bk (w.alloc (.cells #[.map (some b)] 33)) _ _ _ at kb
 generalize (w.alloc (.cells #[.map (some b)] 33))=w1 at *
 have b0:=kb.cell (i:=0) (by simp)
 simp only[ja]at b0
 have HX1:=zO hx;have HKB:=zO kb
 have HW1:Hid (w.heap.size<w1.heap.size):=zO kb.lt
 clear kb hx
 go_wp2_with fail
 refine(names_any (HD.out.ext HX1.out) HN.out).mono ?_
 rintro e w2 ⟨v,rfl,hx3,B,l,hB,hown,hnd,hlen,hmem⟩
 obtain⟨A2,c2,rfl,-,hcl⟩:=Cl.of_own hown
 have HX2:=zO (HX1.out.trans hx3);have HKB2:=zO (HKB.out.ext hx3)
 have HW2:Hid (w.heap.size<w2.heap.size):=zO (by have h1:=HW1.out;have h2:=hx3.size;omega)
 have HND:=zO hnd;have HLEN:=zO hlen;have HMEM:=zO hmem;have HCL:=zO hcl
 obtain⟨nl,hnl⟩:∃k,k=l.length:=⟨_,rfl⟩
 rw[←hnl]
 have HNL:=zO hnl
 have hnm:nl≤1000000:=by have:=HN.out;omega
 clear hx3 hB hown hnd hlen hmem hcl hnl b0
 obtain⟨w3,hrun,hown,hgrow⟩:=run_make_full (P:=Tryz.prog) w2 w2.heap.size 22 92 p0 (.agg #[.string ⟨#[]⟩,.slice none 0 0]) 2 Tryz.underlying22 hp0 hx0 hx1 .i64 .i64 nl (by rw[hx2];omega) (by simp only[maxLen];omega) (jq _)
 have hwg:w2.heap.size<w3.heap.size:=by
  rcases hown.2 with ⟨h0,-⟩|⟨g',cap',cur,e,hb,hc,-⟩
  ·cases h0
  ·injection e with e1
   injection e1 with e1
   injection e1 with e1
   have:=(jT.1 hc).1
   omega
 have hX3:Ext w2 w3:=(Ext.refl w2).grown hgrow (fun k hk=>by cases hk)
 obtain⟨cur0,hcur0⟩:∃l,l=(madeCells (Value.cells (.agg #[.string ⟨#[]⟩,.slice none 0 0])) (nl*2)).toList:=⟨_,rfl⟩
 rw[←hcur0]at hown
 have HOWN:=zO hown;have HX23:=zO hX3
 obtain⟨g,hg⟩:∃g,g=w2.heap.size:=⟨_,rfl⟩
 have HG2:=zO hg;have HG3:Hid (g<w3.heap.size):=zO (by omega)
 rw[←hg]at HOWN hrun
 clear hp0 hx0 hx1 hx2 hown hgrow hX3 hcur0 hg hwg
 go_upto_region 3 with fail
 clear hrun
 go_wp2_with fail
 go_loopw [13] (fun t wr=>∃(j:Nat) (cur:List Value),j≤nl∧t=.int .i64 (j:Int)∧Hid (wr.ownsRow g 92 2 (.slice (some ⟨g,0,none⟩) nl nl) nl cur)∧Hid (∀q (h:q<l.length),q<j→∃u,cur[q*2]?=some (.string l[q])∧cur[q*2+1]?=some u∧Ins (fun k=>g<k) wr u (kdsOf m l[q]))∧Hid (Fr (fun b=>b=g) w3 wr)) (fun t _=>nl-(intOf t).toNat)
 case atStart=>exact⟨0,cur0,jn _,rfl,HOWN,zO (fun q h h0=>by omega),zO (Fr.refl _ _)⟩
 case round =>
  obtain⟨j,cur,hj,rfl,HOW,HRD,HFR⟩:=hrel
  obtain⟨W,rfl⟩:∃W:World,W=wr:=⟨_,rfl⟩
  have hxw2:Ext w2 W:=HFR.out.new HX23.out (fun b hb=>by have:=HG2.out;omega)
  have HXW2:=zO hxw2
  have HXW:=zO (HX2.out.trans hxw2)
  have HGL:Hid (g<W.heap.size):=zO (by have h1:=HG3.out;have h2:=HFR.out.size;omega)
  by_cases hlt:j<nl
  ·have i1:(0:Int)≤(j:Int):=by omega
   have i2:(j:Int)<(nl:Int):=by omega
   have hjl:j<l.length:=by have:=HNL.out;omega
   obtain⟨ad,rfl,-,c0⟩:=HCL.out.str hjl
   have hc1:(ad.add j).block≠g:=by have h1:=cell_lt c0;have h2:=HG2.out;omega
   replace c0:=hxw2.cell c0
   have b0:=(HKB2.out.ext hxw2).cell (i:=0) (by simp)
   simp only[ja]at b0
   have hb1:w.heap.size≠g:=by have h1:=HW2.out;have h2:=HG2.out;omega
   obtain⟨s,hs⟩:∃s,s=l[j]:=⟨_,rfl⟩
   obtain⟨x,hx⟩:∃x,m s=some x:=Option.isSome_iff_exists.1 ((HMEM.out s).1 (by rw[hs];exact jg hjl))
   obtain⟨nk,hnk⟩:∃k,k=x.kinds.length:=⟨_,rfl⟩
   have hkd:kdsOf m s=x.kinds:=by simp[kdsOf,hx]
   have HKD:=zO hkd;have HS:=zO hs
   have HP:=zO (fun (V:World) (hV:Ext w V) (hV2:g<V.heap.size)=>(schema_full (s:=s) (HD.out.ext hV) (HB.out s x hx).1 (fun y hy=>(HB.out s y hy).2)).mono (R':=SchOk g nk s x.kinds V) (by
    rintro e w' ⟨he,⟨h0,-⟩|⟨y,A,c,h0,rfl,hin⟩⟩
    ·rw[hx]at h0
     cases h0
    ·rw[hx]at h0
     injection h0 with h0
     subst h0
     rw[←hnk]at hin ⊢
     exact⟨he,A,c,rfl,hin.mono (fun k _ hk=>by omega)⟩))
   rw[←hs]at c0
   obtain⟨ks,hks⟩:∃ks,ks=x.kinds:=⟨_,rfl⟩
   rw[←hks]at HKD HP
   clear hs hx hnk hkd hks hxw2
   go_upto_region 6 with fail
   go_region_held3 (fun V=>Fr (fun k=>k=g) W V∧V.cell? ⟨w.heap.size,0,none⟩=some (.map (some b))∧V.cell? (ad.add j)=some (.string s))
    ((refine(fun hf=>⟨hf,Fr.cell hf b0 hb1,Fr.cell hf c0 hc1⟩) ?_;repeat (first|exact Fr.refl _ _|assumption|refine Fr.drew ?_|refine Fr.setCell ?_ (by first|exact .inl rfl|(left;rfl)) _|exact Ext.fr (by assumption) _)))
    (first
     | (go_at_call 67;(with_reducible refine(HP.out _ (Ext.trans HXW.out (by repeat (first|exact Ext.refl _|refine Ext.drew ?_|refine Ext.trans ?_ (by assumption)))) (jM HGL.out (Ext.size (by repeat (first|exact Ext.refl _|refine Ext.drew ?_|refine Ext.trans ?_ (by assumption)))))).mono ?_);rintro e wi ⟨hei,A9,c9,rfl,hin⟩;have hen:Ext W wi:=(by refine Ext.trans ?_ hei;repeat (first|exact Ext.refl _|refine Ext.drew ?_|refine Ext.trans ?_ (by assumption)));have ho5:=own_ext' HOW.out hen;obtain⟨⟨o0,p0⟩,f0⟩:=own_cellS ho5 (i:=j*2) (by omega);obtain⟨⟨o1,p1⟩,f1⟩:=own_cellS ho5 (i:=j*2+1) (by omega)))
   all_goals
    have ho6:=own_setc ho5 (i:=j*2) (by omega) (.string s)
    have ho7:=own_setc ho6 (i:=j*2+1) (by omega) (.slice A9 nk c9)
    have hst:Fr (fun k=>k=g) wi ((wi.setCell ⟨g,j*2,none⟩ (.string s)).setCell ⟨g,j*2+1,none⟩ (.slice A9 nk c9)):=((Fr.refl (fun k=>k=g) wi).setCell (p:=⟨g,j*2,none⟩) (.inl rfl) _).setCell (p:=⟨g,j*2+1,none⟩) (.inl rfl) _
    have HO7:=zO ho7;have HF7:=zO ((HFR.out.ext hen).trans hst)
    have hcl:cur.length=nl*2:=HOW.out.1
    have HRD7:Hid (∀q (h:q<l.length),q<j+1→∃u,((cur.set (j*2) (.string s)).set (j*2+1) (.slice A9 nk c9))[q*2]?=some (.string l[q])∧((cur.set (j*2) (.string s)).set (j*2+1) (.slice A9 nk c9))[q*2+1]?=some u∧Ins (fun k=>g<k) ((wi.setCell ⟨g,j*2,none⟩ (.string s)).setCell ⟨g,j*2+1,none⟩ (.slice A9 nk c9)) u (kdsOf m l[q])):=zO (fun q h h0=>by
     by_cases hqj:q=j
     ·subst hqj
      refine⟨.slice A9 nk c9,?_,?_,?_⟩
      ·rw[jH (by omega),zl (by omega),HS.out]
      ·rw[zl (by rw[zc];omega)]
      ·rw[←HS.out,HKD.out]
       exact hin.fr hst (fun k hk e=>by omega)
     ·obtain⟨u,h1,h2,h3⟩:=HRD.out q h (by omega)
      refine⟨u,?_,?_,(h3.ext hen).fr hst (fun k hk e=>by omega)⟩
      ·rw[jH (by omega),jH (by omega),h1]
      ·rw[jH (by omega),jH (by omega),h2])
    clear ho5 ho6 ho7 hst hcl hin f0 f1 p0 p1 c0 b0
    go_wp2_with fail
    go_roundw
    case rel=>exact⟨j+1,_,by omega,by go_num,HO7,HRD7,HF7⟩
    case measure=>simp[intOf];omega
  ·obtain rfl:j=nl:=by omega
   have hdj:¬(j:Int)<(j:Int):=by omega
   have HQ:Hid (SchsPost m n w (.returned (.slice (some ⟨g,0,none⟩) j j)) W):=zO ⟨_,l,rfl,HXW.out,sch_of HOW.out HNL.out (fun q hq=>by
    obtain⟨u,h1,h2,h3⟩:=HRD.out q hq (by have:=HNL.out;omega)
    exact⟨u,h1,h2,h3.mono (fun k _ hk=>by have h4:=HW2.out;have h5:=HG2.out;omega)⟩) (by have h4:=HW2.out;have h5:=HG2.out;omega),HND.out,HLEN.out,HMEM.out⟩
   clear hxw2
   go_wp2_with fail
   go_ret
   exact HQ.out
