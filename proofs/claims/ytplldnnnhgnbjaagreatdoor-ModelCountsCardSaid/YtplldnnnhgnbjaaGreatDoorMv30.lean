/- packed -/
import Derived.Test.YtplldnnnhgnbjaaGreatDoorMv29
import Derived.Test.YtplldnnnhgnbjaaGreatDoorMv15
set_option maxRecDepth 20000
set_option maxHeartbeats 1600000
namespace Go.Proofs.YtplldnnnhgnbjaaGreatDoor
open Go.RowKit Go.Maps
def SchFull(m:Dm)(s:ByteArray)(w:World)(e:Ending)(w':World):Prop :=
 Ext w w'∧((m s=none∧e=.returned (.tuple #[.agg #[.string ⟨#[]⟩,.slice none 0 0],.bool false]))∨∃x A c,m s=some x∧e=.returned (.tuple #[.agg #[.string s,.slice A x.kinds.length c],.bool true])∧Ins (fun k=>w.heap.size<k) w' (.slice A x.kinds.length c) x.kinds)
theorem rE{F:Nat→Prop}{w:World}{b n:Nat}{m:Dm}{s:ByteArray}(hD:DbB F w b n m)(hs:s.size≤1000)(sE:∀x,m s=some x→x.kinds.length≤1000) :
  Calls Tryz.prog 67 #[.agg #[.map (some b)],.string s] w (SchFull m s w):=by
 have sJ:s.size≤maxLen:=by simp only[maxLen];omega
 obtain⟨f,hM,hm⟩:=hD
 have HM:=zN hM
 have k2:=bH w 33 92 [.map (some b)] [.string ⟨#[]⟩,.slice none 0 0]
 have hx:Ext w ((w.alloc (.cells #[.map (some b)] 33)).alloc (.cells #[.string ⟨#[]⟩,.slice none 0 0] 92)):=((Ext.refl w).alloc _).alloc _
 rcases hm s with ⟨h1,h2⟩|⟨x,u,h1,h2,u1,r1,rfl,hk,-,hr⟩
 ·have sq:Hid ((f s).getD (.agg #[.slice none 0 0,.int .i64 0,.slice none 0 0])=.agg #[.slice none 0 0,.int .i64 0,.slice none 0 0]):=zN (by rw[h2];rfl)
  have sC:Hid ((f s).isSome=false):=zN (by rw[h2];rfl)
  have sM:=zN h1
  clear hm h1 h2 hM sE
  go_enter Tryz.func67,Tryz.ntmps67
  go_upto_region 1 with fail
  change Bk ((w.alloc (.cells #[.map (some b)] 33)).alloc (.cells #[.string ⟨#[]⟩,.slice none 0 0] 92)) _ _ _∧Bk ((w.alloc (.cells #[.map (some b)] 33)).alloc (.cells #[.string ⟨#[]⟩,.slice none 0 0] 92)) _ _ _ at k2
  generalize ((w.alloc (.cells #[.map (some b)] 33)).alloc (.cells #[.string ⟨#[]⟩,.slice none 0 0] 92))=w1 at *
  obtain⟨ka,kb⟩:=k2
  have a0:=ka.c0
  have HX:=zN hx;have sy:=zN kb;have sA:=zN (HM.out.ext hx)
  have sQ:=kb.lt
  clear ka kb hx
  go_upto_region 2 with (first
   | (refine az rfl _ _ 31 181 rfl Tryz.underlying31 (.agg #[.slice none 0 0,.int .i64 0,.slice none 0 0]) (bP _) b n f rfl sA.out s rfl sJ _ sq.out false sC.out ?_))
  have ke:=Bk.new w1 181 [.slice none 0 0,.int .i64 0,.slice none 0 0]
  change Bk (w1.alloc (.cells #[.slice none 0 0,.int .i64 0,.slice none 0 0] 181)) _ _ _ at ke
  have hx2:Ext w1 (w1.alloc (.cells #[.slice none 0 0,.int .i64 0,.slice none 0 0] 181)):=(Ext.refl w1).alloc _
  generalize (w1.alloc (.cells #[.slice none 0 0,.int .i64 0,.slice none 0 0] 181))=w2 at *
  have e0:=ke.c0
  have se:=zN (sy.out.ext hx2);have sr:=zN (HX.out.trans hx2)
  have f0:=se.out.free 0;have f1:=se.out.free 1
  have b0:=se.out.c0;have b1:=se.out.c1
  clear ke hx2 a0
  clear e0
  go_wp2_with fail
  have kz:Bk ((w2.setCell ⟨w.heap.size+1,0,none⟩ (.string ⟨#[]⟩)).setCell ⟨w.heap.size+1,1,none⟩ (.slice none 0 0)) (w.heap.size+1) 92 [.string ⟨#[]⟩,.slice none 0 0]:=(se.out.set 0 _).set 1 _
  have sD:Ext w ((w2.setCell ⟨w.heap.size+1,0,none⟩ (.string ⟨#[]⟩)).setCell ⟨w.heap.size+1,1,none⟩ (.slice none 0 0)):=(sr.out.setCell (p:=⟨w.heap.size+1,0,none⟩) (jO _) _).setCell (p:=⟨w.heap.size+1,1,none⟩) (jO _) _
  generalize ((w2.setCell ⟨w.heap.size+1,0,none⟩ (.string ⟨#[]⟩)).setCell ⟨w.heap.size+1,1,none⟩ (.slice none 0 0))=wz at *
  have z0:=kz.c0;have z1:=kz.c1
  exact bodyPost_ret (v:=.tuple #[.agg #[.string ⟨#[]⟩,.slice none 0 0],.bool false]) (by simp[results,Tryz.results67,go_sem,z0,z1]) rfl ⟨sD,.inl ⟨sM.out,rfl⟩⟩
 ·obtain⟨A,c,rfl⟩:=hr.sl
  obtain⟨A0,c0,sN,-,sF⟩:=hk
  subst sN
  have sq:Hid ((f s).getD (.agg #[.slice none 0 0,.int .i64 0,.slice none 0 0])=.agg #[.slice A0 x.kinds.length c0,.int .i64 x.rel.ar,.slice A x.rel.rows.length c]):=zN (by rw[h2];rfl)
  have sC:Hid ((f s).isSome=true):=zN (by rw[h2];rfl)
  have sP:=sE x h1
  obtain⟨nr,sH⟩:=sd x.rel.rows.length
  obtain⟨ra,sI⟩:=sd x.rel.ar
  obtain⟨nk,sj⟩:=sd x.kinds.length
  have HQ:=zN (fun (V:World) (A9:Option Addr) (c9:Nat) (hV:Ext w V) (hI:Ins (fun k=>w.heap.size<k) V (.slice A9 nk c9) x.kinds)=>(show SchFull m s w (.returned (.tuple #[.agg #[.string s,.slice A9 nk c9],.bool true])) V by
   refine⟨hV,.inr ⟨x,A9,c9,h1,by rw[sj],by rw[←sj];exact hI⟩⟩))
  have sx:=zN (fun (V:World) (hV:Ext w V) (sR:w.heap.size+1<V.heap.size)=>(kg (w:=V) (n:=nk) (c:=c0) (sF.ext hV) (by rw[jk,sj];omega) (by simp[Value.oneCell']) (by omega)).mono (R':=Ret (fun y w'=>∃A9 c9,y=.slice A9 nk c9∧Ins (fun k=>w.heap.size+1<k) w' y x.kinds) V) (by
   rintro e w' ⟨y,rfl,he,sp⟩
   obtain⟨A9,c9,rfl⟩:=af sp
   exact⟨_,rfl,he,A9,c9,rfl,(Ins.of_own sp).mono (fun k _ hk=>by omega)⟩))
  have sB:=zN (fun (V:World)=>lu s V (by omega))
  rw[←sH,←sI,←sj]at sq
  clear hm h1 h2 hM hr sF sH sI sj sP sE
  go_enter Tryz.func67,Tryz.ntmps67
  go_upto_region 1 with fail
  change Bk ((w.alloc (.cells #[.map (some b)] 33)).alloc (.cells #[.string ⟨#[]⟩,.slice none 0 0] 92)) _ _ _∧Bk ((w.alloc (.cells #[.map (some b)] 33)).alloc (.cells #[.string ⟨#[]⟩,.slice none 0 0] 92)) _ _ _ at k2
  generalize ((w.alloc (.cells #[.map (some b)] 33)).alloc (.cells #[.string ⟨#[]⟩,.slice none 0 0] 92))=w1 at *
  obtain⟨ka,kb⟩:=k2
  have a0:=ka.c0
  have HX:=zN hx;have sy:=zN kb;have sA:=zN (HM.out.ext hx)
  have sQ:=kb.lt
  clear ka kb hx
  go_upto_region 2 with (first
   | (refine az rfl _ _ 31 181 rfl Tryz.underlying31 (.agg #[.slice none 0 0,.int .i64 0,.slice none 0 0]) (bP _) b n f rfl sA.out s rfl sJ _ sq.out true sC.out ?_))
  have ke:=Bk.new w1 181 [.slice A0 nk c0,.int .i64 ra,.slice A nr c]
  change Bk (w1.alloc (.cells #[.slice A0 nk c0,.int .i64 ra,.slice A nr c] 181)) _ _ _ at ke
  have hx2:Ext w1 (w1.alloc (.cells #[.slice A0 nk c0,.int .i64 ra,.slice A nr c] 181)):=(Ext.refl w1).alloc _
  generalize (w1.alloc (.cells #[.slice A0 nk c0,.int .i64 ra,.slice A nr c] 181))=w2 at *
  have e0:=ke.c0
  have se:=zN (sy.out.ext hx2);have sr:=zN (HX.out.trans hx2)
  have f0:=se.out.free 0;have f1:=se.out.free 1
  have b0:=se.out.c0;have b1:=se.out.c1
  clear ke hx2 a0
  have sL:Hid (w.heap.size+1<w2.heap.size):=zN se.out.lt
  have sO:w1.heap.size≠w.heap.size+1:=by omega
  go_upto_region 4 with fail
  go_region_held3 (fun V=>Fr (fun k=>k=w.heap.size+1) w2 V∧V.cell? ⟨w1.heap.size,0,none⟩=some (.slice A0 nk c0))
   ((refine(fun hf=>⟨hf,Fr.cell hf e0 sO⟩) ?_;repeat (first|exact Fr.refl _ _|assumption|refine Fr.drew ?_|refine Fr.setCell ?_ (by first|exact .inl rfl|(left;rfl)) _|exact Ext.fr (by assumption) _)))
   (first
    | (go_at_call 144;(with_reducible refine(sB.out _).mono ?_);rintro e wi ⟨rfl,sh⟩;have su:Ext w2 wi:=(by refine Ext.trans ?_ sh;repeat (first|exact Ext.refl _|refine Ext.drew ?_|refine Ext.trans ?_ (by assumption)));have sg:=se.out.ext su;have b0:=sg.c0;have b1:=sg.c1;have f0:=sg.free 0;have f1:=sg.free 1)
    | (go_at_call 85;(with_reducible refine(sx.out _ (Ext.trans sr.out (by repeat (first|exact Ext.refl _|refine Ext.drew ?_|refine Ext.trans ?_ (by assumption)))) (jE sL.out (Ext.size (by repeat (first|exact Ext.refl _|refine Ext.drew ?_|refine Ext.trans ?_ (by assumption)))))).mono ?_);rintro e wi ⟨yv,rfl,sh,A9,c9,rfl,sw⟩;have su:Ext w2 wi:=(by refine Ext.trans ?_ sh;repeat (first|exact Ext.refl _|refine Ext.drew ?_|refine Ext.trans ?_ (by assumption)));have sg:=se.out.ext su;have b0:=sg.c0;have b1:=sg.c1;have f0:=sg.free 0;have f1:=sg.free 1))
  all_goals
   have kz:Bk ((wi.setCell ⟨w.heap.size+1,0,none⟩ (.string s)).setCell ⟨w.heap.size+1,1,none⟩ (.slice A9 nk c9)) (w.heap.size+1) 92 [.string s,.slice A9 nk c9]:=(sg.set 0 _).set 1 _
   have sD:Ext w ((wi.setCell ⟨w.heap.size+1,0,none⟩ (.string s)).setCell ⟨w.heap.size+1,1,none⟩ (.slice A9 nk c9)):=((sr.out.trans su).setCell (p:=⟨w.heap.size+1,0,none⟩) (jO _) _).setCell (p:=⟨w.heap.size+1,1,none⟩) (jO _) _
   have si:Ins (fun k=>w.heap.size+1<k) wi (.slice A9 nk c9) x.kinds:=by
    first
     | exact sw
     | exact sw.ext sh
     | exact sw.ext (Ext.trans (by repeat (first|exact Ext.refl _|refine Ext.drew ?_)) sh)
   have sG:Fr (fun k=>k=w.heap.size+1) wi ((wi.setCell ⟨w.heap.size+1,0,none⟩ (.string s)).setCell ⟨w.heap.size+1,1,none⟩ (.slice A9 nk c9)):=((Fr.refl (fun k=>k=w.heap.size+1) wi).setCell (p:=⟨w.heap.size+1,0,none⟩) (.inl rfl) _).setCell (p:=⟨w.heap.size+1,1,none⟩) (.inl rfl) _
   have sK:Hid (Ins (fun k=>w.heap.size<k) ((wi.setCell ⟨w.heap.size+1,0,none⟩ (.string s)).setCell ⟨w.heap.size+1,1,none⟩ (.slice A9 nk c9)) (.slice A9 nk c9) x.kinds):=zN ((si.fr sG (fun k hk e=>by omega)).mono (fun k _ hk=>by omega))
   clear sw si sG
   generalize ((wi.setCell ⟨w.heap.size+1,0,none⟩ (.string s)).setCell ⟨w.heap.size+1,1,none⟩ (.slice A9 nk c9))=wz at *
   have z0:=kz.c0;have z1:=kz.c1
   go_wp2_with fail
   exact bodyPost_ret (v:=.tuple #[.agg #[.string s,.slice A9 nk c9],.bool true]) (by simp[results,Tryz.results67,go_sem,z0,z1]) rfl (HQ.out _ _ _ sD sK.out)
theorem info_sch:(Tryz.prog.info? 92).map (fun i=>(i.zero,i.size,i.bytes))=some (some (.agg #[.string ⟨#[]⟩,.slice none 0 0]),2,40):=by kernel_rfl
def fE(m:Dm)(s:ByteArray):List Int:=((m s).map (fun x=>x.kinds)).getD []
def cH(m:Dm)(l:List ByteArray):List Sc:=l.map fun s=>⟨s,fE m s⟩
theorem sch_of{G:Nat→Prop}{w:World}{base n g cap:Nat}{E:TypeId}{us:List Value}{m:Dm}{l:List ByteArray}(h:w.ownsRow base E 2 (.slice (some ⟨g,0,none⟩) n cap) n us)(hn:n=l.length)(hr:∀q (hq:q<l.length),∃u,us[q*2]?=some (.string l[q])∧us[q*2+1]?=some u∧Ins G w u (fE m l[q]))(hG:G g):Sl el G w (.slice (some ⟨g,0,none⟩) n cap) (cH m l):=by
 obtain⟨A,c,e,hc,se⟩:=Cl.of_own h
 injection e with e1 e2 e3
 subst e1 e3
 have hl:(cH m l).length=l.length:=by simp[cH]
 refine⟨_,_,by rw[hl,hn],by omega,fun i hi=>?_⟩
 obtain⟨u,h0,h1,h2⟩:=hr i (by omega)
 obtain⟨ad,k1,-,k3⟩:=se.at' h0
 obtain⟨sh,k4,-,k6⟩:=se.at' h1
 injection k1 with k1
 injection k4 with k4
 subst k1 k4
 have sg:(cH m l)[i]=⟨l[i],fE m l[i]⟩:=by simp[cH]
 refine⟨_,[.string l[i],u],rfl,hG,⟨u,by rw[sg],by rw[sg];exact h2⟩,fun j hj=>?_⟩
 obtain rfl|rfl:j=0∨j=1:=by simp at hj;omega
 ·exact k3
 ·exact k6
def kN(m:Dm)(n:Nat)(w:World)(e:Ending)(w':World):Prop :=
 ∃v l,e=.returned v∧Ext w w'∧Sl el (fun k=>w.heap.size<k) w' v (cH m l)∧l.Nodup∧l.length≤n∧∀s,s∈l↔(m s).isSome=true
def SchOk(g nk:Nat)(s:ByteArray)(ks:List Int)(V:World)(e:Ending)(w':World):Prop:=Ext V w'∧∃A c,e=.returned (.tuple #[.agg #[.string s,.slice A nk c],.bool true])∧Ins (fun k=>g<k) w' (.slice A nk c) ks
theorem im{F:Nat→Prop}{w:World}{b n:Nat}{m:Dm}(hD:DbB F w b n m)(hn:n≤1000000)(hb:∀s x,m s=some x→s.size≤1000∧x.kinds.length≤1000) :
  Calls Tryz.prog 23 #[.agg #[.map (some b)]] w (kN m n w):=by
 have kb:=Bk.new w 33 [.map (some b)]
 have hx:Ext w (w.alloc (.cells #[.map (some b)] 33)):=(Ext.refl w).alloc _
 have HD:=zN hD;have HB:=zN hb;have HN:=zN hn
 obtain⟨p0,ta,hx0,hx1,hx2⟩:=info_parts info_sch
 clear hD hb hn
 go_enter Tryz.func23,Tryz.ntmps23
 go_upto_region 1 with fail
 change Bk (w.alloc (.cells #[.map (some b)] 33)) _ _ _ at kb
 generalize (w.alloc (.cells #[.map (some b)] 33))=w1 at *
 have b0:=kb.c0
 have sQ:=zN hx;have tg:=zN kb
 have tn:Hid (w.heap.size<w1.heap.size):=zN kb.lt
 clear kb hx
 go_wp2_with fail
 refine(names_any (HD.out.ext sQ.out) HN.out).mono ?_
 rintro e w2 ⟨v,rfl,hx3,B,l,hB,se,sW,sw,sx⟩
 obtain⟨A2,c2,rfl,-,sA⟩:=Cl.of_own se
 have tp:=zN (sQ.out.trans hx3);have sE:=zN (tg.out.ext hx3)
 have sJ:Hid (w.heap.size<w2.heap.size):=zN (by have h1:=tn.out;have h2:=hx3.size;omega)
 have th:=zN sW;have sF:=zN sw;have sq:=zN sx;have tc:=zN sA
 obtain⟨nl,sN⟩:=sd l.length
 rw[←sN]
 have sG:=zN sN
 have tD:nl≤1000000:=by have:=HN.out;omega
 clear hx3 hB se sW sw sx sA sN b0
 obtain⟨w3,sy,se,sj⟩:=run_make_full (P:=Tryz.prog) w2 w2.heap.size 22 92 p0 (.agg #[.string ⟨#[]⟩,.slice none 0 0]) 2 Tryz.underlying22 ta hx0 hx1 .i64 .i64 nl (by rw[hx2];omega) (by simp only[maxLen];omega) (jo _)
 have tA:w2.heap.size<w3.heap.size:=by
  rcases se.2 with ⟨h0,-⟩|⟨g',tt,sh,e,hb,hc,-⟩
  ·cases h0
  ·injection e with e1
   injection e1 with e1
   injection e1 with e1
   have:=(jR.1 hc).1
   omega
 have sS:Ext w2 w3:=(Ext.refl w2).grown sj (fun k hk=>by cases hk)
 obtain⟨sL,si⟩:=sd ((madeCells (Value.cells (.agg #[.string ⟨#[]⟩,.slice none 0 0])) (nl*2)).toList)
 rw[←si]at se
 have sr:=zN se;have sK:=zN sS
 obtain⟨g,hg⟩:=sd w2.heap.size
 have sp:=zN hg;have te:Hid (g<w3.heap.size):=zN (by omega)
 rw[←hg]at sr sy
 clear ta hx0 hx1 hx2 se sj sS si hg tA
 go_upto_region 3 with fail
 clear sy
 go_wp2_with fail
 go_loopw [13] (fun t wr=>∃(j:Nat) (sh:List Value),j≤nl∧t=.int .i64 (j:Int)∧Hid (wr.ownsRow g 92 2 (.slice (some ⟨g,0,none⟩) nl nl) nl sh)∧Hid (∀q (h:q<l.length),q<j→∃u,sh[q*2]?=some (.string l[q])∧sh[q*2+1]?=some u∧Ins (fun k=>g<k) wr u (fE m l[q]))∧Hid (Fr (fun b=>b=g) w3 wr)) (fun t _=>nl-(intOf t).toNat)
 case atStart=>exact⟨0,sL,jn _,rfl,sr,zN (fun q h h0=>by omega),zN (Fr.refl _ _)⟩
 case round =>
  obtain⟨j,sh,hj,rfl,sH,sP,sD⟩:=hrel
  obtain⟨W,rfl⟩:∃W:World,W=wr:=⟨_,rfl⟩
  have sg:Ext w2 W:=sD.out.new sK.out (fun b hb=>by have:=sp.out;omega)
  have tq:=zN sg
  have sR:=zN (tp.out.trans sg)
  have tf:Hid (g<W.heap.size):=zN (by have h1:=te.out;have h2:=sD.out.size;omega)
  by_cases hlt:j<nl
  ·have i1:(0:Int)≤(j:Int):=by omega
   have i2:(j:Int)<(nl:Int):=by omega
   have sT:j<l.length:=by have:=sG.out;omega
   obtain⟨ad,rfl,-,c0⟩:=tc.out.str sT
   have tw:(ad.add j).block≠g:=by have h1:=eh c0;have h2:=sp.out;omega
   replace c0:=sg.cell c0
   have b0:=(sE.out.ext sg).c0
   have tu:w.heap.size≠g:=by have h1:=sJ.out;have h2:=sp.out;omega
   obtain⟨s,hs⟩:=sd (l[j])
   obtain⟨x,hx⟩:∃x,m s=some x:=Option.isSome_iff_exists.1 ((sq.out s).1 (by rw[hs];exact jf sT))
   obtain⟨nk,sX⟩:=sd x.kinds.length
   have sU:fE m s=x.kinds:=by simp[fE,hx]
   have sO:=zN sU;have HS:=zN hs
   have HP:=zN (fun (V:World) (hV:Ext w V) (tB:g<V.heap.size)=>(rE (s:=s) (HD.out.ext hV) (HB.out s x hx).1 (fun y hy=>(HB.out s y hy).2)).mono (R':=SchOk g nk s x.kinds V) (by
    rintro e w' ⟨he,⟨h0,-⟩|⟨y,A,c,h0,rfl,su⟩⟩
    ·rw[hx]at h0
     cases h0
    ·rw[hx]at h0
     injection h0 with h0
     subst h0
     rw[←sX]at su ⊢
     exact⟨he,A,c,rfl,su.mono (fun k _ hk=>by omega)⟩))
   rw[←hs]at c0
   obtain⟨ks,sV⟩:=sd x.kinds
   rw[←sV]at sO HP
   clear hs hx sX sU sV sg
   go_upto_region 6 with fail
   go_region_held3 (fun V=>Fr (fun k=>k=g) W V∧V.cell? ⟨w.heap.size,0,none⟩=some (.map (some b))∧V.cell? (ad.add j)=some (.string s))
    ((refine(fun hf=>⟨hf,Fr.cell hf b0 tu,Fr.cell hf c0 tw⟩) ?_;repeat (first|exact Fr.refl _ _|assumption|refine Fr.drew ?_|refine Fr.setCell ?_ (by first|exact .inl rfl|(left;rfl)) _|exact Ext.fr (by assumption) _)))
    (first
     | (go_at_call 67;(with_reducible refine(HP.out _ (Ext.trans sR.out (by repeat (first|exact Ext.refl _|refine Ext.drew ?_|refine Ext.trans ?_ (by assumption)))) (jE tf.out (Ext.size (by repeat (first|exact Ext.refl _|refine Ext.drew ?_|refine Ext.trans ?_ (by assumption)))))).mono ?_);rintro e wi ⟨tz,A9,c9,rfl,su⟩;have sM:Ext W wi:=(by refine Ext.trans ?_ tz;repeat (first|exact Ext.refl _|refine Ext.drew ?_|refine Ext.trans ?_ (by assumption)));have sB:=aD sH.out sM;obtain⟨⟨o0,p0⟩,f0⟩:=bt sB (i:=j*2) (by omega);obtain⟨⟨o1,p1⟩,f1⟩:=bt sB (i:=j*2+1) (by omega)))
   all_goals
    have sY:=bZ sB (i:=j*2) (by omega) (.string s)
    have sZ:=bZ sY (i:=j*2+1) (by omega) (.slice A9 nk c9)
    have sC:Fr (fun k=>k=g) wi ((wi.setCell ⟨g,j*2,none⟩ (.string s)).setCell ⟨g,j*2+1,none⟩ (.slice A9 nk c9)):=((Fr.refl (fun k=>k=g) wi).setCell (p:=⟨g,j*2,none⟩) (.inl rfl) _).setCell (p:=⟨g,j*2+1,none⟩) (.inl rfl) _
    have tj:=zN sZ;have td:=zN ((sD.out.ext sM).trans sC)
    have sA:sh.length=nl*2:=sH.out.1
    have sI:Hid (∀q (h:q<l.length),q<j+1→∃u,((sh.set (j*2) (.string s)).set (j*2+1) (.slice A9 nk c9))[q*2]?=some (.string l[q])∧((sh.set (j*2) (.string s)).set (j*2+1) (.slice A9 nk c9))[q*2+1]?=some u∧Ins (fun k=>g<k) ((wi.setCell ⟨g,j*2,none⟩ (.string s)).setCell ⟨g,j*2+1,none⟩ (.slice A9 nk c9)) u (fE m l[q])):=zN (fun q h h0=>by
     by_cases hqj:q=j
     ·subst hqj
      refine⟨.slice A9 nk c9,?_,?_,?_⟩
      ·rw[jJ (by omega),zl (by omega),HS.out]
      ·rw[zl (by rw[zc];omega)]
      ·rw[←HS.out,sO.out]
       exact su.fr sC (fun k hk e=>by omega)
     ·obtain⟨u,h1,h2,h3⟩:=sP.out q h (by omega)
      refine⟨u,?_,?_,(h3.ext sM).fr sC (fun k hk e=>by omega)⟩
      ·rw[jJ (by omega),jJ (by omega),h1]
      ·rw[jJ (by omega),jJ (by omega),h2])
    clear sB sY sZ sC sA su f0 f1 p0 p1 c0 b0
    go_wp2_with fail
    go_roundw
    case rel=>exact⟨j+1,_,by omega,by go_num,tj,sI,td⟩
    case measure=>simp[intOf];omega
  ·obtain rfl:j=nl:=by omega
   have tC:¬(j:Int)<(j:Int):=by omega
   have HQ:Hid (kN m n w (.returned (.slice (some ⟨g,0,none⟩) j j)) W):=zN ⟨_,l,rfl,sR.out,sch_of sH.out sG.out (fun q hq=>by
    obtain⟨u,h1,h2,h3⟩:=sP.out q hq (by have:=sG.out;omega)
    exact⟨u,h1,h2,h3.mono (fun k _ hk=>by have h4:=sJ.out;have h5:=sp.out;omega)⟩) (by have h4:=sJ.out;have h5:=sp.out;omega),th.out,sF.out,sq.out⟩
   clear sg
   go_wp2_with fail
   go_ret
   exact HQ.out
