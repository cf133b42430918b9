/- packed -/
import Derived.Test.YtplldnnnhgnbjaaGreatDoorMv13
set_option maxRecDepth 20000
set_option maxHeartbeats 1600000
namespace Go.Proofs.YtplldnnnhgnbjaaGreatDoor
open Go.RowKit Go.Maps
theorem relnew_ok{w:World}{a:Int}(h0 : 0≤a)(h1:a≤32) :
  Calls Tryz.prog 84 #[.int .i64 a] w (fun e w'=>Ext w w'∧e=.returned (.tuple #[.agg #[.int .i64 a,.slice none 0 0],.int .i64 0])):=by
 have g0:¬a<0:=by omega
 have g1:¬32<a:=by omega
 go_enter Tryz.func84,Tryz.ntmps84
 go_wp2_with fail
 have kz:Bk ((w.alloc (.cells #[.int .i64 a,.slice none 0 0] 179))) w.heap.size 179 [.int .i64 a,.slice none 0 0]:=Bk.new w _ [_,_]
 have se:Ext w (w.alloc (.cells #[.int .i64 a,.slice none 0 0] 179)):=(Ext.refl w).alloc _
 generalize (w.alloc (.cells #[.int .i64 a,.slice none 0 0] 179))=wz at *
 have z0:=kz.c0;have z1:=kz.c1
 exact bodyPost_ret (v:=.tuple #[.agg #[.int .i64 a,.slice none 0 0],.int .i64 0]) (by simp[results,Tryz.results84,go_sem,z0,z1]) rfl ⟨se,rfl⟩
def pE(x:Sc):Prop:=iL x.name=true∧x.kinds.length≤6∧∀k∈x.kinds,k=1∨k=2
theorem bP(w:World):(zeroValue 181).run Tryz.prog w=.ok (.agg #[.slice none 0 0,.int .i64 0,.slice none 0 0]) w:=by kernel_rfl
theorem dmL_none{ss:List Sc}{s:ByteArray}(h:dmL ss s=none):cm ss s=none:=by
 unfold dmL at h
 simpa using h
theorem upd_run{w:World}{b n:Nat}{f:ByteArray→Option Value}(sg:aI w b n f)(hn:n<maxLen){s:ByteArray}(hs:s.size≤maxLen)(u:Value):∃w',(Instr.mapUpdate 31 (.map (some b)) (.string s) u).run Tryz.prog w=.ok () w'∧Hid (aI w' b (n+1) (cI f s (some u))∧w.grownBy w' (some b)):=by
 obtain⟨D,hD,sj,si,se⟩:=sg
 obtain⟨p1,p2,p3⟩:=lp sj si se s u
 obtain⟨w',sh,r1,r2⟩:=hD.update ek Tryz.underlying31 hn (keyOf_str s hs) (val:=u) (d:=.held u) (ps:=[]) rfl
 exact⟨w',sh,zN ⟨⟨_,r1,p1,p2,p3⟩,r2⟩⟩
theorem lZ(w:World)(n:Int):(Instr.makeMap 31 (some (.int .i64 n))).run Tryz.prog w=.ok (.map (some w.heap.size)) (w.alloc (.map #[] 0)):=by
 simp[Instr.makeMap,run_underlying Tryz.underlying31,asInt,asIntOf,Result.andThen]
theorem scok_kinds{ks:List Int}{j:Nat}(hj:j<ks.length)(h:∀k∈ks.take j,k=1∨k=2)(h2:ks[j]=1∨ks[j]=2):∀k∈ks.take (j+1),k=1∨k=2:=by
 rw[jj hj]
 intro k hk
 rcases ju.1 hk with hk|hk
 ·exact h k hk
 ·rw[jq.1 hk];exact h2
theorem bH(w:World)(t u:TypeId)(cs ds:List Value):Bk ((w.alloc (.cells cs.toArray t)).alloc (.cells ds.toArray u)) w.heap.size t cs∧Bk ((w.alloc (.cells cs.toArray t)).alloc (.cells ds.toArray u)) (w.heap.size+1) u ds:=by
 refine⟨(Bk.new w t cs).alloc _,?_⟩
 have h:=Bk.new (w.alloc (.cells cs.toArray t)) u ds
 have e:(w.alloc (.cells cs.toArray t)).heap.size=w.heap.size+1:=by simp
 rw[e]at h
 exact h
def RelPost(F:Nat→Prop)(m:Dm)(s:ByteArray)(w:World)(e:Ending)(w':World):Prop :=
 Ext w w'∧((m s=none∧e=.returned (.tuple #[.agg #[.int .i64 0,.slice none 0 0],.bool false]))∨∃x A c,m s=some x∧e=.returned (.tuple #[.agg #[.int .i64 x.rel.ar,.slice A x.rel.rows.length c],.bool true])∧Sl aG F w' (.slice A x.rel.rows.length c) x.rel.rows)
theorem gp{F:Nat→Prop}{w:World}{b n:Nat}{m:Dm}{s:ByteArray}(hD:DbB F w b n m)(hs:s.size≤maxLen) :
  Calls Tryz.prog 110 #[.agg #[.map (some b)],.string s] w (RelPost F m s w):=by
 obtain⟨f,hM,hm⟩:=hD
 have HM:=zN hM
 have k2:=bH w 33 179 [.map (some b)] [.int .i64 0,.slice none 0 0]
 have hx:Ext w ((w.alloc (.cells #[.map (some b)] 33)).alloc (.cells #[.int .i64 0,.slice none 0 0] 179)):=((Ext.refl w).alloc _).alloc _
 rcases hm s with ⟨h1,h2⟩|⟨x,u,h1,h2,u1,r1,rfl,hk,-,hr⟩
 ·have sg:Hid ((f s).getD (.agg #[.slice none 0 0,.int .i64 0,.slice none 0 0])=.agg #[.slice none 0 0,.int .i64 0,.slice none 0 0]):=zN (by rw[h2];rfl)
  have sj:Hid ((f s).isSome=false):=zN (by rw[h2];rfl)
  have sx:=zN h1
  clear hm h1 h2 hM
  go_enter Tryz.func110,Tryz.ntmps110
  go_upto_region 1 with fail
  change Bk ((w.alloc (.cells #[.map (some b)] 33)).alloc (.cells #[.int .i64 0,.slice none 0 0] 179)) _ _ _∧Bk ((w.alloc (.cells #[.map (some b)] 33)).alloc (.cells #[.int .i64 0,.slice none 0 0] 179)) _ _ _ at k2
  generalize ((w.alloc (.cells #[.map (some b)] 33)).alloc (.cells #[.int .i64 0,.slice none 0 0] 179))=w1 at *
  obtain⟨ka,kb⟩:=k2
  have a0:=ka.c0
  have HX:=zN hx;have sh:=zN kb;have si:=zN (HM.out.ext hx)
  have sy:=kb.lt
  clear ka kb hx
  go_upto_region 2 with (first
   | (refine az rfl _ _ 31 181 rfl Tryz.underlying31 (.agg #[.slice none 0 0,.int .i64 0,.slice none 0 0]) (bP _) b n f rfl si.out s rfl hs _ sg.out false sj.out ?_))
  have ke:=Bk.new w1 181 [.slice none 0 0,.int .i64 0,.slice none 0 0]
  change Bk (w1.alloc (.cells #[.slice none 0 0,.int .i64 0,.slice none 0 0] 181)) _ _ _ at ke
  have hx2:Ext w1 (w1.alloc (.cells #[.slice none 0 0,.int .i64 0,.slice none 0 0] 181)):=(Ext.refl w1).alloc _
  generalize (w1.alloc (.cells #[.slice none 0 0,.int .i64 0,.slice none 0 0] 181))=w2 at *
  have e1:=ke.c1;have e2:=ke.c2
  have se:=zN (sh.out.ext hx2);have sp:=zN (HX.out.trans hx2)
  have f0:=se.out.free 0;have f1:=se.out.free 1
  have b0:=se.out.c0;have b1:=se.out.c1
  clear ke hx2 a0
  go_wp2_with fail
  have kz:Bk ((w2.setCell ⟨w.heap.size+1,0,none⟩ (.int .i64 0)).setCell ⟨w.heap.size+1,1,none⟩ (.slice none 0 0)) (w.heap.size+1) 179 [.int .i64 0,.slice none 0 0]:=(se.out.set 0 _).set 1 _
  have sq:Ext w ((w2.setCell ⟨w.heap.size+1,0,none⟩ (.int .i64 0)).setCell ⟨w.heap.size+1,1,none⟩ (.slice none 0 0)):=(sp.out.setCell (p:=⟨w.heap.size+1,0,none⟩) (jO _) _).setCell (p:=⟨w.heap.size+1,1,none⟩) (jO _) _
  generalize ((w2.setCell ⟨w.heap.size+1,0,none⟩ (.int .i64 0)).setCell ⟨w.heap.size+1,1,none⟩ (.slice none 0 0))=wz at *
  have z0:=kz.c0;have z1:=kz.c1
  exact bodyPost_ret (v:=.tuple #[.agg #[.int .i64 0,.slice none 0 0],.bool false]) (by simp[results,Tryz.results110,go_sem,z0,z1]) rfl ⟨sq,.inl ⟨sx.out,rfl⟩⟩
 ·obtain⟨A,c,rfl⟩:=hr.sl
  have sg:Hid ((f s).getD (.agg #[.slice none 0 0,.int .i64 0,.slice none 0 0])=.agg #[u1,.int .i64 x.rel.ar,.slice A x.rel.rows.length c]):=zN (by rw[h2];rfl)
  have sj:Hid ((f s).isSome=true):=zN (by rw[h2];rfl)
  obtain⟨nr,sr⟩:=sd x.rel.rows.length
  obtain⟨ra,su⟩:=sd x.rel.ar
  have HQ:=zN (fun (V:World) (hV:Ext w V)=>(show RelPost F m s w (.returned (.tuple #[.agg #[.int .i64 ra,.slice A nr c],.bool true])) V by
   refine⟨hV,.inr ⟨x,A,c,h1,by rw[sr,su],hr.ext hV⟩⟩))
  rw[←sr,←su]at sg
  obtain⟨A0,c0,rfl⟩:∃A0 c0,u1=.slice A0 x.kinds.length c0:=let ⟨A0,c0,e,_⟩:=hk;⟨A0,c0,e⟩
  obtain⟨nk,sw⟩:=sd x.kinds.length
  rw[←sw]at sg
  clear hm h1 h2 hM hr hk sr su sw
  go_enter Tryz.func110,Tryz.ntmps110
  go_upto_region 1 with fail
  change Bk ((w.alloc (.cells #[.map (some b)] 33)).alloc (.cells #[.int .i64 0,.slice none 0 0] 179)) _ _ _∧Bk ((w.alloc (.cells #[.map (some b)] 33)).alloc (.cells #[.int .i64 0,.slice none 0 0] 179)) _ _ _ at k2
  generalize ((w.alloc (.cells #[.map (some b)] 33)).alloc (.cells #[.int .i64 0,.slice none 0 0] 179))=w1 at *
  obtain⟨ka,kb⟩:=k2
  have a0:=ka.c0
  have HX:=zN hx;have sh:=zN kb;have si:=zN (HM.out.ext hx)
  have sy:=kb.lt
  clear ka kb hx
  go_upto_region 2 with (first
   | (refine az rfl _ _ 31 181 rfl Tryz.underlying31 (.agg #[.slice none 0 0,.int .i64 0,.slice none 0 0]) (bP _) b n f rfl si.out s rfl hs _ sg.out true sj.out ?_))
  have ke:=Bk.new w1 181 [.slice A0 nk c0,.int .i64 ra,.slice A nr c]
  change Bk (w1.alloc (.cells #[.slice A0 nk c0,.int .i64 ra,.slice A nr c] 181)) _ _ _ at ke
  have hx2:Ext w1 (w1.alloc (.cells #[.slice A0 nk c0,.int .i64 ra,.slice A nr c] 181)):=(Ext.refl w1).alloc _
  generalize (w1.alloc (.cells #[.slice A0 nk c0,.int .i64 ra,.slice A nr c] 181))=w2 at *
  have e1:=ke.c1;have e2:=ke.c2
  have se:=zN (sh.out.ext hx2);have sp:=zN (HX.out.trans hx2)
  have f0:=se.out.free 0;have f1:=se.out.free 1
  have b0:=se.out.c0;have b1:=se.out.c1
  clear ke hx2 a0
  go_wp2_with fail
  have kz:Bk ((w2.setCell ⟨w.heap.size+1,0,none⟩ (.int .i64 ra)).setCell ⟨w.heap.size+1,1,none⟩ (.slice A nr c)) (w.heap.size+1) 179 [.int .i64 ra,.slice A nr c]:=(se.out.set 0 _).set 1 _
  have sq:Ext w ((w2.setCell ⟨w.heap.size+1,0,none⟩ (.int .i64 ra)).setCell ⟨w.heap.size+1,1,none⟩ (.slice A nr c)):=(sp.out.setCell (p:=⟨w.heap.size+1,0,none⟩) (jO _) _).setCell (p:=⟨w.heap.size+1,1,none⟩) (jO _) _
  generalize ((w2.setCell ⟨w.heap.size+1,0,none⟩ (.int .i64 ra)).setCell ⟨w.heap.size+1,1,none⟩ (.slice A nr c))=wz at *
  have z0:=kz.c0;have z1:=kz.c1
  exact bodyPost_ret (v:=.tuple #[.agg #[.int .i64 ra,.slice A nr c],.bool true]) (by simp[results,Tryz.results110,go_sem,z0,z1]) rfl (HQ.out _ sq)
theorem lu(s:ByteArray)(w:World)(hs:s.size≤281474976710656) :
  Calls Tryz.prog 144 #[.string s] w (fun e w'=>e=.returned (.string s)∧Ext w w'):=by
 go_enter Tryz.func144,Tryz.ntmps144
 go_wp2_with fail
 refine(Tryz.stringslite_Clone s w hs).mono ?_
 rintro e w2 ⟨rfl,he⟩
 have HE:Hid (Ext w w2):=zN he
 clear he
 go_wp2_with fail
 go_ret
 exact⟨rfl,HE.out⟩
def SchPost(m:Dm)(s:ByteArray)(w:World)(e:Ending)(w':World):Prop :=
 Ext w w'∧((m s=none∧e=.returned (.tuple #[.agg #[.string ⟨#[]⟩,.slice none 0 0],.bool false]))∨∃x A c,m s=some x∧e=.returned (.tuple #[.agg #[.string s,.slice A x.kinds.length c],.bool true]))
theorem schema_any{F:Nat→Prop}{w:World}{b n:Nat}{m:Dm}{s:ByteArray}(hD:DbB F w b n m)(sG:s.size≤maxLen)(sB:∀x,m s=some x→s.size≤1000∧x.kinds.length≤1000) :
  Calls Tryz.prog 67 #[.agg #[.map (some b)],.string s] w (SchPost m s w):=by
 obtain⟨f,hM,hm⟩:=hD
 have HM:=zN hM
 have k2:=bH w 33 92 [.map (some b)] [.string ⟨#[]⟩,.slice none 0 0]
 have hx:Ext w ((w.alloc (.cells #[.map (some b)] 33)).alloc (.cells #[.string ⟨#[]⟩,.slice none 0 0] 92)):=((Ext.refl w).alloc _).alloc _
 rcases hm s with ⟨h1,h2⟩|⟨x,u,h1,h2,u1,r1,rfl,hk,-,hr⟩
 ·have sh:Hid ((f s).getD (.agg #[.slice none 0 0,.int .i64 0,.slice none 0 0])=.agg #[.slice none 0 0,.int .i64 0,.slice none 0 0]):=zN (by rw[h2];rfl)
  have sx:Hid ((f s).isSome=false):=zN (by rw[h2];rfl)
  have sH:=zN h1
  clear hm h1 h2 hM sB
  go_enter Tryz.func67,Tryz.ntmps67
  go_upto_region 1 with fail
  change Bk ((w.alloc (.cells #[.map (some b)] 33)).alloc (.cells #[.string ⟨#[]⟩,.slice none 0 0] 92)) _ _ _∧Bk ((w.alloc (.cells #[.map (some b)] 33)).alloc (.cells #[.string ⟨#[]⟩,.slice none 0 0] 92)) _ _ _ at k2
  generalize ((w.alloc (.cells #[.map (some b)] 33)).alloc (.cells #[.string ⟨#[]⟩,.slice none 0 0] 92))=w1 at *
  obtain⟨ka,kb⟩:=k2
  have a0:=ka.c0
  have HX:=zN hx;have sr:=zN kb;have su:=zN (HM.out.ext hx)
  have sL:=kb.lt
  clear ka kb hx
  go_upto_region 2 with (first
   | (refine az rfl _ _ 31 181 rfl Tryz.underlying31 (.agg #[.slice none 0 0,.int .i64 0,.slice none 0 0]) (bP _) b n f rfl su.out s rfl sG _ sh.out false sx.out ?_))
  have ke:=Bk.new w1 181 [.slice none 0 0,.int .i64 0,.slice none 0 0]
  change Bk (w1.alloc (.cells #[.slice none 0 0,.int .i64 0,.slice none 0 0] 181)) _ _ _ at ke
  have hx2:Ext w1 (w1.alloc (.cells #[.slice none 0 0,.int .i64 0,.slice none 0 0] 181)):=(Ext.refl w1).alloc _
  generalize (w1.alloc (.cells #[.slice none 0 0,.int .i64 0,.slice none 0 0] 181))=w2 at *
  have e0:=ke.c0
  have se:=zN (sr.out.ext hx2);have si:=zN (HX.out.trans hx2)
  have f0:=se.out.free 0;have f1:=se.out.free 1
  have b0:=se.out.c0;have b1:=se.out.c1
  clear ke hx2 a0
  clear e0
  go_wp2_with fail
  have kz:Bk ((w2.setCell ⟨w.heap.size+1,0,none⟩ (.string ⟨#[]⟩)).setCell ⟨w.heap.size+1,1,none⟩ (.slice none 0 0)) (w.heap.size+1) 92 [.string ⟨#[]⟩,.slice none 0 0]:=(se.out.set 0 _).set 1 _
  have sA:Ext w ((w2.setCell ⟨w.heap.size+1,0,none⟩ (.string ⟨#[]⟩)).setCell ⟨w.heap.size+1,1,none⟩ (.slice none 0 0)):=(si.out.setCell (p:=⟨w.heap.size+1,0,none⟩) (jO _) _).setCell (p:=⟨w.heap.size+1,1,none⟩) (jO _) _
  generalize ((w2.setCell ⟨w.heap.size+1,0,none⟩ (.string ⟨#[]⟩)).setCell ⟨w.heap.size+1,1,none⟩ (.slice none 0 0))=wz at *
  have z0:=kz.c0;have z1:=kz.c1
  exact bodyPost_ret (v:=.tuple #[.agg #[.string ⟨#[]⟩,.slice none 0 0],.bool false]) (by simp[results,Tryz.results67,go_sem,z0,z1]) rfl ⟨sA,.inl ⟨sH.out,rfl⟩⟩
 ·obtain⟨A,c,rfl⟩:=hr.sl
  obtain⟨A0,c0,sI,-,sD⟩:=hk
  subst sI
  have sh:Hid ((f s).getD (.agg #[.slice none 0 0,.int .i64 0,.slice none 0 0])=.agg #[.slice A0 x.kinds.length c0,.int .i64 x.rel.ar,.slice A x.rel.rows.length c]):=zN (by rw[h2];rfl)
  have sx:Hid ((f s).isSome=true):=zN (by rw[h2];rfl)
  obtain⟨hs,sK⟩:=sB x h1
  obtain⟨nr,sE⟩:=sd x.rel.rows.length
  obtain⟨ra,sF⟩:=sd x.rel.ar
  obtain⟨nk,sp⟩:=sd x.kinds.length
  have HQ:=zN (fun (V:World) (A9:Option Addr) (c9:Nat) (hV:Ext w V)=>(show SchPost m s w (.returned (.tuple #[.agg #[.string s,.slice A9 nk c9],.bool true])) V by
   refine⟨hV,.inr ⟨x,A9,c9,h1,by rw[sp]⟩⟩))
  have sq:=zN (fun (V:World) (hV:Ext w V)=>kg (w:=V) (n:=nk) (c:=c0) (sD.ext hV) (by rw[jk,sp];omega) (by simp[Value.oneCell']) (by omega))
  have sw:=zN (fun (V:World)=>lu s V (by omega))
  rw[←sE,←sF,←sp]at sh
  clear hm h1 h2 hM hr sD sE sF sp sK sB
  go_enter Tryz.func67,Tryz.ntmps67
  go_upto_region 1 with fail
  change Bk ((w.alloc (.cells #[.map (some b)] 33)).alloc (.cells #[.string ⟨#[]⟩,.slice none 0 0] 92)) _ _ _∧Bk ((w.alloc (.cells #[.map (some b)] 33)).alloc (.cells #[.string ⟨#[]⟩,.slice none 0 0] 92)) _ _ _ at k2
  generalize ((w.alloc (.cells #[.map (some b)] 33)).alloc (.cells #[.string ⟨#[]⟩,.slice none 0 0] 92))=w1 at *
  obtain⟨ka,kb⟩:=k2
  have a0:=ka.c0
  have HX:=zN hx;have sr:=zN kb;have su:=zN (HM.out.ext hx)
  have sL:=kb.lt
  clear ka kb hx
  go_upto_region 2 with (first
   | (refine az rfl _ _ 31 181 rfl Tryz.underlying31 (.agg #[.slice none 0 0,.int .i64 0,.slice none 0 0]) (bP _) b n f rfl su.out s rfl sG _ sh.out true sx.out ?_))
  have ke:=Bk.new w1 181 [.slice A0 nk c0,.int .i64 ra,.slice A nr c]
  change Bk (w1.alloc (.cells #[.slice A0 nk c0,.int .i64 ra,.slice A nr c] 181)) _ _ _ at ke
  have hx2:Ext w1 (w1.alloc (.cells #[.slice A0 nk c0,.int .i64 ra,.slice A nr c] 181)):=(Ext.refl w1).alloc _
  generalize (w1.alloc (.cells #[.slice A0 nk c0,.int .i64 ra,.slice A nr c] 181))=w2 at *
  have e0:=ke.c0
  have se:=zN (sr.out.ext hx2);have si:=zN (HX.out.trans hx2)
  have f0:=se.out.free 0;have f1:=se.out.free 1
  have b0:=se.out.c0;have b1:=se.out.c1
  clear ke hx2 a0
  have sJ:w1.heap.size≠w.heap.size+1:=by omega
  go_upto_region 4 with fail
  go_region_held3 (fun V=>Fr (fun k=>k=w.heap.size+1) w2 V∧V.cell? ⟨w1.heap.size,0,none⟩=some (.slice A0 nk c0))
   ((refine(fun hf=>⟨hf,Fr.cell hf e0 sJ⟩) ?_;repeat (first|exact Fr.refl _ _|assumption|refine Fr.drew ?_|refine Fr.setCell ?_ (by first|exact .inl rfl|(left;rfl)) _|exact Ext.fr (by assumption) _)))
   (first
    | (go_at_call 144;(with_reducible refine(sw.out _).mono ?_);rintro e wi ⟨rfl,sy⟩;have sj:Ext w2 wi:=(by refine Ext.trans ?_ sy;repeat (first|exact Ext.refl _|refine Ext.drew ?_|refine Ext.trans ?_ (by assumption)));have sg:=se.out.ext sj;have b0:=sg.c0;have b1:=sg.c1;have f0:=sg.free 0;have f1:=sg.free 1)
    | (go_at_call 85;(with_reducible refine(sq.out _ (Ext.trans si.out (by repeat (first|exact Ext.refl _|refine Ext.drew ?_|refine Ext.trans ?_ (by assumption))))).mono ?_);rintro e wi ⟨yv,rfl,sy,sC⟩;obtain⟨A9,c9,rfl⟩:=af sC;have sj:Ext w2 wi:=(by refine Ext.trans ?_ sy;repeat (first|exact Ext.refl _|refine Ext.drew ?_|refine Ext.trans ?_ (by assumption)));have sg:=se.out.ext sj;have b0:=sg.c0;have b1:=sg.c1;have f0:=sg.free 0;have f1:=sg.free 1))
  all_goals
   have kz:Bk ((wi.setCell ⟨w.heap.size+1,0,none⟩ (.string s)).setCell ⟨w.heap.size+1,1,none⟩ (.slice A9 nk c9)) (w.heap.size+1) 92 [.string s,.slice A9 nk c9]:=(sg.set 0 _).set 1 _
   have sA:Ext w ((wi.setCell ⟨w.heap.size+1,0,none⟩ (.string s)).setCell ⟨w.heap.size+1,1,none⟩ (.slice A9 nk c9)):=((si.out.trans sj).setCell (p:=⟨w.heap.size+1,0,none⟩) (jO _) _).setCell (p:=⟨w.heap.size+1,1,none⟩) (jO _) _
   generalize ((wi.setCell ⟨w.heap.size+1,0,none⟩ (.string s)).setCell ⟨w.heap.size+1,1,none⟩ (.slice A9 nk c9))=wz at *
   have z0:=kz.c0;have z1:=kz.c1
   go_wp2_with fail
   exact bodyPost_ret (v:=.tuple #[.agg #[.string s,.slice A9 nk c9],.bool true]) (by simp[results,Tryz.results67,go_sem,z0,z1]) rfl (HQ.out _ _ _ sA)
