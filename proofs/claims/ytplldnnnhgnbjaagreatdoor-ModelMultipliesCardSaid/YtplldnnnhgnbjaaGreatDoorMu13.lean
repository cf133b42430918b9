/- packed -/
import Derived.Test.YtplldnnnhgnbjaaGreatDoorMu12
namespace Go.Proofs.YtplldnnnhgnbjaaGreatDoor
open Go.RowKit Go.Maps
set_option maxRecDepth 20000 in
set_option maxHeartbeats 1600000 in
theorem relnew_ok{w:World}{a:Int}(h0 : 0≤a)(h1:a≤32) :
  Calls Tryz.prog 84 #[.int .i64 a] w (fun e w'=>Ext w w'∧e=.returned (.tuple #[.agg #[.int .i64 a,.slice none 0 0],.int .i64 0])):=by
 have g0:¬a<0:=by omega
 have g1:¬32<a:=by omega
 go_enter Tryz.func84,Tryz.ntmps84
 go_wp2_with fail
 have kz:Bk ((w.alloc (.cells #[.int .i64 a,.slice none 0 0] 179))) w.heap.size 179 [.int .i64 a,.slice none 0 0]:=Bk.new w _ [_,_]
 have hez:Ext w (w.alloc (.cells #[.int .i64 a,.slice none 0 0] 179)):=(Ext.refl w).alloc _
 generalize (w.alloc (.cells #[.int .i64 a,.slice none 0 0] 179))=wz at *
 have z0:=kz.cell (i:=0) (by simp);have z1:=kz.cell (i:=1) (by simp)
 simp only[ja,je]at z0 z1
 exact bodyPost_ret (v:=.tuple #[.agg #[.int .i64 a,.slice none 0 0],.int .i64 0]) (by simp[results,Tryz.results84,go_sem,z0,z1]) rfl ⟨hez,rfl⟩
def ScOk(x:Sc):Prop:=catB x.name=true∧x.kinds.length≤6∧∀k∈x.kinds,k=1∨k=2
theorem zero_entry(w:World):(zeroValue 181).run Tryz.prog w=.ok (.agg #[.slice none 0 0,.int .i64 0,.slice none 0 0]) w:=by kernel_rfl
theorem dmL_none{ss:List Sc}{s:ByteArray}(h:dmL ss s=none):findS ss s=none:=by
 unfold dmL at h
 simpa using h
theorem upd_run{w:World}{b n:Nat}{f:ByteArray→Option Value}(hown:MapV w b n f)(hn:n<maxLen){s:ByteArray}(hs:s.size≤maxLen)(u:Value):∃w',(Instr.mapUpdate 31 (.map (some b)) (.string s) u).run Tryz.prog w=.ok () w'∧Hid (MapV w' b (n+1) (updV f s (some u))∧w.grownBy w' (some b)):=by
 obtain⟨D,hD,hti,hat,hhas⟩:=hown
 obtain⟨p1,p2,p3⟩:=put_view hti hat hhas s u
 obtain⟨w',hrun,r1,r2⟩:=hD.update law_str Tryz.underlying31 hn (keyOf_str s hs) (val:=u) (d:=.held u) (ps:=[]) rfl
 exact⟨w',hrun,zO ⟨⟨_,r1,p1,p2,p3⟩,r2⟩⟩
theorem run_makeMap_hint(w:World)(n:Int):(Instr.makeMap 31 (some (.int .i64 n))).run Tryz.prog w=.ok (.map (some w.heap.size)) (w.alloc (.map #[] 0)):=by
 simp[Instr.makeMap,run_underlying Tryz.underlying31,asInt,asIntOf,Result.andThen]
theorem scok_kinds{ks:List Int}{j:Nat}(hj:j<ks.length)(h:∀k∈ks.take j,k=1∨k=2)(h2:ks[j]=1∨ks[j]=2):∀k∈ks.take (j+1),k=1∨k=2:=by
 rw[jj hj]
 intro k hk
 rcases jp.1 hk with hk|hk
 ·exact h k hk
 ·rw[jt.1 hk];exact h2
theorem two_blk(w:World)(t u:TypeId)(cs ds:List Value):Bk ((w.alloc (.cells cs.toArray t)).alloc (.cells ds.toArray u)) w.heap.size t cs∧Bk ((w.alloc (.cells cs.toArray t)).alloc (.cells ds.toArray u)) (w.heap.size+1) u ds:=by
 refine⟨(Bk.new w t cs).alloc _,?_⟩
 have h:=Bk.new (w.alloc (.cells cs.toArray t)) u ds
 have e:(w.alloc (.cells cs.toArray t)).heap.size=w.heap.size+1:=by simp
 rw[e]at h
 exact h
def RelPost(F:Nat→Prop)(m:Dm)(s:ByteArray)(w:World)(e:Ending)(w':World):Prop :=
 Ext w w'∧((m s=none∧e=.returned (.tuple #[.agg #[.int .i64 0,.slice none 0 0],.bool false]))∨∃x A c,m s=some x∧e=.returned (.tuple #[.agg #[.int .i64 x.rel.ar,.slice A x.rel.rows.length c],.bool true])∧Sl rdRow F w' (.slice A x.rel.rows.length c) x.rel.rows)
set_option maxRecDepth 20000 in
set_option maxHeartbeats 1600000 in
theorem relation_any{F:Nat→Prop}{w:World}{b n:Nat}{m:Dm}{s:ByteArray}(hD:DbB F w b n m)(hs:s.size≤maxLen) :
  Calls Tryz.prog 110 #[.agg #[.map (some b)],.string s] w (RelPost F m s w):=by
 obtain⟨f,hM,hm⟩:=hD
 have HM:=zO hM
 have k2:=two_blk w 33 179 [.map (some b)] [.int .i64 0,.slice none 0 0]
 have hx:Ext w ((w.alloc (.cells #[.map (some b)] 33)).alloc (.cells #[.int .i64 0,.slice none 0 0] 179)):=((Ext.refl w).alloc _).alloc _
 rcases hm s with ⟨h1,h2⟩|⟨x,u,h1,h2,u1,r1,rfl,hk,-,hr⟩
 ·have HU1:Hid ((f s).getD (.agg #[.slice none 0 0,.int .i64 0,.slice none 0 0])=.agg #[.slice none 0 0,.int .i64 0,.slice none 0 0]):=zO (by rw[h2];rfl)
  have HU2:Hid ((f s).isSome=false):=zO (by rw[h2];rfl)
  have HNO:=zO h1
  clear hm h1 h2 hM
  go_enter Tryz.func110,Tryz.ntmps110
  go_upto_region 1 with fail
  change Bk ((w.alloc (.cells #[.map (some b)] 33)).alloc (.cells #[.int .i64 0,.slice none 0 0] 179)) _ _ _∧Bk ((w.alloc (.cells #[.map (some b)] 33)).alloc (.cells #[.int .i64 0,.slice none 0 0] 179)) _ _ _ at k2
  generalize ((w.alloc (.cells #[.map (some b)] 33)).alloc (.cells #[.int .i64 0,.slice none 0 0] 179))=w1 at *
  obtain⟨ka,kb⟩:=k2
  have a0:=ka.cell (i:=0) (by simp)
  simp only[ja,je]at a0
  have HX:=zO hx;have HKB:=zO kb;have HM1:=zO (HM.out.ext hx)
  have hlt:=kb.lt
  clear ka kb hx
  go_upto_region 2 with (first
   | (refine wpList_lookup_okV rfl _ _ 31 181 rfl Tryz.underlying31 (.agg #[.slice none 0 0,.int .i64 0,.slice none 0 0]) (zero_entry _) b n f rfl HM1.out s rfl hs _ HU1.out false HU2.out ?_))
  have ke:=Bk.new w1 181 [.slice none 0 0,.int .i64 0,.slice none 0 0]
  change Bk (w1.alloc (.cells #[.slice none 0 0,.int .i64 0,.slice none 0 0] 181)) _ _ _ at ke
  have hx2:Ext w1 (w1.alloc (.cells #[.slice none 0 0,.int .i64 0,.slice none 0 0] 181)):=(Ext.refl w1).alloc _
  generalize (w1.alloc (.cells #[.slice none 0 0,.int .i64 0,.slice none 0 0] 181))=w2 at *
  have e1:=ke.cell (i:=1) (by simp);have e2:=ke.cell (i:=2) (by simp)
  simp only[ja,je]at e1 e2
  have HKB2:=zO (HKB.out.ext hx2);have HX2:=zO (HX.out.trans hx2)
  have f0:=HKB2.out.free 0;have f1:=HKB2.out.free 1
  have b0:=HKB2.out.cell (i:=0) (by simp);have b1:=HKB2.out.cell (i:=1) (by simp)
  simp only[ja,je]at b0 b1
  clear ke hx2 a0
  go_wp2_with fail
  have kz:Bk ((w2.setCell ⟨w.heap.size+1,0,none⟩ (.int .i64 0)).setCell ⟨w.heap.size+1,1,none⟩ (.slice none 0 0)) (w.heap.size+1) 179 [.int .i64 0,.slice none 0 0]:=(HKB2.out.set 0 _).set 1 _
  have hez:Ext w ((w2.setCell ⟨w.heap.size+1,0,none⟩ (.int .i64 0)).setCell ⟨w.heap.size+1,1,none⟩ (.slice none 0 0)):=(HX2.out.setCell (p:=⟨w.heap.size+1,0,none⟩) (jP _) _).setCell (p:=⟨w.heap.size+1,1,none⟩) (jP _) _
  generalize ((w2.setCell ⟨w.heap.size+1,0,none⟩ (.int .i64 0)).setCell ⟨w.heap.size+1,1,none⟩ (.slice none 0 0))=wz at *
  have z0:=kz.cell (i:=0) (by simp);have z1:=kz.cell (i:=1) (by simp)
  simp only[ja,je]at z0 z1
  exact bodyPost_ret (v:=.tuple #[.agg #[.int .i64 0,.slice none 0 0],.bool false]) (by simp[results,Tryz.results110,go_sem,z0,z1]) rfl ⟨hez,.inl ⟨HNO.out,rfl⟩⟩
 ·obtain⟨A,c,rfl⟩:=hr.sl
  have HU1:Hid ((f s).getD (.agg #[.slice none 0 0,.int .i64 0,.slice none 0 0])=.agg #[u1,.int .i64 x.rel.ar,.slice A x.rel.rows.length c]):=zO (by rw[h2];rfl)
  have HU2:Hid ((f s).isSome=true):=zO (by rw[h2];rfl)
  obtain⟨nr,hnr⟩:∃k,k=x.rel.rows.length:=⟨_,rfl⟩
  obtain⟨ra,hra⟩:∃k,k=x.rel.ar:=⟨_,rfl⟩
  have HQ:=zO (fun (V:World) (hV:Ext w V)=>(show RelPost F m s w (.returned (.tuple #[.agg #[.int .i64 ra,.slice A nr c],.bool true])) V by
   refine⟨hV,.inr ⟨x,A,c,h1,by rw[hnr,hra],hr.ext hV⟩⟩))
  rw[←hnr,←hra]at HU1
  obtain⟨A0,c0,rfl⟩:∃A0 c0,u1=.slice A0 x.kinds.length c0:=let ⟨A0,c0,e,_⟩:=hk;⟨A0,c0,e⟩
  obtain⟨nk,hnk⟩:∃k,k=x.kinds.length:=⟨_,rfl⟩
  rw[←hnk]at HU1
  clear hm h1 h2 hM hr hk hnr hra hnk
  go_enter Tryz.func110,Tryz.ntmps110
  go_upto_region 1 with fail
  change Bk ((w.alloc (.cells #[.map (some b)] 33)).alloc (.cells #[.int .i64 0,.slice none 0 0] 179)) _ _ _∧Bk ((w.alloc (.cells #[.map (some b)] 33)).alloc (.cells #[.int .i64 0,.slice none 0 0] 179)) _ _ _ at k2
  generalize ((w.alloc (.cells #[.map (some b)] 33)).alloc (.cells #[.int .i64 0,.slice none 0 0] 179))=w1 at *
  obtain⟨ka,kb⟩:=k2
  have a0:=ka.cell (i:=0) (by simp)
  simp only[ja,je]at a0
  have HX:=zO hx;have HKB:=zO kb;have HM1:=zO (HM.out.ext hx)
  have hlt:=kb.lt
  clear ka kb hx
  go_upto_region 2 with (first
   | (refine wpList_lookup_okV rfl _ _ 31 181 rfl Tryz.underlying31 (.agg #[.slice none 0 0,.int .i64 0,.slice none 0 0]) (zero_entry _) b n f rfl HM1.out s rfl hs _ HU1.out true HU2.out ?_))
  have ke:=Bk.new w1 181 [.slice A0 nk c0,.int .i64 ra,.slice A nr c]
  change Bk (w1.alloc (.cells #[.slice A0 nk c0,.int .i64 ra,.slice A nr c] 181)) _ _ _ at ke
  have hx2:Ext w1 (w1.alloc (.cells #[.slice A0 nk c0,.int .i64 ra,.slice A nr c] 181)):=(Ext.refl w1).alloc _
  generalize (w1.alloc (.cells #[.slice A0 nk c0,.int .i64 ra,.slice A nr c] 181))=w2 at *
  have e1:=ke.cell (i:=1) (by simp);have e2:=ke.cell (i:=2) (by simp)
  simp only[ja,je]at e1 e2
  have HKB2:=zO (HKB.out.ext hx2);have HX2:=zO (HX.out.trans hx2)
  have f0:=HKB2.out.free 0;have f1:=HKB2.out.free 1
  have b0:=HKB2.out.cell (i:=0) (by simp);have b1:=HKB2.out.cell (i:=1) (by simp)
  simp only[ja,je]at b0 b1
  clear ke hx2 a0
  go_wp2_with fail
  have kz:Bk ((w2.setCell ⟨w.heap.size+1,0,none⟩ (.int .i64 ra)).setCell ⟨w.heap.size+1,1,none⟩ (.slice A nr c)) (w.heap.size+1) 179 [.int .i64 ra,.slice A nr c]:=(HKB2.out.set 0 _).set 1 _
  have hez:Ext w ((w2.setCell ⟨w.heap.size+1,0,none⟩ (.int .i64 ra)).setCell ⟨w.heap.size+1,1,none⟩ (.slice A nr c)):=(HX2.out.setCell (p:=⟨w.heap.size+1,0,none⟩) (jP _) _).setCell (p:=⟨w.heap.size+1,1,none⟩) (jP _) _
  generalize ((w2.setCell ⟨w.heap.size+1,0,none⟩ (.int .i64 ra)).setCell ⟨w.heap.size+1,1,none⟩ (.slice A nr c))=wz at *
  have z0:=kz.cell (i:=0) (by simp);have z1:=kz.cell (i:=1) (by simp)
  simp only[ja,je]at z0 z1
  exact bodyPost_ret (v:=.tuple #[.agg #[.int .i64 ra,.slice A nr c],.bool true]) (by simp[results,Tryz.results110,go_sem,z0,z1]) rfl (HQ.out _ hez)
set_option maxRecDepth 20000 in
theorem strclone_any(s:ByteArray)(w:World)(hs:s.size≤281474976710656) :
  Calls Tryz.prog 144 #[.string s] w (fun e w'=>e=.returned (.string s)∧Ext w w'):=by
 go_enter Tryz.func144,Tryz.ntmps144
 go_wp2_with fail
 refine(Tryz.stringslite_Clone s w hs).mono ?_
 rintro e w2 ⟨rfl,he⟩
 have HE:Hid (Ext w w2):=zO he
 clear he
 go_wp2_with fail
 go_ret
 exact⟨rfl,HE.out⟩
def SchPost(m:Dm)(s:ByteArray)(w:World)(e:Ending)(w':World):Prop :=
 Ext w w'∧((m s=none∧e=.returned (.tuple #[.agg #[.string ⟨#[]⟩,.slice none 0 0],.bool false]))∨∃x A c,m s=some x∧e=.returned (.tuple #[.agg #[.string s,.slice A x.kinds.length c],.bool true]))
set_option maxRecDepth 20000 in
set_option maxHeartbeats 1600000 in
theorem schema_any{F:Nat→Prop}{w:World}{b n:Nat}{m:Dm}{s:ByteArray}(hD:DbB F w b n m)(hs2:s.size≤maxLen)(hkb:∀x,m s=some x→s.size≤1000∧x.kinds.length≤1000) :
  Calls Tryz.prog 67 #[.agg #[.map (some b)],.string s] w (SchPost m s w):=by
 obtain⟨f,hM,hm⟩:=hD
 have HM:=zO hM
 have k2:=two_blk w 33 92 [.map (some b)] [.string ⟨#[]⟩,.slice none 0 0]
 have hx:Ext w ((w.alloc (.cells #[.map (some b)] 33)).alloc (.cells #[.string ⟨#[]⟩,.slice none 0 0] 92)):=((Ext.refl w).alloc _).alloc _
 rcases hm s with ⟨h1,h2⟩|⟨x,u,h1,h2,u1,r1,rfl,hk,-,hr⟩
 ·have HU1:Hid ((f s).getD (.agg #[.slice none 0 0,.int .i64 0,.slice none 0 0])=.agg #[.slice none 0 0,.int .i64 0,.slice none 0 0]):=zO (by rw[h2];rfl)
  have HU2:Hid ((f s).isSome=false):=zO (by rw[h2];rfl)
  have HNO:=zO h1
  clear hm h1 h2 hM hkb
  go_enter Tryz.func67,Tryz.ntmps67
  go_upto_region 1 with fail
  change Bk ((w.alloc (.cells #[.map (some b)] 33)).alloc (.cells #[.string ⟨#[]⟩,.slice none 0 0] 92)) _ _ _∧Bk ((w.alloc (.cells #[.map (some b)] 33)).alloc (.cells #[.string ⟨#[]⟩,.slice none 0 0] 92)) _ _ _ at k2
  generalize ((w.alloc (.cells #[.map (some b)] 33)).alloc (.cells #[.string ⟨#[]⟩,.slice none 0 0] 92))=w1 at *
  obtain⟨ka,kb⟩:=k2
  have a0:=ka.cell (i:=0) (by simp)
  simp only[ja,je]at a0
  have HX:=zO hx;have HKB:=zO kb;have HM1:=zO (HM.out.ext hx)
  have hlt:=kb.lt
  clear ka kb hx
  go_upto_region 2 with (first
   | (refine wpList_lookup_okV rfl _ _ 31 181 rfl Tryz.underlying31 (.agg #[.slice none 0 0,.int .i64 0,.slice none 0 0]) (zero_entry _) b n f rfl HM1.out s rfl hs2 _ HU1.out false HU2.out ?_))
  have ke:=Bk.new w1 181 [.slice none 0 0,.int .i64 0,.slice none 0 0]
  change Bk (w1.alloc (.cells #[.slice none 0 0,.int .i64 0,.slice none 0 0] 181)) _ _ _ at ke
  have hx2:Ext w1 (w1.alloc (.cells #[.slice none 0 0,.int .i64 0,.slice none 0 0] 181)):=(Ext.refl w1).alloc _
  generalize (w1.alloc (.cells #[.slice none 0 0,.int .i64 0,.slice none 0 0] 181))=w2 at *
  have e0:=ke.cell (i:=0) (by simp)
  simp only[ja,je]at e0
  have HKB2:=zO (HKB.out.ext hx2);have HX2:=zO (HX.out.trans hx2)
  have f0:=HKB2.out.free 0;have f1:=HKB2.out.free 1
  have b0:=HKB2.out.cell (i:=0) (by simp);have b1:=HKB2.out.cell (i:=1) (by simp)
  simp only[ja,je]at b0 b1
  clear ke hx2 a0
  clear e0
  go_wp2_with fail
  have kz:Bk ((w2.setCell ⟨w.heap.size+1,0,none⟩ (.string ⟨#[]⟩)).setCell ⟨w.heap.size+1,1,none⟩ (.slice none 0 0)) (w.heap.size+1) 92 [.string ⟨#[]⟩,.slice none 0 0]:=(HKB2.out.set 0 _).set 1 _
  have hez:Ext w ((w2.setCell ⟨w.heap.size+1,0,none⟩ (.string ⟨#[]⟩)).setCell ⟨w.heap.size+1,1,none⟩ (.slice none 0 0)):=(HX2.out.setCell (p:=⟨w.heap.size+1,0,none⟩) (jP _) _).setCell (p:=⟨w.heap.size+1,1,none⟩) (jP _) _
  generalize ((w2.setCell ⟨w.heap.size+1,0,none⟩ (.string ⟨#[]⟩)).setCell ⟨w.heap.size+1,1,none⟩ (.slice none 0 0))=wz at *
  have z0:=kz.cell (i:=0) (by simp);have z1:=kz.cell (i:=1) (by simp)
  simp only[ja,je]at z0 z1
  exact bodyPost_ret (v:=.tuple #[.agg #[.string ⟨#[]⟩,.slice none 0 0],.bool false]) (by simp[results,Tryz.results67,go_sem,z0,z1]) rfl ⟨hez,.inl ⟨HNO.out,rfl⟩⟩
 ·obtain⟨A,c,rfl⟩:=hr.sl
  obtain⟨A0,c0,e0',-,hck⟩:=hk
  subst e0'
  have HU1:Hid ((f s).getD (.agg #[.slice none 0 0,.int .i64 0,.slice none 0 0])=.agg #[.slice A0 x.kinds.length c0,.int .i64 x.rel.ar,.slice A x.rel.rows.length c]):=zO (by rw[h2];rfl)
  have HU2:Hid ((f s).isSome=true):=zO (by rw[h2];rfl)
  obtain⟨hs,hkl⟩:=hkb x h1
  obtain⟨nr,hnr⟩:∃k,k=x.rel.rows.length:=⟨_,rfl⟩
  obtain⟨ra,hra⟩:∃k,k=x.rel.ar:=⟨_,rfl⟩
  obtain⟨nk,hnk⟩:∃k,k=x.kinds.length:=⟨_,rfl⟩
  have HQ:=zO (fun (V:World) (A9:Option Addr) (c9:Nat) (hV:Ext w V)=>(show SchPost m s w (.returned (.tuple #[.agg #[.string s,.slice A9 nk c9],.bool true])) V by
   refine⟨hV,.inr ⟨x,A9,c9,h1,by rw[hnk]⟩⟩))
  have HCLN:=zO (fun (V:World) (hV:Ext w V)=>clone_ints (w:=V) (n:=nk) (c:=c0) (hck.ext hV) (by rw[jm,hnk];omega) (by simp[Value.oneCell']) (by omega))
  have HSTR:=zO (fun (V:World)=>strclone_any s V (by omega))
  rw[←hnr,←hra,←hnk]at HU1
  clear hm h1 h2 hM hr hck hnr hra hnk hkl hkb
  go_enter Tryz.func67,Tryz.ntmps67
  go_upto_region 1 with fail
  change Bk ((w.alloc (.cells #[.map (some b)] 33)).alloc (.cells #[.string ⟨#[]⟩,.slice none 0 0] 92)) _ _ _∧Bk ((w.alloc (.cells #[.map (some b)] 33)).alloc (.cells #[.string ⟨#[]⟩,.slice none 0 0] 92)) _ _ _ at k2
  generalize ((w.alloc (.cells #[.map (some b)] 33)).alloc (.cells #[.string ⟨#[]⟩,.slice none 0 0] 92))=w1 at *
  obtain⟨ka,kb⟩:=k2
  have a0:=ka.cell (i:=0) (by simp)
  simp only[ja,je]at a0
  have HX:=zO hx;have HKB:=zO kb;have HM1:=zO (HM.out.ext hx)
  have hlt:=kb.lt
  clear ka kb hx
  go_upto_region 2 with (first
   | (refine wpList_lookup_okV rfl _ _ 31 181 rfl Tryz.underlying31 (.agg #[.slice none 0 0,.int .i64 0,.slice none 0 0]) (zero_entry _) b n f rfl HM1.out s rfl hs2 _ HU1.out true HU2.out ?_))
  have ke:=Bk.new w1 181 [.slice A0 nk c0,.int .i64 ra,.slice A nr c]
  change Bk (w1.alloc (.cells #[.slice A0 nk c0,.int .i64 ra,.slice A nr c] 181)) _ _ _ at ke
  have hx2:Ext w1 (w1.alloc (.cells #[.slice A0 nk c0,.int .i64 ra,.slice A nr c] 181)):=(Ext.refl w1).alloc _
  generalize (w1.alloc (.cells #[.slice A0 nk c0,.int .i64 ra,.slice A nr c] 181))=w2 at *
  have e0:=ke.cell (i:=0) (by simp)
  simp only[ja,je]at e0
  have HKB2:=zO (HKB.out.ext hx2);have HX2:=zO (HX.out.trans hx2)
  have f0:=HKB2.out.free 0;have f1:=HKB2.out.free 1
  have b0:=HKB2.out.cell (i:=0) (by simp);have b1:=HKB2.out.cell (i:=1) (by simp)
  simp only[ja,je]at b0 b1
  clear ke hx2 a0
  have he1:w1.heap.size≠w.heap.size+1:=by omega
  go_upto_region 4 with fail
  go_region_held3 (fun V=>Fr (fun k=>k=w.heap.size+1) w2 V∧V.cell? ⟨w1.heap.size,0,none⟩=some (.slice A0 nk c0))
   ((refine(fun hf=>⟨hf,Fr.cell hf e0 he1⟩) ?_;repeat (first|exact Fr.refl _ _|assumption|refine Fr.drew ?_|refine Fr.setCell ?_ (by first|exact .inl rfl|(left;rfl)) _|exact Ext.fr (by assumption) _)))
   (first
    | (go_at_call 144;(with_reducible refine(HSTR.out _).mono ?_);rintro e wi ⟨rfl,hei⟩;have hen:Ext w2 wi:=(by refine Ext.trans ?_ hei;repeat (first|exact Ext.refl _|refine Ext.drew ?_|refine Ext.trans ?_ (by assumption)));have kbi:=HKB2.out.ext hen;have b0:=kbi.cell (i:=0) (by simp);have b1:=kbi.cell (i:=1) (by simp);have f0:=kbi.free 0;have f1:=kbi.free 1;simp only[ja,je]at b0 b1)
    | (go_at_call 85;(with_reducible refine(HCLN.out _ (Ext.trans HX2.out (by repeat (first|exact Ext.refl _|refine Ext.drew ?_|refine Ext.trans ?_ (by assumption))))).mono ?_);rintro e wi ⟨yv,rfl,hei,hown⟩;obtain⟨A9,c9,rfl⟩:=own_slice hown;have hen:Ext w2 wi:=(by refine Ext.trans ?_ hei;repeat (first|exact Ext.refl _|refine Ext.drew ?_|refine Ext.trans ?_ (by assumption)));have kbi:=HKB2.out.ext hen;have b0:=kbi.cell (i:=0) (by simp);have b1:=kbi.cell (i:=1) (by simp);have f0:=kbi.free 0;have f1:=kbi.free 1;simp only[ja,je]at b0 b1))
  all_goals
   have kz:Bk ((wi.setCell ⟨w.heap.size+1,0,none⟩ (.string s)).setCell ⟨w.heap.size+1,1,none⟩ (.slice A9 nk c9)) (w.heap.size+1) 92 [.string s,.slice A9 nk c9]:=(kbi.set 0 _).set 1 _
   have hez:Ext w ((wi.setCell ⟨w.heap.size+1,0,none⟩ (.string s)).setCell ⟨w.heap.size+1,1,none⟩ (.slice A9 nk c9)):=((HX2.out.trans hen).setCell (p:=⟨w.heap.size+1,0,none⟩) (jP _) _).setCell (p:=⟨w.heap.size+1,1,none⟩) (jP _) _
   generalize ((wi.setCell ⟨w.heap.size+1,0,none⟩ (.string s)).setCell ⟨w.heap.size+1,1,none⟩ (.slice A9 nk c9))=wz at *
   have z0:=kz.cell (i:=0) (by simp);have z1:=kz.cell (i:=1) (by simp)
   simp only[ja,je]at z0 z1
   go_wp2_with fail
   exact bodyPost_ret (v:=.tuple #[.agg #[.string s,.slice A9 nk c9],.bool true]) (by simp[results,Tryz.results67,go_sem,z0,z1]) rfl (HQ.out _ _ _ hez)
