/- packed -/
import Derived.Test.YtplldnnnhgnbjaaGreatDoorMu17
import Derived.Test.YtplldnnnhgnbjaaGreatDoorMu18
import Derived.Test.YtplldnnnhgnbjaaGreatDoorMu13
import Derived.Test.YtplldnnnhgnbjaaGreatDoorMu09
namespace Go.Proofs.YtplldnnnhgnbjaaGreatDoor
open Go.RowKit Go.Maps
theorem own_base{w:World}{b b' size n:Nat}{e:TypeId}{v:Value}{xs:List Value}(h:w.ownsRow b e size v n xs)(hb:b'≤b):w.ownsRow b' e size v n xs:=by
 obtain⟨h1,h2⟩:=h
 refine⟨h1,?_⟩
 rcases h2 with h2|⟨g,cap,cur,h3,h4,h5⟩
 ·exact .inl h2
 ·exact .inr ⟨g,cap,cur,h3,js hb h4,h5⟩
def NegPost(F:Nat→Prop)(x:En)(zs:List Int)(ts:List Tm)(w:World)(e:Ending)(w':World):Prop :=
 Ext w w'∧∃A c u v,e=.returned (.agg #[.int .i64 x.rel.ar,.slice A x.rel.rows.length c,u,v])∧Sl rdRow F w' (.slice A x.rel.rows.length c) x.rel.rows∧w'.ownsRow w.heap.size 3 1 u ts.length (zs.map I64)∧w'.ownsRow w.heap.size 51 3 v ts.length (vcells (ts.map Tm.vl))
set_option maxRecDepth 20000 in
set_option maxHeartbeats 3200000 in
theorem newneg_any{F G:Nat→Prop}{w:World}{b n b2 n2 d:Nat}{m:Dm}{ng:Bool}{rl:ByteArray}{B:Option Addr}{ts:List Tm}{x:En}{f:ByteArray→Option Value}{num:ByteArray→Int}(hD:DbB F w b n m)(hm:m rl=some x)(hrl:rl.size≤maxLen)(hcl:Cl G w B (tcells ts))(hl:ts.length≤1000)(hN:MapV w b2 n2 f)(hf:∀t∈ts,t.var.size≤maxLen∧(f t.var).getD (.int .i64 0)=.int .i64 (num t.var)) :
  Calls Tryz.prog 184 #[.agg #[.bool ng,.string rl,.slice B ts.length d],.agg #[.map (some b)],.map (some b2)] w (NegPost F x (ts.map (fun t=>num t.var)) ts w):=by
 obtain⟨nt,hnt⟩:∃nt,nt=ts.length:=⟨_,rfl⟩
 obtain⟨ra,hra⟩:∃k,k=x.rel.ar:=⟨_,rfl⟩
 obtain⟨nr,hnr⟩:∃k,k=x.rel.rows.length:=⟨_,rfl⟩
 have HREL:=zO (fun (V:World) (hV:Ext w V)=>(relation_any (s:=rl) ((hD.mono (G:=fun k=>F k∧k<w.heap.size) (fun k h1 h2=>⟨h2,h1⟩)).ext hV) hrl).mono (R':=fun e w'=>Ext V w'∧∃A c,e=.returned (.tuple #[.agg #[.int .i64 ra,.slice A nr c],.bool true])∧Sl rdRow (fun k=>F k∧k<w.heap.size) w' (.slice A nr c) x.rel.rows) (by
  rintro e w' ⟨he,⟨h0,-⟩|⟨y,A,c,h0,rfl,hin⟩⟩
  ·rw[hm]at h0
   cases h0
  ·rw[hm]at h0
   injection h0 with h0
   subst h0
   rw[hra,hnr]
   exact⟨he,A,c,rfl,hin⟩))
 have HQ:=zO (fun (V:World) (A:Option Addr) (c:Nat) (u v:Value) (h0:Ext w V) (h1:Sl rdRow F V (.slice A nr c) x.rel.rows) (h2:V.ownsRow w.heap.size 3 1 u nt ((ts.map (fun t=>num t.var)).map I64)) (h3:V.ownsRow w.heap.size 51 3 v nt (vcells (ts.map Tm.vl)))=>(show NegPost F x (ts.map (fun t=>num t.var)) ts w (.returned (.agg #[.int .i64 ra,.slice A nr c,u,v])) V by
  subst hra hnr hnt
  exact⟨h0,A,c,u,v,rfl,h1,h2,h3⟩))
 rw[←hnt]at hl ⊢
 have HNT:=zO hnt;have HCL:=zO hcl;have HN:=zO hN;have HF:=zO hf
 have hx:=((((Ext.refl w).alloc (.cells #[.bool ng,.string rl,.slice B nt d] 49)).alloc (.cells #[.map (some b)] 33)).alloc (.cells #[.int .i64 0,.slice none 0 0,.slice none 0 0,.slice none 0 0] 220))
 have k3:=three_blk w 49 33 220 [.bool ng,.string rl,.slice B nt d] [.map (some b)] [.int .i64 0,.slice none 0 0,.slice none 0 0,.slice none 0 0]
 clear hnt hra hnr hD hm hcl hN hf
 obtain⟨i0,hi0,hz0,hz1,hz2⟩:=info_parts info_i64
 have HI0:=zO (And.intro hi0 (And.intro hz0 (And.intro hz1 hz2)));clear hi0 hz0 hz1 hz2
 obtain⟨j0,hi0,hz0,hz1,hz2⟩:=info_parts info_val
 have HJ0:=zO (And.intro hi0 (And.intro hz0 (And.intro hz1 hz2)));clear hi0 hz0 hz1 hz2
 go_enter Tryz.func184,Tryz.ntmps184
 go_upto_region 1 with fail
 change Bk (((w.alloc (.cells #[.bool ng,.string rl,.slice B nt d] 49)).alloc (.cells #[.map (some b)] 33)).alloc (.cells #[.int .i64 0,.slice none 0 0,.slice none 0 0,.slice none 0 0] 220)) _ _ _∧Bk (((w.alloc (.cells #[.bool ng,.string rl,.slice B nt d] 49)).alloc (.cells #[.map (some b)] 33)).alloc (.cells #[.int .i64 0,.slice none 0 0,.slice none 0 0,.slice none 0 0] 220)) _ _ _∧Bk (((w.alloc (.cells #[.bool ng,.string rl,.slice B nt d] 49)).alloc (.cells #[.map (some b)] 33)).alloc (.cells #[.int .i64 0,.slice none 0 0,.slice none 0 0,.slice none 0 0] 220)) _ _ _ at k3
 generalize (((w.alloc (.cells #[.bool ng,.string rl,.slice B nt d] 49)).alloc (.cells #[.map (some b)] 33)).alloc (.cells #[.int .i64 0,.slice none 0 0,.slice none 0 0,.slice none 0 0] 220))=w1 at *
 obtain⟨ka,kd,kr⟩:=k3
 have a1:=ka.cell (i:=1) (by simp)
 have d0:=kd.cell (i:=0) (by simp)
 simp only[ja,je]at a1 d0
 have HX1:=zO hx;have HKA:=zO ka;have HKR:=zO kr
 clear hx ka kd kr
 go_wp2_with fail
 refine(HREL.out _ HX1.out).mono ?_
 rintro e w2 ⟨he2,A,c,rfl,hsl⟩
 have HX2:=zO (HX1.out.trans he2);have HKA2:=zO (HKA.out.ext he2);have HKR2:=zO (HKR.out.ext he2);have HSL:=zO hsl
 have a2:=HKA2.out.cell (i:=2) (by simp)
 simp only[ja,je]at a2
 have hlr:=HKR2.out.lt
 clear he2 hsl a1 d0
 go_upto_region 3 with fail
 have k2:=two_blk w2 179 220 [.int .i64 ra,.slice A nr c] [.int .i64 ra,.slice A nr c,.slice none 0 0,.slice none 0 0]
 change Bk ((w2.alloc (.cells #[.int .i64 ra,.slice A nr c] 179)).alloc (.cells #[.int .i64 ra,.slice A nr c,.slice none 0 0,.slice none 0 0] 220)) _ _ _∧Bk ((w2.alloc (.cells #[.int .i64 ra,.slice A nr c] 179)).alloc (.cells #[.int .i64 ra,.slice A nr c,.slice none 0 0,.slice none 0 0] 220)) _ _ _ at k2
 have hx5:Ext w2 ((w2.alloc (.cells #[.int .i64 ra,.slice A nr c] 179)).alloc (.cells #[.int .i64 ra,.slice A nr c,.slice none 0 0,.slice none 0 0] 220)):=((Ext.refl w2).alloc _).alloc _
 generalize ((w2.alloc (.cells #[.int .i64 ra,.slice A nr c] 179)).alloc (.cells #[.int .i64 ra,.slice A nr c,.slice none 0 0,.slice none 0 0] 220))=w5 at *
 obtain⟨-,kn⟩:=k2
 obtain⟨g,hg⟩:∃g,g=w2.heap.size+1:=⟨_,rfl⟩
 rw[←hg]at kn ⊢
 have hgr:w.heap.size+1+1<g:=by omega
 have hg5:g<w5.heap.size:=kn.lt
 have HKN:=zO kn;have HX5:=zO (HX2.out.trans hx5);have HKR5:=zO (HKR2.out.ext hx5);have HSL5:=zO (HSL.out.ext hx5)
 replace a2:=hx5.cell a2
 clear kn hx5 hg hlr HSL HKA HKA2 HKR HKR2
 go_wp2_with fail
 clear a2
 go_loopw [24] (fun t wr=>∃(j:Nat) (u v:Value),j≤nt∧t=.int .i64 (j:Int)∧Hid (Bk wr g 220 [.int .i64 ra,.slice A nr c,u,v])∧Hid (wr.ownsRow w5.heap.size 3 1 u j (((ts.take j).map (fun t=>num t.var)).map I64))∧Hid (wr.ownsRow w5.heap.size 51 3 v j (vcells ((ts.take j).map Tm.vl)))∧Hid (Fr (fun b=>b=g) w5 wr)) (fun t _=>nt-(intOf t).toNat)
 case atStart=>exact⟨0,_,_,jn _,rfl,HKN,zO (World.ownsRow_nil _ _ _ _),zO (World.ownsRow_nil _ _ _ _),zO (Fr.refl _ _)⟩
 case round =>
  obtain⟨j,u,v,hj,rfl,HB,HU,HV,HFR⟩:=hrel
  obtain⟨W,rfl⟩:∃W:World,W=wr:=⟨_,rfl⟩
  obtain⟨Au,cu,rfl⟩:=own_slice HU.out
  obtain⟨Av,cv,rfl⟩:=own_slice HV.out
  have HXR:=zO (HFR.out.new HX5.out (fun b hb=>by omega))
  have hwr5:w5.heap.size≤W.heap.size:=HFR.out.size
  have y0:=HB.out.cell (i:=0) (by simp);have y1:=HB.out.cell (i:=1) (by simp);have y2:=HB.out.cell (i:=2) (by simp);have y3:=HB.out.cell (i:=3) (by simp)
  simp only[ja,je]at y0 y1 y2 y3
  by_cases hjl:j<nt
  ·have j1:(0:Int)≤(j:Int):=by omega
   have j2:(j:Int)<(nt:Int):=by omega
   have hjt:j<ts.length:=by have:=HNT.out;omega
   obtain⟨adt,rfl,-,e0,e1,e2,e3⟩:=HCL.out.term hjt
   replace e0:=HXR.out.cell e0;replace e1:=HXR.out.cell e1;replace e2:=HXR.out.cell e2;replace e3:=HXR.out.cell e3
   have htk:ts.take (j+1)=ts.take j++[ts[j]]:=jj hjt
   obtain⟨hz1,hget⟩:=HF.out _ (jg hjt)
   obtain⟨t,ht⟩:∃t,t=ts[j]:=⟨_,rfl⟩
   rw[←ht]at e0 e1 e2 e3 htk hz1 hget
   obtain⟨tv,tk,ti,tst⟩:=t
   simp only at e0 e1 e2 e3 hz1 hget
   obtain⟨xv,hxv⟩:∃x,x=num tv:=⟨_,rfl⟩
   rw[←hxv]at hget
   have HTK1:Hid (((ts.take (j+1)).map (fun t=>num t.var)).map I64=((ts.take j).map (fun t=>num t.var)).map I64++[.int .i64 xv]):=zO (by rw[htk,jI,jI,hxv];rfl)
   have HTK2:Hid (vcells ((ts.take (j+1)).map Tm.vl)=vcells ((ts.take j).map Tm.vl)++[.int .i64 tk,.int .i64 ti,.string tst]):=zO (by rw[htk,jI];exact vcells_app _ _)
   have HGET:=zO hget
   clear htk ht hget hxv hjt y0 y1 y3
   go_upto_region 6 with fail
   have kt:=Bk.new W 132 [.string tv,.int .i64 tk,.int .i64 ti,.string tst]
   change Bk (W.alloc (.cells #[.string tv,.int .i64 tk,.int .i64 ti,.string tst] 132)) _ _ _ at kt
   have hx6:Ext W (W.alloc (.cells #[.string tv,.int .i64 tk,.int .i64 ti,.string tst] 132)):=(Ext.refl W).alloc _
   generalize (W.alloc (.cells #[.string tv,.int .i64 tk,.int .i64 ti,.string tst] 132))=W2 at *
   have t0:=kt.cell (i:=0) (by simp)
   simp only[ja,je]at t0
   replace y2:=hx6.cell y2
   have HB2:=zO (HB.out.ext hx6);have HU2:=zO (own_ext' HU.out hx6);have HV2:=zO (own_ext' HV.out hx6);have HF2:=zO (HFR.out.ext hx6);have HKT:=zO kt
   have HN2:=zO (HN.out.ext (HXR.out.trans hx6))
   have hwr6:W.heap.size<W2.heap.size:=kt.lt
   clear kt hx6 e0 e1 e2 e3
   go_upto_region 7 with (first
    | (refine wpList_lookup_V rfl _ _ 145 3 rfl Tryz.underlying145 (.int .i64 0) (zero_int _) b2 n2 f rfl HN2.out tv rfl hz1 (.int .i64 xv) HGET.out ?_)
    | (at_builtin;refine wpList_append_at rfl _ _ 63 rfl w5.heap.size 3 i0 (.int .i64 0) 1 8 Tryz.underlying63 HI0.out.1 HI0.out.2.1 HI0.out.2.2.1 HI0.out.2.2.2 rfl (by omega) (.slice Au j cu) j (((ts.take j).map (fun t=>num t.var)).map I64) rfl (HU2.out.alloc _) ⟨W2.heap.size,0,none⟩ 1 1 [.int .i64 xv] rfl rfl (laid_news W2 _ _) (by simp[Value.oneCell']) (by simp only[maxLen];omega) (by omega) (by simp;omega) ?_;intro v9 w9 hr9 hg9 hl9;obtain⟨A9,c9,rfl⟩:=own_slice hr9;have hxg:=(Ext.refl W2).alloc (.cells #[.int .i64 xv] 3);have hb9:Bk w9 g 220 [.int .i64 ra,.slice A nr c,.slice Au j cu,.slice Av j cv]:=Bk.fr (HB2.out.ext hxg) (grown_fr hg9) (fun e=>own_bk HU2.out HB2.out (by decide) e rfl);have HKT9:Hid (Bk w9 W.heap.size 132 [.string tv,.int .i64 tk,.int .i64 ti,.string tst]):=zO (Bk.fr (HKT.out.ext hxg) (grown_fr hg9) (fun e=>own_bk HU2.out HKT.out (by decide) e rfl));have HV9:Hid (w9.ownsRow w5.heap.size 51 3 (.slice Av j cv) j (vcells ((ts.take j).map Tm.vl))):=zO (own_fr (own_ext' HV2.out hxg) (grown_fr hg9) (fun q hq e=>own_ne HU2.out HV2.out (by decide) e hq));have q9:=hb9.cell (i:=2) (by simp);have f9:=hb9.free 2;simp only[ja,je]at q9;have HB9:=zO hb9;have HR9:=zO hr9;have HF9:=zO ((HF2.out.ext hxg).grown hg9 (fun b hb=>.inr (own_ge HU2.out hb)));clear hr9 hg9 hl9 hxg hb9))
   have hfz:Fr (fun b=>b=g) w9 (w9.setCell ⟨g,2,none⟩ (.slice A9 (j+1) c9)):=(Fr.refl (fun b=>b=g) w9).setCell (p:=⟨g,2,none⟩) (.inl rfl) _
   have HBB:=zO (HB9.out.set 2 (.slice A9 (j+1) c9))
   have HFF:=zO (HF9.out.trans hfz)
   have HRR:=zO (own_fr HR9.out hfz (fun b hb e=>by have:=own_ge HR9.out hb;omega))
   have HVV:=zO (own_fr HV9.out hfz (fun b hb e=>by have:=own_ge HV9.out hb;omega))
   have HKK:=zO (HKT9.out.fr hfz (by omega))
   clear hfz q9 f9 t0 y2
   generalize (w9.setCell ⟨g,2,none⟩ (.slice A9 (j+1) c9))=W3 at *
   have m3:=HBB.out.cell (i:=3) (by simp);have mf:=HBB.out.free 3
   have s1:=HKK.out.cell (i:=1) (by simp);have s2:=HKK.out.cell (i:=2) (by simp);have s3:=HKK.out.cell (i:=3) (by simp)
   simp at m3 s1 s2 s3
   have hwr7:W.heap.size<W3.heap.size:=HKK.out.lt
   go_wp2_with (first
    | (at_builtin;refine wpList_append_at rfl _ _ 73 rfl w5.heap.size 51 j0 (.agg #[.int .i64 0,.int .i64 0,.string ⟨#[]⟩]) 3 32 Tryz.underlying73 HJ0.out.1 HJ0.out.2.1 HJ0.out.2.2.1 HJ0.out.2.2.2 rfl (by omega) (.slice Av j cv) j (vcells ((ts.take j).map Tm.vl)) rfl (HVV.out.alloc _) ⟨W3.heap.size,0,none⟩ 1 1 [.int .i64 tk,.int .i64 ti,.string tst] rfl rfl (laid_news W3 _ _) (by simp[Value.oneCell']) (by simp only[maxLen];omega) (by omega) (by simp;omega) ?_;intro v8 w8 hr8 hg8 hl8;obtain⟨A8,c8,rfl⟩:=own_slice hr8;have hxg:=(Ext.refl W3).alloc (.cells #[.int .i64 tk,.int .i64 ti,.string tst] 51);have hb8:Bk w8 g 220 [.int .i64 ra,.slice A nr c,.slice A9 (j+1) c9,.slice Av j cv]:=Bk.fr (HBB.out.ext hxg) (grown_fr hg8) (fun e=>own_bk HVV.out HBB.out (by decide) e rfl);have HR8':Hid (w8.ownsRow w5.heap.size 3 1 (.slice A9 (j+1) c9) (j+1) (((ts.take j).map (fun t=>num t.var)).map I64++[.int .i64 xv])):=zO (own_fr (own_ext' HRR.out hxg) (grown_fr hg8) (fun q hq e=>own_ne HVV.out HRR.out (by decide) e hq));have q8:=hb8.cell (i:=3) (by simp);have f8:=hb8.free 3;simp only[ja,je]at q8;have HB8:=zO hb8;have HR8:=zO hr8;have HF8:=zO ((HFF.out.ext hxg).grown hg8 (fun b hb=>.inr (own_ge HVV.out hb)));clear hr8 hg8 hl8 hxg hb8))
   go_roundw
   case rel =>
    have hfy:Fr (fun b=>b=g) w8 (w8.setCell ⟨g,3,none⟩ (.slice A8 (j+1) c8)):=(Fr.refl (fun b=>b=g) w8).setCell (p:=⟨g,3,none⟩) (.inl rfl) _
    refine⟨j+1,.slice A9 (j+1) c9,.slice A8 (j+1) c8,by omega,by go_num,zO (HB8.out.set 3 (.slice A8 (j+1) c8)),zO ?_,zO ?_,zO (HF8.out.trans hfy)⟩
    ·rw[HTK1.out]
     exact own_fr HR8'.out hfy (fun b hb e=>by have:=own_ge HR8'.out hb;omega)
    ·rw[HTK2.out]
     exact own_fr HR8.out hfy (fun b hb e=>by have:=own_ge HR8.out hb;omega)
   case measure=>simp[intOf];omega
  ·obtain rfl:j=nt:=by omega
   have hdj:¬(j:Int)<(j:Int):=by omega
   have et:ts.take j=ts:=jo (by have:=HNT.out;omega)
   rw[et]at HU HV
   clear et
   have HKRW:=zO (HKR5.out.fr HFR.out (by omega))
   obtain⟨r,hr⟩:∃r,r=w.heap.size+1+1:=⟨_,rfl⟩
   rw[←hr]at HKRW hgr ⊢
   have hwr:w.heap.size≤r:=by omega
   have z0:=HKRW.out.cell (i:=0) (by simp);have z1:=HKRW.out.cell (i:=1) (by simp);have z2:=HKRW.out.cell (i:=2) (by simp);have z3:=HKRW.out.cell (i:=3) (by simp)
   have f0:=HKRW.out.free 0;have f1:=HKRW.out.free 1;have f2:=HKRW.out.free 2;have f3:=HKRW.out.free 3
   simp only[ja,je]at z0 z1 z2 z3
   have kz:Bk ((((W.setCell ⟨r,0,none⟩ (.int .i64 ra)).setCell ⟨r,1,none⟩ (.slice A nr c)).setCell ⟨r,2,none⟩ (.slice Au j cu)).setCell ⟨r,3,none⟩ (.slice Av j cv)) r 220 [.int .i64 ra,.slice A nr c,.slice Au j cu,.slice Av j cv]:=(((HKRW.out.set 0 _).set 1 _).set 2 _).set 3 _
   have hfr:Fr (fun k=>k=r) W ((((W.setCell ⟨r,0,none⟩ (.int .i64 ra)).setCell ⟨r,1,none⟩ (.slice A nr c)).setCell ⟨r,2,none⟩ (.slice Au j cu)).setCell ⟨r,3,none⟩ (.slice Av j cv)):=((((Fr.refl (fun k=>k=r) W).setCell (p:=⟨r,0,none⟩) (.inl rfl) _).setCell (p:=⟨r,1,none⟩) (.inl rfl) _).setCell (p:=⟨r,2,none⟩) (.inl rfl) _).setCell (p:=⟨r,3,none⟩) (.inl rfl) _
   have HKZ:=zO kz;have HFZ:=zO hfr
   clear kz hfr hr
   go_wp2_with fail
   generalize ((((W.setCell ⟨r,0,none⟩ (.int .i64 ra)).setCell ⟨r,1,none⟩ (.slice A nr c)).setCell ⟨r,2,none⟩ (.slice Au j cu)).setCell ⟨r,3,none⟩ (.slice Av j cv))=wz at *
   have x0:=HKZ.out.cell (i:=0) (by simp);have x1:=HKZ.out.cell (i:=1) (by simp);have x2:=HKZ.out.cell (i:=2) (by simp);have x3:=HKZ.out.cell (i:=3) (by simp)
   simp only[ja,je]at x0 x1 x2 x3
   exact bodyPost_ret (v:=.agg #[.int .i64 ra,.slice A nr c,.slice Au j cu,.slice Av j cv]) (by simp[results,Tryz.results184,go_sem,x0,x1,x2,x3]) rfl (HQ.out wz A c _ _ (HFZ.out.new HXR.out (fun k hk=>by omega)) (((HSL5.out.fr HFR.out (fun k hk e=>by have:=hk.2;omega)).fr HFZ.out (fun k hk e=>by have:=hk.2;omega)).mono (by decide) (fun k _ hk=>hk.1)) (own_base (own_fr HU.out HFZ.out (fun k hk e=>by have:=own_ge HU.out hk;omega)) (by have:=HX5.out.size;omega)) (own_base (own_fr HV.out HFZ.out (fun k hk e=>by have:=own_ge HV.out hk;omega)) (by have:=HX5.out.size;omega)))
