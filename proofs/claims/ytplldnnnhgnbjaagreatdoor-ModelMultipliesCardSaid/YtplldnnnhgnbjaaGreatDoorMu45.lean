/- packed -/
import Derived.Test.YtplldnnnhgnbjaaGreatDoorMu44
namespace Go.Proofs.YtplldnnnhgnbjaaGreatDoor
open Go.RowKit Go.Maps
theorem Sl.blk{α : Type}{r:Rdg α}{F:Nat→Prop}{w:World}{g:Nat}{t:TypeId}{xs:List α}{css:List (List Value)}{vs:List Value}(hb:Bk w g t vs)(hv:vs=css.flatten)(hl:css.length=xs.length)(hr:∀i (h:i<css.length) (h':i<xs.length),r.R F w css[i] xs[i])(hF:F g)(n:Nat)(hn:n=xs.length):Sl r F w (.slice (some ⟨g,0,none⟩) n n) xs:=by
 subst hv
 subst hn
 have hall:∀cs∈css,cs.length=r.sz:=fun cs hcs=>by
  obtain⟨i,hi,rfl⟩:=jv hcs
  exact r.len (hr i hi (by omega))
 refine⟨_,_,rfl,jq _,fun i hi=>?_⟩
 have hi':i<css.length:=by omega
 have hlen:=hall _ (jg hi')
 refine⟨_,css[i],rfl,hF,hr i hi' hi,fun j hj=>?_⟩
 rw[add_zero']
 have h1:=flat_get hall hi' (j:=j) (by omega)
 rw[jk hj]at h1
 obtain⟨h2,h3⟩:=zh.1 h1
 rw[hb.cell h2,h3]
abbrev nR:ByteArray:=⟨#[114]⟩
abbrev nX:ByteArray:=⟨#[120]⟩
abbrev nY:ByteArray:=⟨#[121]⟩
abbrev nZ:ByteArray:=⟨#[122]⟩
abbrev vI (n:Int):Vl:=⟨1,n,⟨#[]⟩⟩
abbrev tV (s:ByteArray):Tm:=⟨s,0,0,⟨#[]⟩⟩
def exS:List Sc:=[⟨nR,[1,1]⟩]
def exU:List Up:=[⟨false,nR,[vI 1,vI 2]⟩,⟨false,nR,[vI 1,vI 3]⟩,⟨false,nR,[vI 2,vI 3]⟩]
def exQ:Qy:=⟨[nX,nZ],0,⟨#[]⟩,[⟨[⟨false,nR,[tV nX,tV nY]⟩,⟨false,nR,[tV nY,tV nZ]⟩],[]⟩],[⟨nZ,true⟩]⟩
set_option maxRecDepth 20000 in
theorem num_any(n:Int)(w:World):Calls Tryz.prog 44 #[.int .i64 n] w (fun e w'=>e=.returned (vagg (vI n))∧Ext w w'):=by
 have kb:=Bk.new w 51 [.int .i64 0,.int .i64 0,.string ⟨#[]⟩]
 have hx:=(Ext.refl w).alloc (.cells #[.int .i64 0,.int .i64 0,.string ⟨#[]⟩] 51)
 go_enter Tryz.func44,Tryz.ntmps44
 go_upto_region 1 with fail
 change Bk (w.alloc (.cells #[.int .i64 0,.int .i64 0,.string ⟨#[]⟩] 51)) _ _ _ at kb
 generalize (w.alloc (.cells #[.int .i64 0,.int .i64 0,.string ⟨#[]⟩] 51))=w1 at *
 have b0:=kb.cell (i:=0) (by simp);have b1:=kb.cell (i:=1) (by simp);have b2:=kb.cell (i:=2) (by simp)
 have f0:=kb.free 0;have f1:=kb.free 1;have f2:=kb.free 2
 simp only[ja,je]at b0 b1 b2
 have hf:Fr (fun k=>k=w.heap.size) w1 (((w1.setCell ⟨w.heap.size,0,none⟩ (.int .i64 1)).setCell ⟨w.heap.size,1,none⟩ (.int .i64 n)).setCell ⟨w.heap.size,2,none⟩ (.string ⟨#[]⟩)):=(((Fr.refl (fun k=>k=w.heap.size) w1).setCell (p:=⟨w.heap.size,0,none⟩) (.inl rfl) _).setCell (p:=⟨w.heap.size,1,none⟩) (.inl rfl) _).setCell (p:=⟨w.heap.size,2,none⟩) (.inl rfl) _
 have HX:=zO (hf.new hx (fun q hq=>by omega))
 have k2:=((kb.set 0 (.int .i64 1)).set 1 (.int .i64 n)).set 2 (.string ⟨#[]⟩)
 have q0:=k2.cell (i:=0) (by simp);have q1:=k2.cell (i:=1) (by simp);have q2:=k2.cell (i:=2) (by simp)
 simp only[jh,ji,ja,je]at q0 q1 q2
 clear kb hx hf k2
 go_wp2_with fail
 generalize (((w1.setCell ⟨w.heap.size,0,none⟩ (.int .i64 1)).setCell ⟨w.heap.size,1,none⟩ (.int .i64 n)).setCell ⟨w.heap.size,2,none⟩ (.string ⟨#[]⟩))=Z at *
 exact bodyPost_ret (v:=vagg (vI n)) (by simp[results,Tryz.results44,go_sem,q0,q1,q2]) rfl ⟨rfl,HX.out⟩
set_option maxRecDepth 20000 in
theorem exat_any(a b:ByteArray)(w:World):Calls Tryz.prog 109 #[.string a,.string b] w (fun e w'=>Ext w w'∧∃g,e=.returned (.agg #[.bool false,.string nR,.slice (some ⟨g,0,none⟩) 2 2])∧Bk w' g 132 (tcells [tV a,tV b])):=by
 have kb:=Bk.new w 49 [.bool false,.string ⟨#[]⟩,.slice none 0 0]
 have hx:=(Ext.refl w).alloc (.cells #[.bool false,.string ⟨#[]⟩,.slice none 0 0] 49)
 go_enter Tryz.func109,Tryz.ntmps109
 go_upto_region 1 with fail
 change Bk (w.alloc (.cells #[.bool false,.string ⟨#[]⟩,.slice none 0 0] 49)) _ _ _ at kb
 generalize (w.alloc (.cells #[.bool false,.string ⟨#[]⟩,.slice none 0 0] 49))=w1 at *
 have kt:=Bk.new w1 132 (tcells [tV a,tV b])
 have hxt:=(Ext.refl w1).alloc (.cells (tcells [tV a,tV b]).toArray 132)
 have kb2:=kb.ext hxt
 have b0:=kb2.cell (i:=0) (by simp);have b1:=kb2.cell (i:=1) (by simp);have b2:=kb2.cell (i:=2) (by simp)
 have f0:=kb2.free 0;have f1:=kb2.free 1;have f2:=kb2.free 2
 simp only[ja,je]at b0 b1 b2
 have hne:w1.heap.size≠w.heap.size:=kt.ne kb2 (by decide)
 change Bk (w1.alloc (.cells #[.string a,.int .i64 0,.int .i64 0,.string ⟨#[]⟩,.string b,.int .i64 0,.int .i64 0,.string ⟨#[]⟩] 132)) _ _ _ at kt
 change Ext w1 (w1.alloc (.cells #[.string a,.int .i64 0,.int .i64 0,.string ⟨#[]⟩,.string b,.int .i64 0,.int .i64 0,.string ⟨#[]⟩] 132)) at hxt
 change Bk (w1.alloc (.cells #[.string a,.int .i64 0,.int .i64 0,.string ⟨#[]⟩,.string b,.int .i64 0,.int .i64 0,.string ⟨#[]⟩] 132)) _ _ _ at kb2
 change (w1.alloc (.cells #[.string a,.int .i64 0,.int .i64 0,.string ⟨#[]⟩,.string b,.int .i64 0,.int .i64 0,.string ⟨#[]⟩] 132)).cell? _=_ at b0 b1 b2
 change (w1.alloc (.cells #[.string a,.int .i64 0,.int .i64 0,.string ⟨#[]⟩,.string b,.int .i64 0,.int .i64 0,.string ⟨#[]⟩] 132)).frozen? _=_ at f0 f1 f2
 go_wp2_with fail
 generalize (w1.alloc (.cells #[.string a,.int .i64 0,.int .i64 0,.string ⟨#[]⟩,.string b,.int .i64 0,.int .i64 0,.string ⟨#[]⟩] 132))=X at *
 obtain⟨g,hg⟩:∃g,g=w1.heap.size:=⟨_,rfl⟩
 rw[←hg]at hne kt ⊢
 have hf:Fr (fun k=>k=w.heap.size) X (((X.setCell ⟨w.heap.size,0,none⟩ (.bool false)).setCell ⟨w.heap.size,1,none⟩ (.string nR)).setCell ⟨w.heap.size,2,none⟩ (.slice (some ⟨g,0,none⟩) 2 2)):=(((Fr.refl (fun k=>k=w.heap.size) X).setCell (p:=⟨w.heap.size,0,none⟩) (.inl rfl) _).setCell (p:=⟨w.heap.size,1,none⟩) (.inl rfl) _).setCell (p:=⟨w.heap.size,2,none⟩) (.inl rfl) _
 have hxz:=hf.new (hx.trans hxt) (fun q hq=>by omega)
 have k3:=((kb2.set 0 (.bool false)).set 1 (.string nR)).set 2 (.slice (some ⟨g,0,none⟩) 2 2)
 have kt2:=kt.fr hf hne
 have q0:=k3.cell (i:=0) (by simp);have q1:=k3.cell (i:=1) (by simp);have q2:=k3.cell (i:=2) (by simp)
 simp only[jh,ji,ja,je]at q0 q1 q2
 generalize (((X.setCell ⟨w.heap.size,0,none⟩ (.bool false)).setCell ⟨w.heap.size,1,none⟩ (.string nR)).setCell ⟨w.heap.size,2,none⟩ (.slice (some ⟨g,0,none⟩) 2 2))=Z at *
 exact bodyPost_ret (v:=.agg #[.bool false,.string nR,.slice (some ⟨g,0,none⟩) 2 2]) (by simp[results,Tryz.results109,go_sem,q0,q1,q2]) rfl ⟨hxz,g,rfl,kt2⟩
def ExampleQ(w w':World)(e:Ending):Prop :=
 Ext w w'∧∃gS gU A B O,e=.returned (.tuple #[.slice (some ⟨gS,0,none⟩) 1 1,.slice (some ⟨gU,0,none⟩) 3 3,.agg #[.slice A 2 2,.int .i64 0,.string ⟨#[]⟩,.slice B 1 1,.slice O 1 1]])∧Sl rdSc (fun _=>True) w' (.slice (some ⟨gS,0,none⟩) 1 1) exS∧Sl rdUp (fun _=>True) w' (.slice (some ⟨gU,0,none⟩) 3 3) exU∧QyR (fun _=>True) w' A 2 B 1 O 1 exQ
theorem row2{w:World}{g:Nat}{a b:Vl}(h:Bk w g 51 (vcells [a,b])):Sl rdVl (fun _=>True) w (.slice (some ⟨g,0,none⟩) 2 2) [a,b]:=(row_bk h rfl).mono (by decide) (fun _ _ _=>trivial)
set_option maxRecDepth 20000 in
set_option maxHeartbeats 6400000 in
theorem example_any(w:World):Calls Tryz.prog 43 #[] w (fun e w'=>ExampleQ w w' e):=by
 have kb:=Bk.new w 28 [.slice none 0 0,.int .i64 0,.string ⟨#[]⟩,.slice none 0 0,.slice none 0 0]
 have hx:=(Ext.refl w).alloc (.cells #[.slice none 0 0,.int .i64 0,.string ⟨#[]⟩,.slice none 0 0,.slice none 0 0] 28)
 go_enter Tryz.func43,Tryz.ntmps43
 go_upto_region 1 with fail
 change Bk (w.alloc (.cells #[.slice none 0 0,.int .i64 0,.string ⟨#[]⟩,.slice none 0 0,.slice none 0 0] 28)) _ _ _ at kb
 generalize (w.alloc (.cells #[.slice none 0 0,.int .i64 0,.string ⟨#[]⟩,.slice none 0 0,.slice none 0 0] 28))=w1 at *
 have HX:=zO hx;have HKB:=zO kb
 have k2:=two_blk w1 3 92 [.int .i64 1,.int .i64 1] [.string nR,.slice (some ⟨w1.heap.size,0,none⟩) 2 2]
 have hx2:=((Ext.refl w1).alloc (.cells #[.int .i64 1,.int .i64 1] 3)).alloc (.cells #[.string nR,.slice (some ⟨w1.heap.size,0,none⟩) 2 2] 92)
 clear kb hx
 go_upto_region 2 with fail
 change Bk ((w1.alloc (.cells #[.int .i64 1,.int .i64 1] 3)).alloc (.cells #[.string nR,.slice (some ⟨w1.heap.size,0,none⟩) 2 2] 92)) _ _ _∧Bk ((w1.alloc (.cells #[.int .i64 1,.int .i64 1] 3)).alloc (.cells #[.string nR,.slice (some ⟨w1.heap.size,0,none⟩) 2 2] 92)) _ _ _ at k2
 generalize ((w1.alloc (.cells #[.int .i64 1,.int .i64 1] 3)).alloc (.cells #[.string nR,.slice (some ⟨w1.heap.size,0,none⟩) 2 2] 92))=X at *
 obtain⟨kI,kS⟩:=k2
 obtain⟨gS,hgS⟩:∃g,g=w1.heap.size+1:=⟨_,rfl⟩
 obtain⟨gI,hgI⟩:∃g,g=w1.heap.size:=⟨_,rfl⟩
 rw[←hgS]at kS ⊢
 rw[←hgI]at kI kS
 clear hgS hgI
 have hxx:=HX.out.trans hx2
 have kQ:=HKB.out.ext hx2
 clear hx2
 have HKIz:=zO kI;clear kI;have HKSz:=zO kS;clear kS;have HKQz:=zO kQ;clear kQ;have HHXXz:=zO hxx;clear hxx
 go_wp2_with fail
 refine(num_any 1 _).mono ?_
 rintro e Y0 ⟨rfl,he⟩
 have kI:=HKIz.out;clear HKIz;have kS:=HKSz.out;clear HKSz;have kQ:=HKQz.out;clear HKQz;have hxx:=HHXXz.out;clear HHXXz
 replace kI:=kI.ext he;replace kS:=kS.ext he;replace kQ:=kQ.ext he
 replace hxx:=hxx.trans he
 clear he
 have HKIz:=zO kI;clear kI;have HKSz:=zO kS;clear kS;have HKQz:=zO kQ;clear kQ;have HHXXz:=zO hxx;clear hxx
 go_wp2_with fail
 refine(num_any 2 _).mono ?_
 rintro e Z0 ⟨rfl,he⟩
 have kI:=HKIz.out;clear HKIz;have kS:=HKSz.out;clear HKSz;have kQ:=HKQz.out;clear HKQz;have hxx:=HHXXz.out;clear HHXXz
 replace kI:=kI.ext he;replace kS:=kS.ext he;replace kQ:=kQ.ext he
 replace hxx:=hxx.trans he
 clear he
 have kR0:=Bk.new Z0 51 (vcells [vI 1,vI 2])
 have ha:=(Ext.refl Z0).alloc (.cells #[.int .i64 1,.int .i64 1,.string ⟨#[]⟩,.int .i64 1,.int .i64 2,.string ⟨#[]⟩] 51)
 change Bk (Z0.alloc (.cells #[.int .i64 1,.int .i64 1,.string ⟨#[]⟩,.int .i64 1,.int .i64 2,.string ⟨#[]⟩] 51)) _ _ _ at kR0
 replace kI:=kI.ext ha;replace kS:=kS.ext ha;replace kQ:=kQ.ext ha
 replace hxx:=hxx.trans ha
 clear ha
 obtain⟨g0,hg0⟩:∃g,g=Z0.heap.size:=⟨_,rfl⟩
 rw[←hg0]at kR0
 have HKIz:=zO kI;clear kI;have HKSz:=zO kS;clear kS;have HKQz:=zO kQ;clear kQ;have HKR0z:=zO kR0;clear kR0;have HHXXz:=zO hxx;clear hxx
 go_wp2_with fail
 refine(num_any 1 _).mono ?_
 rintro e Y1 ⟨rfl,he⟩
 have kI:=HKIz.out;clear HKIz;have kS:=HKSz.out;clear HKSz;have kQ:=HKQz.out;clear HKQz;have kR0:=HKR0z.out;clear HKR0z;have hxx:=HHXXz.out;clear HHXXz
 replace kI:=kI.ext he;replace kS:=kS.ext he;replace kQ:=kQ.ext he;replace kR0:=kR0.ext he
 replace hxx:=hxx.trans he
 clear he
 have HKIz:=zO kI;clear kI;have HKSz:=zO kS;clear kS;have HKQz:=zO kQ;clear kQ;have HKR0z:=zO kR0;clear kR0;have HHXXz:=zO hxx;clear hxx
 go_wp2_with fail
 refine(num_any 3 _).mono ?_
 rintro e Z1 ⟨rfl,he⟩
 have kI:=HKIz.out;clear HKIz;have kS:=HKSz.out;clear HKSz;have kQ:=HKQz.out;clear HKQz;have kR0:=HKR0z.out;clear HKR0z;have hxx:=HHXXz.out;clear HHXXz
 replace kI:=kI.ext he;replace kS:=kS.ext he;replace kQ:=kQ.ext he;replace kR0:=kR0.ext he
 replace hxx:=hxx.trans he
 clear he
 have kR1:=Bk.new Z1 51 (vcells [vI 1,vI 3])
 have ha:=(Ext.refl Z1).alloc (.cells #[.int .i64 1,.int .i64 1,.string ⟨#[]⟩,.int .i64 1,.int .i64 3,.string ⟨#[]⟩] 51)
 change Bk (Z1.alloc (.cells #[.int .i64 1,.int .i64 1,.string ⟨#[]⟩,.int .i64 1,.int .i64 3,.string ⟨#[]⟩] 51)) _ _ _ at kR1
 replace kI:=kI.ext ha;replace kS:=kS.ext ha;replace kQ:=kQ.ext ha;replace kR0:=kR0.ext ha
 replace hxx:=hxx.trans ha
 clear ha
 obtain⟨g1,hg1⟩:∃g,g=Z1.heap.size:=⟨_,rfl⟩
 rw[←hg1]at kR1
 have HKIz:=zO kI;clear kI;have HKSz:=zO kS;clear kS;have HKQz:=zO kQ;clear kQ;have HKR0z:=zO kR0;clear kR0;have HKR1z:=zO kR1;clear kR1;have HHXXz:=zO hxx;clear hxx
 go_wp2_with fail
 refine(num_any 2 _).mono ?_
 rintro e Y2 ⟨rfl,he⟩
 have kI:=HKIz.out;clear HKIz;have kS:=HKSz.out;clear HKSz;have kQ:=HKQz.out;clear HKQz;have kR0:=HKR0z.out;clear HKR0z;have kR1:=HKR1z.out;clear HKR1z;have hxx:=HHXXz.out;clear HHXXz
 replace kI:=kI.ext he;replace kS:=kS.ext he;replace kQ:=kQ.ext he;replace kR0:=kR0.ext he;replace kR1:=kR1.ext he
 replace hxx:=hxx.trans he
 clear he
 have HKIz:=zO kI;clear kI;have HKSz:=zO kS;clear kS;have HKQz:=zO kQ;clear kQ;have HKR0z:=zO kR0;clear kR0;have HKR1z:=zO kR1;clear kR1;have HHXXz:=zO hxx;clear hxx
 go_wp2_with fail
 refine(num_any 3 _).mono ?_
 rintro e Z2 ⟨rfl,he⟩
 have kI:=HKIz.out;clear HKIz;have kS:=HKSz.out;clear HKSz;have kQ:=HKQz.out;clear HKQz;have kR0:=HKR0z.out;clear HKR0z;have kR1:=HKR1z.out;clear HKR1z;have hxx:=HHXXz.out;clear HHXXz
 replace kI:=kI.ext he;replace kS:=kS.ext he;replace kQ:=kQ.ext he;replace kR0:=kR0.ext he;replace kR1:=kR1.ext he
 replace hxx:=hxx.trans he
 clear he
 have kR2:=Bk.new Z2 51 (vcells [vI 2,vI 3])
 have ha:=(Ext.refl Z2).alloc (.cells #[.int .i64 1,.int .i64 2,.string ⟨#[]⟩,.int .i64 1,.int .i64 3,.string ⟨#[]⟩] 51)
 change Bk (Z2.alloc (.cells #[.int .i64 1,.int .i64 2,.string ⟨#[]⟩,.int .i64 1,.int .i64 3,.string ⟨#[]⟩] 51)) _ _ _ at kR2
 replace kI:=kI.ext ha;replace kS:=kS.ext ha;replace kQ:=kQ.ext ha;replace kR0:=kR0.ext ha;replace kR1:=kR1.ext ha
 replace hxx:=hxx.trans ha
 clear ha
 obtain⟨g2,hg2⟩:∃g,g=Z2.heap.size:=⟨_,rfl⟩
 rw[←hg2]at kR2
 obtain⟨V0,hV0⟩:∃V,V=Z2.alloc (.cells #[.int .i64 1,.int .i64 2,.string ⟨#[]⟩,.int .i64 1,.int .i64 3,.string ⟨#[]⟩] 51):=⟨_,rfl⟩
 rw[←hV0]at kI kS kQ kR0 kR1 kR2 hxx
 have kU:=Bk.new V0 97 [.bool false,.string nR,.slice (some ⟨g0,0,none⟩) 2 2,.bool false,.string nR,.slice (some ⟨g1,0,none⟩) 2 2,.bool false,.string nR,.slice (some ⟨g2,0,none⟩) 2 2]
 have ha:=(Ext.refl V0).alloc (.cells #[.bool false,.string nR,.slice (some ⟨g0,0,none⟩) 2 2,.bool false,.string nR,.slice (some ⟨g1,0,none⟩) 2 2,.bool false,.string nR,.slice (some ⟨g2,0,none⟩) 2 2] 97)
 change Bk (V0.alloc (.cells #[.bool false,.string nR,.slice (some ⟨g0,0,none⟩) 2 2,.bool false,.string nR,.slice (some ⟨g1,0,none⟩) 2 2,.bool false,.string nR,.slice (some ⟨g2,0,none⟩) 2 2] 97)) _ _ _ at kU
 replace kI:=kI.ext ha;replace kS:=kS.ext ha;replace kQ:=kQ.ext ha;replace kR0:=kR0.ext ha;replace kR1:=kR1.ext ha;replace kR2:=kR2.ext ha
 replace hxx:=hxx.trans ha
 clear ha
 obtain⟨gU,hgU⟩:∃g,g=V0.heap.size:=⟨_,rfl⟩
 rw[←hgU]at kU
 have kH:=Bk.new (V0.alloc (.cells #[.bool false,.string nR,.slice (some ⟨g0,0,none⟩) 2 2,.bool false,.string nR,.slice (some ⟨g1,0,none⟩) 2 2,.bool false,.string nR,.slice (some ⟨g2,0,none⟩) 2 2] 97)) 9 [.string nX,.string nZ]
 have ha:=(Ext.refl (V0.alloc (.cells #[.bool false,.string nR,.slice (some ⟨g0,0,none⟩) 2 2,.bool false,.string nR,.slice (some ⟨g1,0,none⟩) 2 2,.bool false,.string nR,.slice (some ⟨g2,0,none⟩) 2 2] 97))).alloc (.cells #[.string nX,.string nZ] 9)
 change Bk ((V0.alloc (.cells #[.bool false,.string nR,.slice (some ⟨g0,0,none⟩) 2 2,.bool false,.string nR,.slice (some ⟨g1,0,none⟩) 2 2,.bool false,.string nR,.slice (some ⟨g2,0,none⟩) 2 2] 97)).alloc (.cells #[.string nX,.string nZ] 9)) _ _ _ at kH
 replace kI:=kI.ext ha;replace kS:=kS.ext ha;replace kQ:=kQ.ext ha;replace kR0:=kR0.ext ha;replace kR1:=kR1.ext ha;replace kR2:=kR2.ext ha;replace kU:=kU.ext ha
 replace hxx:=hxx.trans ha
 clear ha
 obtain⟨gH,hgH⟩:∃g,g=(V0.alloc (.cells #[.bool false,.string nR,.slice (some ⟨g0,0,none⟩) 2 2,.bool false,.string nR,.slice (some ⟨g1,0,none⟩) 2 2,.bool false,.string nR,.slice (some ⟨g2,0,none⟩) 2 2] 97)).heap.size:=⟨_,rfl⟩
 rw[←hgH]at kH
 obtain⟨V1,hV1⟩:∃V,V=((V0.alloc (.cells #[.bool false,.string nR,.slice (some ⟨g0,0,none⟩) 2 2,.bool false,.string nR,.slice (some ⟨g1,0,none⟩) 2 2,.bool false,.string nR,.slice (some ⟨g2,0,none⟩) 2 2] 97)).alloc (.cells #[.string nX,.string nZ] 9)):=⟨_,rfl⟩
 rw[←hV1]at kI kS kQ kR0 kR1 kR2 kU kH hxx
 subst hV0
 have HKIz:=zO kI;clear kI;have HKSz:=zO kS;clear kS;have HKQz:=zO kQ;clear kQ;have HKR0z:=zO kR0;clear kR0;have HKR1z:=zO kR1;clear kR1;have HKR2z:=zO kR2;clear kR2;have HKUz:=zO kU;clear kU;have HKHz:=zO kH;clear kH;have HHXXz:=zO hxx;clear hxx
 go_wp2_with fail
 refine(exat_any nX nY _).mono ?_
 rintro e U1 ⟨he,gA1,rfl,kA1⟩
 rw[←hg0,←hg1,←hg2,←hV1]at he
 simp only[World.size_alloc]at hgU hgH
 clear hV1
 have kI:=HKIz.out;clear HKIz;have kS:=HKSz.out;clear HKSz;have kQ:=HKQz.out;clear HKQz;have kR0:=HKR0z.out;clear HKR0z;have kR1:=HKR1z.out;clear HKR1z;have kR2:=HKR2z.out;clear HKR2z;have kU:=HKUz.out;clear HKUz;have kH:=HKHz.out;clear HKHz;have hxx:=HHXXz.out;clear HHXXz
 replace kI:=kI.ext he;replace kS:=kS.ext he;replace kQ:=kQ.ext he;replace kR0:=kR0.ext he;replace kR1:=kR1.ext he;replace kR2:=kR2.ext he;replace kU:=kU.ext he;replace kH:=kH.ext he
 replace hxx:=hxx.trans he
 clear he
 have HKIz:=zO kI;clear kI;have HKSz:=zO kS;clear kS;have HKQz:=zO kQ;clear kQ;have HKR0z:=zO kR0;clear kR0;have HKR1z:=zO kR1;clear kR1;have HKR2z:=zO kR2;clear kR2;have HKUz:=zO kU;clear kU;have HKHz:=zO kH;clear kH;have HKA1z:=zO kA1;clear kA1;have HHXXz:=zO hxx;clear hxx
 go_wp2_with fail
 refine(exat_any nY nZ _).mono ?_
 rintro e U2 ⟨he,gA2,rfl,kA2⟩
 have kI:=HKIz.out;clear HKIz;have kS:=HKSz.out;clear HKSz;have kQ:=HKQz.out;clear HKQz;have kR0:=HKR0z.out;clear HKR0z;have kR1:=HKR1z.out;clear HKR1z;have kR2:=HKR2z.out;clear HKR2z;have kU:=HKUz.out;clear HKUz;have kH:=HKHz.out;clear HKHz;have kA1:=HKA1z.out;clear HKA1z;have hxx:=HHXXz.out;clear HHXXz
 replace kI:=kI.ext he;replace kS:=kS.ext he;replace kQ:=kQ.ext he;replace kR0:=kR0.ext he;replace kR1:=kR1.ext he;replace kR2:=kR2.ext he;replace kU:=kU.ext he;replace kH:=kH.ext he;replace kA1:=kA1.ext he
 replace hxx:=hxx.trans he
 clear he
 have kAt:=Bk.new U2 49 [.bool false,.string nR,.slice (some ⟨gA1,0,none⟩) 2 2,.bool false,.string nR,.slice (some ⟨gA2,0,none⟩) 2 2]
 have ha:=(Ext.refl U2).alloc (.cells #[.bool false,.string nR,.slice (some ⟨gA1,0,none⟩) 2 2,.bool false,.string nR,.slice (some ⟨gA2,0,none⟩) 2 2] 49)
 change Bk (U2.alloc (.cells #[.bool false,.string nR,.slice (some ⟨gA1,0,none⟩) 2 2,.bool false,.string nR,.slice (some ⟨gA2,0,none⟩) 2 2] 49)) _ _ _ at kAt
 replace kI:=kI.ext ha;replace kS:=kS.ext ha;replace kQ:=kQ.ext ha;replace kR0:=kR0.ext ha;replace kR1:=kR1.ext ha;replace kR2:=kR2.ext ha;replace kU:=kU.ext ha;replace kH:=kH.ext ha;replace kA1:=kA1.ext ha;replace kA2:=kA2.ext ha
 replace hxx:=hxx.trans ha
 clear ha
 obtain⟨gAt,hgAt⟩:∃g,g=U2.heap.size:=⟨_,rfl⟩
 rw[←hgAt]at kAt
 have kRu:=Bk.new (U2.alloc (.cells #[.bool false,.string nR,.slice (some ⟨gA1,0,none⟩) 2 2,.bool false,.string nR,.slice (some ⟨gA2,0,none⟩) 2 2] 49)) 46 [.slice (some ⟨gAt,0,none⟩) 2 2,.slice none 0 0]
 have ha:=(Ext.refl (U2.alloc (.cells #[.bool false,.string nR,.slice (some ⟨gA1,0,none⟩) 2 2,.bool false,.string nR,.slice (some ⟨gA2,0,none⟩) 2 2] 49))).alloc (.cells #[.slice (some ⟨gAt,0,none⟩) 2 2,.slice none 0 0] 46)
 change Bk ((U2.alloc (.cells #[.bool false,.string nR,.slice (some ⟨gA1,0,none⟩) 2 2,.bool false,.string nR,.slice (some ⟨gA2,0,none⟩) 2 2] 49)).alloc (.cells #[.slice (some ⟨gAt,0,none⟩) 2 2,.slice none 0 0] 46)) _ _ _ at kRu
 replace kI:=kI.ext ha;replace kS:=kS.ext ha;replace kQ:=kQ.ext ha;replace kR0:=kR0.ext ha;replace kR1:=kR1.ext ha;replace kR2:=kR2.ext ha;replace kU:=kU.ext ha;replace kH:=kH.ext ha;replace kA1:=kA1.ext ha;replace kA2:=kA2.ext ha;replace kAt:=kAt.ext ha
 replace hxx:=hxx.trans ha
 clear ha
 obtain⟨gRu,hgRu⟩:∃g,g=(U2.alloc (.cells #[.bool false,.string nR,.slice (some ⟨gA1,0,none⟩) 2 2,.bool false,.string nR,.slice (some ⟨gA2,0,none⟩) 2 2] 49)).heap.size:=⟨_,rfl⟩
 rw[←hgRu]at kRu
 have kKy:=Bk.new ((U2.alloc (.cells #[.bool false,.string nR,.slice (some ⟨gA1,0,none⟩) 2 2,.bool false,.string nR,.slice (some ⟨gA2,0,none⟩) 2 2] 49)).alloc (.cells #[.slice (some ⟨gAt,0,none⟩) 2 2,.slice none 0 0] 46)) 208 [.string nZ,.bool true]
 have ha:=(Ext.refl ((U2.alloc (.cells #[.bool false,.string nR,.slice (some ⟨gA1,0,none⟩) 2 2,.bool false,.string nR,.slice (some ⟨gA2,0,none⟩) 2 2] 49)).alloc (.cells #[.slice (some ⟨gAt,0,none⟩) 2 2,.slice none 0 0] 46))).alloc (.cells #[.string nZ,.bool true] 208)
 change Bk (((U2.alloc (.cells #[.bool false,.string nR,.slice (some ⟨gA1,0,none⟩) 2 2,.bool false,.string nR,.slice (some ⟨gA2,0,none⟩) 2 2] 49)).alloc (.cells #[.slice (some ⟨gAt,0,none⟩) 2 2,.slice none 0 0] 46)).alloc (.cells #[.string nZ,.bool true] 208)) _ _ _ at kKy
 replace kI:=kI.ext ha;replace kS:=kS.ext ha;replace kQ:=kQ.ext ha;replace kR0:=kR0.ext ha;replace kR1:=kR1.ext ha;replace kR2:=kR2.ext ha;replace kU:=kU.ext ha;replace kH:=kH.ext ha;replace kA1:=kA1.ext ha;replace kA2:=kA2.ext ha;replace kAt:=kAt.ext ha;replace kRu:=kRu.ext ha
 replace hxx:=hxx.trans ha
 clear ha
 obtain⟨gKy,hgKy⟩:∃g,g=((U2.alloc (.cells #[.bool false,.string nR,.slice (some ⟨gA1,0,none⟩) 2 2,.bool false,.string nR,.slice (some ⟨gA2,0,none⟩) 2 2] 49)).alloc (.cells #[.slice (some ⟨gAt,0,none⟩) 2 2,.slice none 0 0] 46)).heap.size:=⟨_,rfl⟩
 rw[←hgKy]at kKy
 obtain⟨V2,hV2⟩:∃V,V=(((U2.alloc (.cells #[.bool false,.string nR,.slice (some ⟨gA1,0,none⟩) 2 2,.bool false,.string nR,.slice (some ⟨gA2,0,none⟩) 2 2] 49)).alloc (.cells #[.slice (some ⟨gAt,0,none⟩) 2 2,.slice none 0 0] 46)).alloc (.cells #[.string nZ,.bool true] 208)):=⟨_,rfl⟩
 rw[←hV2]at kI kS kQ kR0 kR1 kR2 kU kH kA1 kA2 kAt kRu kKy hxx
 simp only[World.size_alloc]at hgRu hgKy
 have b0:=kQ.cell (i:=0) (by simp);have b1:=kQ.cell (i:=1) (by simp);have b2:=kQ.cell (i:=2) (by simp);have b3:=kQ.cell (i:=3) (by simp);have b4:=kQ.cell (i:=4) (by simp)
 have f0:=kQ.free 0;have f1:=kQ.free 1;have f2:=kQ.free 2;have f3:=kQ.free 3;have f4:=kQ.free 4
 simp only[ja,je]at b0 b1 b2 b3 b4
 rw[hV2,hgAt]at b0 b1 b2 b3 b4 f0 f1 f2 f3 f4
 have HKIz:=zO kI;clear kI;have HKSz:=zO kS;clear kS;have HKQz:=zO kQ;clear kQ;have HKR0z:=zO kR0;clear kR0;have HKR1z:=zO kR1;clear kR1;have HKR2z:=zO kR2;clear kR2;have HKUz:=zO kU;clear kU;have HKHz:=zO kH;clear kH;have HKA1z:=zO kA1;clear kA1;have HKA2z:=zO kA2;clear kA2;have HKATz:=zO kAt;clear kAt;have HKRUz:=zO kRu;clear kRu;have HKKYz:=zO kKy;clear kKy;have HHXXz:=zO hxx;clear hxx
 go_wp2_with fail
 have kI:=HKIz.out;clear HKIz;have kS:=HKSz.out;clear HKSz;have kQ:=HKQz.out;clear HKQz;have kR0:=HKR0z.out;clear HKR0z;have kR1:=HKR1z.out;clear HKR1z;have kR2:=HKR2z.out;clear HKR2z;have kU:=HKUz.out;clear HKUz;have kH:=HKHz.out;clear HKHz;have kA1:=HKA1z.out;clear HKA1z;have kA2:=HKA2z.out;clear HKA2z;have kAt:=HKATz.out;clear HKATz;have kRu:=HKRUz.out;clear HKRUz;have kKy:=HKKYz.out;clear HKKYz;have hxx:=HHXXz.out;clear HHXXz
 rw[←hgKy,←hgRu,←hgAt,←hgH,←hgU,←hV2]
 clear b0 b1 b2 b3 b4 f0 f1 f2 f3 f4 hV2 hg0 hg1 hg2 hgKy hgRu hgAt hgH hgU
 have hf:Fr (fun k=>k=w.heap.size) V2 (((((V2.setCell ⟨w.heap.size,0,none⟩ (.slice (some ⟨gH,0,none⟩) 2 2)).setCell ⟨w.heap.size,1,none⟩ (.int .i64 0)).setCell ⟨w.heap.size,2,none⟩ (.string ⟨#[]⟩)).setCell ⟨w.heap.size,3,none⟩ (.slice (some ⟨gRu,0,none⟩) 1 1)).setCell ⟨w.heap.size,4,none⟩ (.slice (some ⟨gKy,0,none⟩) 1 1)):=((((((Fr.refl (fun k=>k=w.heap.size) V2).setCell (p:=⟨w.heap.size,0,none⟩) (.inl rfl) (.slice (some ⟨gH,0,none⟩) 2 2)).setCell (p:=⟨w.heap.size,1,none⟩) (.inl rfl) (.int .i64 0)).setCell (p:=⟨w.heap.size,2,none⟩) (.inl rfl) (.string ⟨#[]⟩)).setCell (p:=⟨w.heap.size,3,none⟩) (.inl rfl) (.slice (some ⟨gRu,0,none⟩) 1 1)).setCell (p:=⟨w.heap.size,4,none⟩) (.inl rfl) (.slice (some ⟨gKy,0,none⟩) 1 1))
 have hxz:=hf.new hxx (fun q hq=>by omega)
 have k5:=(((((kQ.set 0 (.slice (some ⟨gH,0,none⟩) 2 2)).set 1 (.int .i64 0)).set 2 (.string ⟨#[]⟩)).set 3 (.slice (some ⟨gRu,0,none⟩) 1 1)).set 4 (.slice (some ⟨gKy,0,none⟩) 1 1))
 replace kI:=kI.fr hf (kI.ne kQ (by decide))
 replace kS:=kS.fr hf (kS.ne kQ (by decide))
 replace kR0:=kR0.fr hf (kR0.ne kQ (by decide))
 replace kR1:=kR1.fr hf (kR1.ne kQ (by decide))
 replace kR2:=kR2.fr hf (kR2.ne kQ (by decide))
 replace kU:=kU.fr hf (kU.ne kQ (by decide))
 replace kH:=kH.fr hf (kH.ne kQ (by decide))
 replace kA1:=kA1.fr hf (kA1.ne kQ (by decide))
 replace kA2:=kA2.fr hf (kA2.ne kQ (by decide))
 replace kAt:=kAt.fr hf (kAt.ne kQ (by decide))
 replace kRu:=kRu.fr hf (kRu.ne kQ (by decide))
 replace kKy:=kKy.fr hf (kKy.ne kQ (by decide))
 have q0:=k5.cell (i:=0) (by simp);have q1:=k5.cell (i:=1) (by simp);have q2:=k5.cell (i:=2) (by simp);have q3:=k5.cell (i:=3) (by simp);have q4:=k5.cell (i:=4) (by simp)
 simp only[jh,ji,ja,je]at q0 q1 q2 q3 q4
 generalize (((((V2.setCell ⟨w.heap.size,0,none⟩ (.slice (some ⟨gH,0,none⟩) 2 2)).setCell ⟨w.heap.size,1,none⟩ (.int .i64 0)).setCell ⟨w.heap.size,2,none⟩ (.string ⟨#[]⟩)).setCell ⟨w.heap.size,3,none⟩ (.slice (some ⟨gRu,0,none⟩) 1 1)).setCell ⟨w.heap.size,4,none⟩ (.slice (some ⟨gKy,0,none⟩) 1 1))=Z at *
 have hcl:∀{g:Nat} {t:TypeId} {vs:List Value},Bk Z g t vs→Cl (fun _=>True) Z (some ⟨g,0,none⟩) vs:=fun {g t vs} hb=>.inr ⟨_,rfl,trivial,fun j hj=>by rw[add_zero'];exact hb.cell hj⟩
 have r1:Sl rdSc (fun _=>True) Z (.slice (some ⟨gS,0,none⟩) 1 1) exS:=Sl.blk (r:=rdSc) (F:=fun _=>True) (xs:=exS) kS (css:=[[.string nR,.slice (some ⟨gI,0,none⟩) 2 2]]) rfl rfl (fun i h h'=>by
  have h1:i<1:=h
  obtain rfl:i=0:=by omega
  exact⟨_,rfl,_,_,rfl,jq _,hcl kI⟩) trivial 1 rfl
 have r2:Sl rdUp (fun _=>True) Z (.slice (some ⟨gU,0,none⟩) 3 3) exU:=Sl.blk (r:=rdUp) (F:=fun _=>True) (xs:=exU) kU (css:=[[.bool false,.string nR,.slice (some ⟨g0,0,none⟩) 2 2],[.bool false,.string nR,.slice (some ⟨g1,0,none⟩) 2 2],[.bool false,.string nR,.slice (some ⟨g2,0,none⟩) 2 2]]) rfl rfl (fun i h h'=>by
  have h1:i<3:=h
  obtain rfl|rfl|rfl:i=0∨i=1∨i=2:=by omega
  ·exact⟨_,rfl,row2 kR0⟩
  ·exact⟨_,rfl,row2 kR1⟩
  ·exact⟨_,rfl,row2 kR2⟩) trivial 3 rfl
 have r3:QyR (fun _=>True) Z (some ⟨gH,0,none⟩) 2 (some ⟨gRu,0,none⟩) 1 (some ⟨gKy,0,none⟩) 1 exQ:=by
  refine⟨⟨_,_,rfl,jq _,hcl kH⟩,Sl.blk (r:=rdRl) (F:=fun _=>True) (xs:=exQ.rs) kRu (css:=[[.slice (some ⟨gAt,0,none⟩) 2 2,.slice none 0 0]]) rfl rfl (fun i h h'=>?_) trivial 1 rfl,Sl.blk (r:=rdKy) (F:=fun _=>True) (xs:=exQ.od) kKy (css:=[[.string nZ,.bool true]]) rfl rfl (fun i h h'=>?_) trivial 1 rfl⟩
  ·have h1:i<1:=h
   obtain rfl:i=0:=by omega
   refine⟨_,_,rfl,⟨_,_,[.slice (some ⟨gA1,0,none⟩) 2 2,.slice (some ⟨gA2,0,none⟩) 2 2],rfl,jq _,rfl,hcl kAt,fun j h h'=>?_⟩,Sl.nil _ _ _⟩
   have h2:j<2:=h
   obtain rfl|rfl:j=0∨j=1:=by omega
   ·exact⟨_,_,rfl,jq _,hcl kA1⟩
   ·exact⟨_,_,rfl,jq _,hcl kA2⟩
  ·have h1:i<1:=h
   obtain rfl:i=0:=by omega
   rfl
 exact bodyPost_ret (v:=.tuple #[.slice (some ⟨gS,0,none⟩) 1 1,.slice (some ⟨gU,0,none⟩) 3 3,.agg #[.slice (some ⟨gH,0,none⟩) 2 2,.int .i64 0,.string ⟨#[]⟩,.slice (some ⟨gRu,0,none⟩) 1 1,.slice (some ⟨gKy,0,none⟩) 1 1]]) (by simp[results,Tryz.results43,go_sem,q0,q1,q2,q3,q4]) rfl ⟨hxz,gS,gU,_,_,_,rfl,r1,r2,r3⟩
