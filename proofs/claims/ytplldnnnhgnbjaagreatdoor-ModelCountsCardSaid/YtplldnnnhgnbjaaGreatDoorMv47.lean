/- packed -/
import Derived.Test.YtplldnnnhgnbjaaGreatDoorMv46
set_option maxRecDepth 20000
set_option maxHeartbeats 6400000
namespace Go.Proofs.YtplldnnnhgnbjaaGreatDoor
open Go.RowKit Go.Maps
theorem Sl.blk{α : Type}{r:Rdg α}{F:Nat→Prop}{w:World}{g:Nat}{t:TypeId}{xs:List α}{css:List (List Value)}{vs:List Value}(hb:Bk w g t vs)(hv:vs=css.flatten)(hl:css.length=xs.length)(hr:∀i (h:i<css.length) (h':i<xs.length),r.R F w css[i] xs[i])(hF:F g)(n:Nat)(hn:n=xs.length):Sl r F w (.slice (some ⟨g,0,none⟩) n n) xs:=by
 subst hv
 subst hn
 have se:∀cs∈css,cs.length=r.sz:=fun cs sh=>by
  obtain⟨i,hi,rfl⟩:=jx sh
  exact r.len (hr i hi (by omega))
 refine⟨_,_,rfl,jo _,fun i hi=>?_⟩
 have sg:i<css.length:=by omega
 have si:=se _ (jf sg)
 refine⟨_,css[i],rfl,hF,hr i sg hi,fun j hj=>?_⟩
 rw[cJ]
 have h1:=dW se sg (j:=j) (by omega)
 rw[jl hj]at h1
 obtain⟨h2,h3⟩:=zj.1 h1
 rw[hb.cell h2,h3]
abbrev nR:ByteArray:=⟨#[114]⟩
abbrev nX:ByteArray:=⟨#[120]⟩
abbrev nY:ByteArray:=⟨#[121]⟩
abbrev nZ:ByteArray:=⟨#[122]⟩
abbrev vI (n:Int):Vl:=⟨1,n,⟨#[]⟩⟩
abbrev tV (s:ByteArray):Tm:=⟨s,0,0,⟨#[]⟩⟩
def exS:List Sc:=[⟨nR,[1,1]⟩]
def exU:List Up:=[⟨false,nR,[vI 1,vI 2]⟩,⟨false,nR,[vI 1,vI 3]⟩,⟨false,nR,[vI 2,vI 3]⟩]
def exQ:Qy:=⟨[nX,nZ],0,⟨#[]⟩,[⟨[⟨false,nR,[tV nX,tV nY]⟩,⟨false,nR,[tV nY,tV nZ]⟩],[]⟩],[⟨nZ,true⟩]⟩
theorem fd(n:Int)(w:World):Calls Tryz.prog 44 #[.int .i64 n] w (fun e w'=>e=.returned (rX (vI n))∧Ext w w'):=by
 have kb:=Bk.new w 51 [.int .i64 0,.int .i64 0,.string ⟨#[]⟩]
 have hx:=(Ext.refl w).alloc (.cells #[.int .i64 0,.int .i64 0,.string ⟨#[]⟩] 51)
 go_enter Tryz.func44,Tryz.ntmps44
 go_upto_region 1 with fail
 change Bk (w.alloc (.cells #[.int .i64 0,.int .i64 0,.string ⟨#[]⟩] 51)) _ _ _ at kb
 generalize (w.alloc (.cells #[.int .i64 0,.int .i64 0,.string ⟨#[]⟩] 51))=w1 at *
 have b0:=kb.c0;have b1:=kb.c1;have b2:=kb.c2
 have f0:=kb.free 0;have f1:=kb.free 1;have f2:=kb.free 2
 have hf:Fr (fun k=>k=w.heap.size) w1 (((w1.setCell ⟨w.heap.size,0,none⟩ (.int .i64 1)).setCell ⟨w.heap.size,1,none⟩ (.int .i64 n)).setCell ⟨w.heap.size,2,none⟩ (.string ⟨#[]⟩)):=(((Fr.refl (fun k=>k=w.heap.size) w1).setCell (p:=⟨w.heap.size,0,none⟩) (.inl rfl) _).setCell (p:=⟨w.heap.size,1,none⟩) (.inl rfl) _).setCell (p:=⟨w.heap.size,2,none⟩) (.inl rfl) _
 have HX:=zN (hf.new hx (fun q hq=>by omega))
 have k2:=((kb.set 0 (.int .i64 1)).set 1 (.int .i64 n)).set 2 (.string ⟨#[]⟩)
 have q0:=k2.c0;have q1:=k2.c1;have q2:=k2.c2
 try simp only[jh,ji,ja,je]at q0 q1 q2
 clear kb hx hf k2
 go_wp2_with fail
 generalize (((w1.setCell ⟨w.heap.size,0,none⟩ (.int .i64 1)).setCell ⟨w.heap.size,1,none⟩ (.int .i64 n)).setCell ⟨w.heap.size,2,none⟩ (.string ⟨#[]⟩))=Z at *
 exact bodyPost_ret (v:=rX (vI n)) (by simp[results,Tryz.results44,go_sem,q0,q1,q2]) rfl ⟨rfl,HX.out⟩
theorem qL(a b:ByteArray)(w:World):Calls Tryz.prog 109 #[.string a,.string b] w (fun e w'=>Ext w w'∧∃g,e=.returned (.agg #[.bool false,.string nR,.slice (some ⟨g,0,none⟩) 2 2])∧Bk w' g 132 (dM [tV a,tV b])):=by
 have kb:=Bk.new w 49 [.bool false,.string ⟨#[]⟩,.slice none 0 0]
 have hx:=(Ext.refl w).alloc (.cells #[.bool false,.string ⟨#[]⟩,.slice none 0 0] 49)
 go_enter Tryz.func109,Tryz.ntmps109
 go_upto_region 1 with fail
 change Bk (w.alloc (.cells #[.bool false,.string ⟨#[]⟩,.slice none 0 0] 49)) _ _ _ at kb
 generalize (w.alloc (.cells #[.bool false,.string ⟨#[]⟩,.slice none 0 0] 49))=w1 at *
 have kt:=Bk.new w1 132 (dM [tV a,tV b])
 have sg:=(Ext.refl w1).alloc (.cells (dM [tV a,tV b]).toArray 132)
 have se:=kb.ext sg
 have b0:=se.c0;have b1:=se.c1;have b2:=se.c2
 have f0:=se.free 0;have f1:=se.free 1;have f2:=se.free 2
 have sh:w1.heap.size≠w.heap.size:=kt.ne se (by decide)
 change Bk (w1.alloc (.cells #[.string a,.int .i64 0,.int .i64 0,.string ⟨#[]⟩,.string b,.int .i64 0,.int .i64 0,.string ⟨#[]⟩] 132)) _ _ _ at kt
 change Ext w1 (w1.alloc (.cells #[.string a,.int .i64 0,.int .i64 0,.string ⟨#[]⟩,.string b,.int .i64 0,.int .i64 0,.string ⟨#[]⟩] 132)) at sg
 change Bk (w1.alloc (.cells #[.string a,.int .i64 0,.int .i64 0,.string ⟨#[]⟩,.string b,.int .i64 0,.int .i64 0,.string ⟨#[]⟩] 132)) _ _ _ at se
 change (w1.alloc (.cells #[.string a,.int .i64 0,.int .i64 0,.string ⟨#[]⟩,.string b,.int .i64 0,.int .i64 0,.string ⟨#[]⟩] 132)).cell? _=_ at b0 b1 b2
 change (w1.alloc (.cells #[.string a,.int .i64 0,.int .i64 0,.string ⟨#[]⟩,.string b,.int .i64 0,.int .i64 0,.string ⟨#[]⟩] 132)).frozen? _=_ at f0 f1 f2
 go_wp2_with fail
 generalize (w1.alloc (.cells #[.string a,.int .i64 0,.int .i64 0,.string ⟨#[]⟩,.string b,.int .i64 0,.int .i64 0,.string ⟨#[]⟩] 132))=X at *
 obtain⟨g,hg⟩:=sd w1.heap.size
 rw[←hg]at sh kt ⊢
 have hf:Fr (fun k=>k=w.heap.size) X (((X.setCell ⟨w.heap.size,0,none⟩ (.bool false)).setCell ⟨w.heap.size,1,none⟩ (.string nR)).setCell ⟨w.heap.size,2,none⟩ (.slice (some ⟨g,0,none⟩) 2 2)):=(((Fr.refl (fun k=>k=w.heap.size) X).setCell (p:=⟨w.heap.size,0,none⟩) (.inl rfl) _).setCell (p:=⟨w.heap.size,1,none⟩) (.inl rfl) _).setCell (p:=⟨w.heap.size,2,none⟩) (.inl rfl) _
 have si:=hf.new (hx.trans sg) (fun q hq=>by omega)
 have k3:=((se.set 0 (.bool false)).set 1 (.string nR)).set 2 (.slice (some ⟨g,0,none⟩) 2 2)
 have sj:=kt.fr hf sh
 have q0:=k3.c0;have q1:=k3.c1;have q2:=k3.c2
 try simp only[jh,ji,ja,je]at q0 q1 q2
 generalize (((X.setCell ⟨w.heap.size,0,none⟩ (.bool false)).setCell ⟨w.heap.size,1,none⟩ (.string nR)).setCell ⟨w.heap.size,2,none⟩ (.slice (some ⟨g,0,none⟩) 2 2))=Z at *
 exact bodyPost_ret (v:=.agg #[.bool false,.string nR,.slice (some ⟨g,0,none⟩) 2 2]) (by simp[results,Tryz.results109,go_sem,q0,q1,q2]) rfl ⟨si,g,rfl,sj⟩
def ExampleQ(w w':World)(e:Ending):Prop :=
 Ext w w'∧∃gS gU A B O,e=.returned (.tuple #[.slice (some ⟨gS,0,none⟩) 1 1,.slice (some ⟨gU,0,none⟩) 3 3,.agg #[.slice A 2 2,.int .i64 0,.string ⟨#[]⟩,.slice B 1 1,.slice O 1 1]])∧Sl el (fun _=>True) w' (.slice (some ⟨gS,0,none⟩) 1 1) exS∧Sl fJ (fun _=>True) w' (.slice (some ⟨gU,0,none⟩) 3 3) exU∧QyR (fun _=>True) w' A 2 B 1 O 1 exQ
theorem row2{w:World}{g:Nat}{a b:Vl}(h:Bk w g 51 (au [a,b])):Sl aM (fun _=>True) w (.slice (some ⟨g,0,none⟩) 2 2) [a,b]:=(kJ h rfl).mono (by decide) (fun _ _ _=>trivial)
theorem qK(w:World):Calls Tryz.prog 43 #[] w (fun e w'=>ExampleQ w w' e):=by
 have kb:=Bk.new w 28 [.slice none 0 0,.int .i64 0,.string ⟨#[]⟩,.slice none 0 0,.slice none 0 0]
 have hx:=(Ext.refl w).alloc (.cells #[.slice none 0 0,.int .i64 0,.string ⟨#[]⟩,.slice none 0 0,.slice none 0 0] 28)
 go_enter Tryz.func43,Tryz.ntmps43
 go_upto_region 1 with fail
 change Bk (w.alloc (.cells #[.slice none 0 0,.int .i64 0,.string ⟨#[]⟩,.slice none 0 0,.slice none 0 0] 28)) _ _ _ at kb
 generalize (w.alloc (.cells #[.slice none 0 0,.int .i64 0,.string ⟨#[]⟩,.slice none 0 0,.slice none 0 0] 28))=w1 at *
 have HX:=zN hx;have tf:=zN kb
 have k2:=bH w1 3 92 [.int .i64 1,.int .i64 1] [.string nR,.slice (some ⟨w1.heap.size,0,none⟩) 2 2]
 have hx2:=((Ext.refl w1).alloc (.cells #[.int .i64 1,.int .i64 1] 3)).alloc (.cells #[.string nR,.slice (some ⟨w1.heap.size,0,none⟩) 2 2] 92)
 clear kb hx
 go_upto_region 2 with fail
 change Bk ((w1.alloc (.cells #[.int .i64 1,.int .i64 1] 3)).alloc (.cells #[.string nR,.slice (some ⟨w1.heap.size,0,none⟩) 2 2] 92)) _ _ _∧Bk ((w1.alloc (.cells #[.int .i64 1,.int .i64 1] 3)).alloc (.cells #[.string nR,.slice (some ⟨w1.heap.size,0,none⟩) 2 2] 92)) _ _ _ at k2
 generalize ((w1.alloc (.cells #[.int .i64 1,.int .i64 1] 3)).alloc (.cells #[.string nR,.slice (some ⟨w1.heap.size,0,none⟩) 2 2] 92))=X at *
 obtain⟨kI,kS⟩:=k2
 obtain⟨gS,te⟩:=sd (w1.heap.size+1)
 obtain⟨gI,td⟩:=sd w1.heap.size
 rw[←te]at kS ⊢
 rw[←td]at kI kS
 clear te td
 have sg:=HX.out.trans hx2
 have kQ:=tf.out.ext hx2
 clear hx2
 have sj:=zN kI;clear kI;have sq:=zN kS;clear kS;have sp:=zN kQ;clear kQ;have se:=zN sg;clear sg
 go_wp2_with fail
 refine(fd 1 _).mono ?_
 rintro e Y0 ⟨rfl,he⟩
 have kI:=sj.out;clear sj;have kS:=sq.out;clear sq;have kQ:=sp.out;clear sp;have sg:=se.out;clear se
 replace kI:=kI.ext he;replace kS:=kS.ext he;replace kQ:=kQ.ext he
 replace sg:=sg.trans he
 clear he
 have sj:=zN kI;clear kI;have sq:=zN kS;clear kS;have sp:=zN kQ;clear kQ;have se:=zN sg;clear sg
 go_wp2_with fail
 refine(fd 2 _).mono ?_
 rintro e Z0 ⟨rfl,he⟩
 have kI:=sj.out;clear sj;have kS:=sq.out;clear sq;have kQ:=sp.out;clear sp;have sg:=se.out;clear se
 replace kI:=kI.ext he;replace kS:=kS.ext he;replace kQ:=kQ.ext he
 replace sg:=sg.trans he
 clear he
 have si:=Bk.new Z0 51 (au [vI 1,vI 2])
 have ha:=(Ext.refl Z0).alloc (.cells #[.int .i64 1,.int .i64 1,.string ⟨#[]⟩,.int .i64 1,.int .i64 2,.string ⟨#[]⟩] 51)
 change Bk (Z0.alloc (.cells #[.int .i64 1,.int .i64 1,.string ⟨#[]⟩,.int .i64 1,.int .i64 2,.string ⟨#[]⟩] 51)) _ _ _ at si
 replace kI:=kI.ext ha;replace kS:=kS.ext ha;replace kQ:=kQ.ext ha
 replace sg:=sg.trans ha
 clear ha
 obtain⟨g0,sY⟩:=sd Z0.heap.size
 rw[←sY]at si
 have sj:=zN kI;clear kI;have sq:=zN kS;clear kS;have sp:=zN kQ;clear kQ;have sh:=zN si;clear si;have se:=zN sg;clear sg
 go_wp2_with fail
 refine(fd 1 _).mono ?_
 rintro e Y1 ⟨rfl,he⟩
 have kI:=sj.out;clear sj;have kS:=sq.out;clear sq;have kQ:=sp.out;clear sp;have si:=sh.out;clear sh;have sg:=se.out;clear se
 replace kI:=kI.ext he;replace kS:=kS.ext he;replace kQ:=kQ.ext he;replace si:=si.ext he
 replace sg:=sg.trans he
 clear he
 have sj:=zN kI;clear kI;have sq:=zN kS;clear kS;have sp:=zN kQ;clear kQ;have sh:=zN si;clear si;have se:=zN sg;clear sg
 go_wp2_with fail
 refine(fd 3 _).mono ?_
 rintro e Z1 ⟨rfl,he⟩
 have kI:=sj.out;clear sj;have kS:=sq.out;clear sq;have kQ:=sp.out;clear sp;have si:=sh.out;clear sh;have sg:=se.out;clear se
 replace kI:=kI.ext he;replace kS:=kS.ext he;replace kQ:=kQ.ext he;replace si:=si.ext he
 replace sg:=sg.trans he
 clear he
 have su:=Bk.new Z1 51 (au [vI 1,vI 3])
 have ha:=(Ext.refl Z1).alloc (.cells #[.int .i64 1,.int .i64 1,.string ⟨#[]⟩,.int .i64 1,.int .i64 3,.string ⟨#[]⟩] 51)
 change Bk (Z1.alloc (.cells #[.int .i64 1,.int .i64 1,.string ⟨#[]⟩,.int .i64 1,.int .i64 3,.string ⟨#[]⟩] 51)) _ _ _ at su
 replace kI:=kI.ext ha;replace kS:=kS.ext ha;replace kQ:=kQ.ext ha;replace si:=si.ext ha
 replace sg:=sg.trans ha
 clear ha
 obtain⟨g1,sZ⟩:=sd Z1.heap.size
 rw[←sZ]at su
 have sj:=zN kI;clear kI;have sq:=zN kS;clear kS;have sp:=zN kQ;clear kQ;have sh:=zN si;clear si;have sr:=zN su;clear su;have se:=zN sg;clear sg
 go_wp2_with fail
 refine(fd 2 _).mono ?_
 rintro e Y2 ⟨rfl,he⟩
 have kI:=sj.out;clear sj;have kS:=sq.out;clear sq;have kQ:=sp.out;clear sp;have si:=sh.out;clear sh;have su:=sr.out;clear sr;have sg:=se.out;clear se
 replace kI:=kI.ext he;replace kS:=kS.ext he;replace kQ:=kQ.ext he;replace si:=si.ext he;replace su:=su.ext he
 replace sg:=sg.trans he
 clear he
 have sj:=zN kI;clear kI;have sq:=zN kS;clear kS;have sp:=zN kQ;clear kQ;have sh:=zN si;clear si;have sr:=zN su;clear su;have se:=zN sg;clear sg
 go_wp2_with fail
 refine(fd 3 _).mono ?_
 rintro e Z2 ⟨rfl,he⟩
 have kI:=sj.out;clear sj;have kS:=sq.out;clear sq;have kQ:=sp.out;clear sp;have si:=sh.out;clear sh;have su:=sr.out;clear sr;have sg:=se.out;clear se
 replace kI:=kI.ext he;replace kS:=kS.ext he;replace kQ:=kQ.ext he;replace si:=si.ext he;replace su:=su.ext he
 replace sg:=sg.trans he
 clear he
 have sw:=Bk.new Z2 51 (au [vI 2,vI 3])
 have ha:=(Ext.refl Z2).alloc (.cells #[.int .i64 1,.int .i64 2,.string ⟨#[]⟩,.int .i64 1,.int .i64 3,.string ⟨#[]⟩] 51)
 change Bk (Z2.alloc (.cells #[.int .i64 1,.int .i64 2,.string ⟨#[]⟩,.int .i64 1,.int .i64 3,.string ⟨#[]⟩] 51)) _ _ _ at sw
 replace kI:=kI.ext ha;replace kS:=kS.ext ha;replace kQ:=kQ.ext ha;replace si:=si.ext ha;replace su:=su.ext ha
 replace sg:=sg.trans ha
 clear ha
 obtain⟨g2,ta⟩:=sd Z2.heap.size
 rw[←ta]at sw
 obtain⟨V0,tc⟩:=sd (Z2.alloc (.cells #[.int .i64 1,.int .i64 2,.string ⟨#[]⟩,.int .i64 1,.int .i64 3,.string ⟨#[]⟩] 51))
 rw[←tc]at kI kS kQ si su sw sg
 have kU:=Bk.new V0 97 [.bool false,.string nR,.slice (some ⟨g0,0,none⟩) 2 2,.bool false,.string nR,.slice (some ⟨g1,0,none⟩) 2 2,.bool false,.string nR,.slice (some ⟨g2,0,none⟩) 2 2]
 have ha:=(Ext.refl V0).alloc (.cells #[.bool false,.string nR,.slice (some ⟨g0,0,none⟩) 2 2,.bool false,.string nR,.slice (some ⟨g1,0,none⟩) 2 2,.bool false,.string nR,.slice (some ⟨g2,0,none⟩) 2 2] 97)
 change Bk (V0.alloc (.cells #[.bool false,.string nR,.slice (some ⟨g0,0,none⟩) 2 2,.bool false,.string nR,.slice (some ⟨g1,0,none⟩) 2 2,.bool false,.string nR,.slice (some ⟨g2,0,none⟩) 2 2] 97)) _ _ _ at kU
 replace kI:=kI.ext ha;replace kS:=kS.ext ha;replace kQ:=kQ.ext ha;replace si:=si.ext ha;replace su:=su.ext ha;replace sw:=sw.ext ha
 replace sg:=sg.trans ha
 clear ha
 obtain⟨gU,sW⟩:=sd V0.heap.size
 rw[←sW]at kU
 have kH:=Bk.new (V0.alloc (.cells #[.bool false,.string nR,.slice (some ⟨g0,0,none⟩) 2 2,.bool false,.string nR,.slice (some ⟨g1,0,none⟩) 2 2,.bool false,.string nR,.slice (some ⟨g2,0,none⟩) 2 2] 97)) 9 [.string nX,.string nZ]
 have ha:=(Ext.refl (V0.alloc (.cells #[.bool false,.string nR,.slice (some ⟨g0,0,none⟩) 2 2,.bool false,.string nR,.slice (some ⟨g1,0,none⟩) 2 2,.bool false,.string nR,.slice (some ⟨g2,0,none⟩) 2 2] 97))).alloc (.cells #[.string nX,.string nZ] 9)
 change Bk ((V0.alloc (.cells #[.bool false,.string nR,.slice (some ⟨g0,0,none⟩) 2 2,.bool false,.string nR,.slice (some ⟨g1,0,none⟩) 2 2,.bool false,.string nR,.slice (some ⟨g2,0,none⟩) 2 2] 97)).alloc (.cells #[.string nX,.string nZ] 9)) _ _ _ at kH
 replace kI:=kI.ext ha;replace kS:=kS.ext ha;replace kQ:=kQ.ext ha;replace si:=si.ext ha;replace su:=su.ext ha;replace sw:=sw.ext ha;replace kU:=kU.ext ha
 replace sg:=sg.trans ha
 clear ha
 obtain⟨gH,sV⟩:=sd ((V0.alloc (.cells #[.bool false,.string nR,.slice (some ⟨g0,0,none⟩) 2 2,.bool false,.string nR,.slice (some ⟨g1,0,none⟩) 2 2,.bool false,.string nR,.slice (some ⟨g2,0,none⟩) 2 2] 97)).heap.size)
 rw[←sV]at kH
 obtain⟨V1,sX⟩:=sd (((V0.alloc (.cells #[.bool false,.string nR,.slice (some ⟨g0,0,none⟩) 2 2,.bool false,.string nR,.slice (some ⟨g1,0,none⟩) 2 2,.bool false,.string nR,.slice (some ⟨g2,0,none⟩) 2 2] 97)).alloc (.cells #[.string nX,.string nZ] 9)))
 rw[←sX]at kI kS kQ si su sw kU kH sg
 subst tc
 have sj:=zN kI;clear kI;have sq:=zN kS;clear kS;have sp:=zN kQ;clear kQ;have sh:=zN si;clear si;have sr:=zN su;clear su;have sx:=zN sw;clear sw;have sC:=zN kU;clear kU;have sB:=zN kH;clear kH;have se:=zN sg;clear sg
 go_wp2_with fail
 refine(qL nX nY _).mono ?_
 rintro e U1 ⟨he,sF,rfl,sy⟩
 rw[←sY,←sZ,←ta,←sX]at he
 simp only[World.size_alloc]at sW sV
 clear sX
 have kI:=sj.out;clear sj;have kS:=sq.out;clear sq;have kQ:=sp.out;clear sp;have si:=sh.out;clear sh;have su:=sr.out;clear sr;have sw:=sx.out;clear sx;have kU:=sC.out;clear sC;have kH:=sB.out;clear sB;have sg:=se.out;clear se
 replace kI:=kI.ext he;replace kS:=kS.ext he;replace kQ:=kQ.ext he;replace si:=si.ext he;replace su:=su.ext he;replace sw:=sw.ext he;replace kU:=kU.ext he;replace kH:=kH.ext he
 replace sg:=sg.trans he
 clear he
 have sj:=zN kI;clear kI;have sq:=zN kS;clear kS;have sp:=zN kQ;clear kQ;have sh:=zN si;clear si;have sr:=zN su;clear su;have sx:=zN sw;clear sw;have sC:=zN kU;clear kU;have sB:=zN kH;clear kH;have sA:=zN sy;clear sy;have se:=zN sg;clear sg
 go_wp2_with fail
 refine(qL nY nZ _).mono ?_
 rintro e U2 ⟨he,sG,rfl,sD⟩
 have kI:=sj.out;clear sj;have kS:=sq.out;clear sq;have kQ:=sp.out;clear sp;have si:=sh.out;clear sh;have su:=sr.out;clear sr;have sw:=sx.out;clear sx;have kU:=sC.out;clear sC;have kH:=sB.out;clear sB;have sy:=sA.out;clear sA;have sg:=se.out;clear se
 replace kI:=kI.ext he;replace kS:=kS.ext he;replace kQ:=kQ.ext he;replace si:=si.ext he;replace su:=su.ext he;replace sw:=sw.ext he;replace kU:=kU.ext he;replace kH:=kH.ext he;replace sy:=sy.ext he
 replace sg:=sg.trans he
 clear he
 have sE:=Bk.new U2 49 [.bool false,.string nR,.slice (some ⟨sF,0,none⟩) 2 2,.bool false,.string nR,.slice (some ⟨sG,0,none⟩) 2 2]
 have ha:=(Ext.refl U2).alloc (.cells #[.bool false,.string nR,.slice (some ⟨sF,0,none⟩) 2 2,.bool false,.string nR,.slice (some ⟨sG,0,none⟩) 2 2] 49)
 change Bk (U2.alloc (.cells #[.bool false,.string nR,.slice (some ⟨sF,0,none⟩) 2 2,.bool false,.string nR,.slice (some ⟨sG,0,none⟩) 2 2] 49)) _ _ _ at sE
 replace kI:=kI.ext ha;replace kS:=kS.ext ha;replace kQ:=kQ.ext ha;replace si:=si.ext ha;replace su:=su.ext ha;replace sw:=sw.ext ha;replace kU:=kU.ext ha;replace kH:=kH.ext ha;replace sy:=sy.ext ha;replace sD:=sD.ext ha
 replace sg:=sg.trans ha
 clear ha
 obtain⟨sJ,sK⟩:=sd U2.heap.size
 rw[←sK]at sE
 have sH:=Bk.new (U2.alloc (.cells #[.bool false,.string nR,.slice (some ⟨sF,0,none⟩) 2 2,.bool false,.string nR,.slice (some ⟨sG,0,none⟩) 2 2] 49)) 46 [.slice (some ⟨sJ,0,none⟩) 2 2,.slice none 0 0]
 have ha:=(Ext.refl (U2.alloc (.cells #[.bool false,.string nR,.slice (some ⟨sF,0,none⟩) 2 2,.bool false,.string nR,.slice (some ⟨sG,0,none⟩) 2 2] 49))).alloc (.cells #[.slice (some ⟨sJ,0,none⟩) 2 2,.slice none 0 0] 46)
 change Bk ((U2.alloc (.cells #[.bool false,.string nR,.slice (some ⟨sF,0,none⟩) 2 2,.bool false,.string nR,.slice (some ⟨sG,0,none⟩) 2 2] 49)).alloc (.cells #[.slice (some ⟨sJ,0,none⟩) 2 2,.slice none 0 0] 46)) _ _ _ at sH
 replace kI:=kI.ext ha;replace kS:=kS.ext ha;replace kQ:=kQ.ext ha;replace si:=si.ext ha;replace su:=su.ext ha;replace sw:=sw.ext ha;replace kU:=kU.ext ha;replace kH:=kH.ext ha;replace sy:=sy.ext ha;replace sD:=sD.ext ha;replace sE:=sE.ext ha
 replace sg:=sg.trans ha
 clear ha
 obtain⟨sS,sM⟩:=sd ((U2.alloc (.cells #[.bool false,.string nR,.slice (some ⟨sF,0,none⟩) 2 2,.bool false,.string nR,.slice (some ⟨sG,0,none⟩) 2 2] 49)).heap.size)
 rw[←sM]at sH
 have sI:=Bk.new ((U2.alloc (.cells #[.bool false,.string nR,.slice (some ⟨sF,0,none⟩) 2 2,.bool false,.string nR,.slice (some ⟨sG,0,none⟩) 2 2] 49)).alloc (.cells #[.slice (some ⟨sJ,0,none⟩) 2 2,.slice none 0 0] 46)) 208 [.string nZ,.bool true]
 have ha:=(Ext.refl ((U2.alloc (.cells #[.bool false,.string nR,.slice (some ⟨sF,0,none⟩) 2 2,.bool false,.string nR,.slice (some ⟨sG,0,none⟩) 2 2] 49)).alloc (.cells #[.slice (some ⟨sJ,0,none⟩) 2 2,.slice none 0 0] 46))).alloc (.cells #[.string nZ,.bool true] 208)
 change Bk (((U2.alloc (.cells #[.bool false,.string nR,.slice (some ⟨sF,0,none⟩) 2 2,.bool false,.string nR,.slice (some ⟨sG,0,none⟩) 2 2] 49)).alloc (.cells #[.slice (some ⟨sJ,0,none⟩) 2 2,.slice none 0 0] 46)).alloc (.cells #[.string nZ,.bool true] 208)) _ _ _ at sI
 replace kI:=kI.ext ha;replace kS:=kS.ext ha;replace kQ:=kQ.ext ha;replace si:=si.ext ha;replace su:=su.ext ha;replace sw:=sw.ext ha;replace kU:=kU.ext ha;replace kH:=kH.ext ha;replace sy:=sy.ext ha;replace sD:=sD.ext ha;replace sE:=sE.ext ha;replace sH:=sH.ext ha
 replace sg:=sg.trans ha
 clear ha
 obtain⟨sR,sL⟩:=sd (((U2.alloc (.cells #[.bool false,.string nR,.slice (some ⟨sF,0,none⟩) 2 2,.bool false,.string nR,.slice (some ⟨sG,0,none⟩) 2 2] 49)).alloc (.cells #[.slice (some ⟨sJ,0,none⟩) 2 2,.slice none 0 0] 46)).heap.size)
 rw[←sL]at sI
 obtain⟨V2,sU⟩:=sd ((((U2.alloc (.cells #[.bool false,.string nR,.slice (some ⟨sF,0,none⟩) 2 2,.bool false,.string nR,.slice (some ⟨sG,0,none⟩) 2 2] 49)).alloc (.cells #[.slice (some ⟨sJ,0,none⟩) 2 2,.slice none 0 0] 46)).alloc (.cells #[.string nZ,.bool true] 208)))
 rw[←sU]at kI kS kQ si su sw kU kH sy sD sE sH sI sg
 simp only[World.size_alloc]at sM sL
 have b0:=kQ.c0;have b1:=kQ.c1;have b2:=kQ.c2;have b3:=kQ.c3;have b4:=kQ.c4
 have f0:=kQ.free 0;have f1:=kQ.free 1;have f2:=kQ.free 2;have f3:=kQ.free 3;have f4:=kQ.free 4
 rw[sU,sK]at b0 b1 b2 b3 b4 f0 f1 f2 f3 f4
 have sj:=zN kI;clear kI;have sq:=zN kS;clear kS;have sp:=zN kQ;clear kQ;have sh:=zN si;clear si;have sr:=zN su;clear su;have sx:=zN sw;clear sw;have sC:=zN kU;clear kU;have sB:=zN kH;clear kH;have sA:=zN sy;clear sy;have sN:=zN sD;clear sD;have sO:=zN sE;clear sE;have sQ:=zN sH;clear sH;have sP:=zN sI;clear sI;have se:=zN sg;clear sg
 go_wp2_with fail
 have kI:=sj.out;clear sj;have kS:=sq.out;clear sq;have kQ:=sp.out;clear sp;have si:=sh.out;clear sh;have su:=sr.out;clear sr;have sw:=sx.out;clear sx;have kU:=sC.out;clear sC;have kH:=sB.out;clear sB;have sy:=sA.out;clear sA;have sD:=sN.out;clear sN;have sE:=sO.out;clear sO;have sH:=sQ.out;clear sQ;have sI:=sP.out;clear sP;have sg:=se.out;clear se
 rw[←sL,←sM,←sK,←sV,←sW,←sU]
 clear b0 b1 b2 b3 b4 f0 f1 f2 f3 f4 sU sY sZ ta sL sM sK sV sW
 have hf:Fr (fun k=>k=w.heap.size) V2 (((((V2.setCell ⟨w.heap.size,0,none⟩ (.slice (some ⟨gH,0,none⟩) 2 2)).setCell ⟨w.heap.size,1,none⟩ (.int .i64 0)).setCell ⟨w.heap.size,2,none⟩ (.string ⟨#[]⟩)).setCell ⟨w.heap.size,3,none⟩ (.slice (some ⟨sS,0,none⟩) 1 1)).setCell ⟨w.heap.size,4,none⟩ (.slice (some ⟨sR,0,none⟩) 1 1)):=((((((Fr.refl (fun k=>k=w.heap.size) V2).setCell (p:=⟨w.heap.size,0,none⟩) (.inl rfl) (.slice (some ⟨gH,0,none⟩) 2 2)).setCell (p:=⟨w.heap.size,1,none⟩) (.inl rfl) (.int .i64 0)).setCell (p:=⟨w.heap.size,2,none⟩) (.inl rfl) (.string ⟨#[]⟩)).setCell (p:=⟨w.heap.size,3,none⟩) (.inl rfl) (.slice (some ⟨sS,0,none⟩) 1 1)).setCell (p:=⟨w.heap.size,4,none⟩) (.inl rfl) (.slice (some ⟨sR,0,none⟩) 1 1))
 have tg:=hf.new sg (fun q hq=>by omega)
 have k5:=(((((kQ.set 0 (.slice (some ⟨gH,0,none⟩) 2 2)).set 1 (.int .i64 0)).set 2 (.string ⟨#[]⟩)).set 3 (.slice (some ⟨sS,0,none⟩) 1 1)).set 4 (.slice (some ⟨sR,0,none⟩) 1 1))
 replace kI:=kI.fr hf (kI.ne kQ (by decide))
 replace kS:=kS.fr hf (kS.ne kQ (by decide))
 replace si:=si.fr hf (si.ne kQ (by decide))
 replace su:=su.fr hf (su.ne kQ (by decide))
 replace sw:=sw.fr hf (sw.ne kQ (by decide))
 replace kU:=kU.fr hf (kU.ne kQ (by decide))
 replace kH:=kH.fr hf (kH.ne kQ (by decide))
 replace sy:=sy.fr hf (sy.ne kQ (by decide))
 replace sD:=sD.fr hf (sD.ne kQ (by decide))
 replace sE:=sE.fr hf (sE.ne kQ (by decide))
 replace sH:=sH.fr hf (sH.ne kQ (by decide))
 replace sI:=sI.fr hf (sI.ne kQ (by decide))
 have q0:=k5.c0;have q1:=k5.c1;have q2:=k5.c2;have q3:=k5.c3;have q4:=k5.c4
 try simp only[jh,ji,ja,je]at q0 q1 q2 q3 q4
 generalize (((((V2.setCell ⟨w.heap.size,0,none⟩ (.slice (some ⟨gH,0,none⟩) 2 2)).setCell ⟨w.heap.size,1,none⟩ (.int .i64 0)).setCell ⟨w.heap.size,2,none⟩ (.string ⟨#[]⟩)).setCell ⟨w.heap.size,3,none⟩ (.slice (some ⟨sS,0,none⟩) 1 1)).setCell ⟨w.heap.size,4,none⟩ (.slice (some ⟨sR,0,none⟩) 1 1))=Z at *
 have sT:∀{g:Nat} {t:TypeId} {vs:List Value},Bk Z g t vs→Cl (fun _=>True) Z (some ⟨g,0,none⟩) vs:=fun {g t vs} hb=>.inr ⟨_,rfl,trivial,fun j hj=>by rw[cJ];exact hb.cell hj⟩
 have r1:Sl el (fun _=>True) Z (.slice (some ⟨gS,0,none⟩) 1 1) exS:=Sl.blk (r:=el) (F:=fun _=>True) (xs:=exS) kS (css:=[[.string nR,.slice (some ⟨gI,0,none⟩) 2 2]]) rfl rfl (fun i h h'=>by
  have h1:i<1:=h
  obtain rfl:i=0:=by omega
  exact⟨_,rfl,_,_,rfl,jo _,sT kI⟩) trivial 1 rfl
 have r2:Sl fJ (fun _=>True) Z (.slice (some ⟨gU,0,none⟩) 3 3) exU:=Sl.blk (r:=fJ) (F:=fun _=>True) (xs:=exU) kU (css:=[[.bool false,.string nR,.slice (some ⟨g0,0,none⟩) 2 2],[.bool false,.string nR,.slice (some ⟨g1,0,none⟩) 2 2],[.bool false,.string nR,.slice (some ⟨g2,0,none⟩) 2 2]]) rfl rfl (fun i h h'=>by
  have h1:i<3:=h
  obtain rfl|rfl|rfl:i=0∨i=1∨i=2:=by omega
  ·exact⟨_,rfl,row2 si⟩
  ·exact⟨_,rfl,row2 su⟩
  ·exact⟨_,rfl,row2 sw⟩) trivial 3 rfl
 have r3:QyR (fun _=>True) Z (some ⟨gH,0,none⟩) 2 (some ⟨sS,0,none⟩) 1 (some ⟨sR,0,none⟩) 1 exQ:=by
  refine⟨⟨_,_,rfl,jo _,sT kH⟩,Sl.blk (r:=rz) (F:=fun _=>True) (xs:=exQ.rs) sH (css:=[[.slice (some ⟨sJ,0,none⟩) 2 2,.slice none 0 0]]) rfl rfl (fun i h h'=>?_) trivial 1 rfl,Sl.blk (r:=iO) (F:=fun _=>True) (xs:=exQ.od) sI (css:=[[.string nZ,.bool true]]) rfl rfl (fun i h h'=>?_) trivial 1 rfl⟩
  ·have h1:i<1:=h
   obtain rfl:i=0:=by omega
   refine⟨_,_,rfl,⟨_,_,[.slice (some ⟨sF,0,none⟩) 2 2,.slice (some ⟨sG,0,none⟩) 2 2],rfl,jo _,rfl,sT sE,fun j h h'=>?_⟩,Sl.nil _ _ _⟩
   have h2:j<2:=h
   obtain rfl|rfl:j=0∨j=1:=by omega
   ·exact⟨_,_,rfl,jo _,sT sy⟩
   ·exact⟨_,_,rfl,jo _,sT sD⟩
  ·have h1:i<1:=h
   obtain rfl:i=0:=by omega
   rfl
 exact bodyPost_ret (v:=.tuple #[.slice (some ⟨gS,0,none⟩) 1 1,.slice (some ⟨gU,0,none⟩) 3 3,.agg #[.slice (some ⟨gH,0,none⟩) 2 2,.int .i64 0,.string ⟨#[]⟩,.slice (some ⟨sS,0,none⟩) 1 1,.slice (some ⟨sR,0,none⟩) 1 1]]) (by simp[results,Tryz.results43,go_sem,q0,q1,q2,q3,q4]) rfl ⟨tg,gS,gU,_,_,_,rfl,r1,r2,r3⟩
