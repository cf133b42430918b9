/- packed -/
import Derived.Test.YtplldnnnhgnbjaaGreatDoorMv17
import Derived.Test.YtplldnnnhgnbjaaGreatDoorMv41
set_option maxRecDepth 20000
set_option maxHeartbeats 6400000
namespace Go.Proofs.YtplldnnnhgnbjaaGreatDoor
open Go.RowKit Go.Maps
structure Up where
 del:Bool
 rel:ByteArray
 row:List Vl
def kL(rows:List (List Vl))(del:Bool)(x:List Vl):Option (List (List Vl)×Bool) :=
 if del=true then (if da rows x=true then some (lJ rows x,true) else some (rows,false))
 else if da rows x=true then some (rows,false) else if 4096≤rows.length then none else some (nH rows x,true)
def pF(F:Nat→Prop)(a:Int)(rows:List (List Vl))(del:Bool)(x:List Vl)(w:World)(e:Ending)(w':World):Prop :=
 Ext w w'∧((kL rows del x=none∧e=.returned (.tuple #[zrel,.bool false,.int .i64 11]))∨∃rows' ch B k d,kL rows del x=some (rows',ch)∧e=.returned (.tuple #[.agg #[.int .i64 a,.slice B k d],.bool ch,.int .i64 0])∧(B=none→d=0)∧Sl aG (fun k=>F k∨w.heap.size≤k) w' (.slice B k d) rows')
theorem update_any{F G:Nat→Prop}{w:World}{A B:Option Addr}{n c m d:Nat}{a:Int}{rows:List (List Vl)}{x:List Vl}{del:Bool}{rl:ByteArray}(hS:SoR rows)(hA:Sl aG F w (.slice A n c) rows)(sB:A=none→c=0)(hB:Sl aM G w (.slice B m d) x)(hm:m≤1048576)(hr:∀x∈rows,x.length≤1048576)(hn:n≤65536)(hz:∀v∈x,v.str.size≤maxLen)(sM:fg a x=0) :
  Calls Tryz.prog 88 #[.agg #[.int .i64 a,.slice A n c],.agg #[.bool del,.string rl,.slice B m d]] w (pF F a rows del x w):=by
 have sO:=hA.cap.1
 have h':=hA.mono (G:=fun k=>F k∧k<w.heap.size) (by decide) (fun k hk hf=>⟨hf,hk⟩)
 have k3:=dN w 179 97 179 [.int .i64 a,.slice A n c] [.bool del,.string rl,.slice B m d] [.int .i64 0,.slice none 0 0]
 have hx:Ext w (((w.alloc (.cells #[.int .i64 a,.slice A n c] 179)).alloc (.cells #[.bool del,.string rl,.slice B m d] 97)).alloc (.cells #[.int .i64 0,.slice none 0 0] 179)):=(((Ext.refl w).alloc _).alloc _).alloc _
 have sQ:=zN (fun (V:World) (hV:Ext w V)=>delete_any (a:=a) hS (h'.ext hV) (hB.ext hV) hm hr hn hz)
 have sS:=zN (fun (h:n<4096) (V:World) (hV:Ext w V)=>insert_any (a:=a) hS (h'.ext hV) sB (hB.ext hV) hm hr (by omega) hz)
 have sU:=zN (fun (V:World) (hV:Ext w V)=>dP (a:=a) hS (h'.ext hV) (hB.ext hV) hm hr (by omega))
 have HA:=zN h';have sL:=zN sO;have sJ:=zN sM;have sF:=zN sB
 clear hS hA h' hB hr hz sO sM sB
 go_enter Tryz.func88,Tryz.ntmps88
 go_upto_region 1 with fail
 change Bk (((w.alloc (.cells #[.int .i64 a,.slice A n c] 179)).alloc (.cells #[.bool del,.string rl,.slice B m d] 97)).alloc (.cells #[.int .i64 0,.slice none 0 0] 179)) _ _ _∧Bk (((w.alloc (.cells #[.int .i64 a,.slice A n c] 179)).alloc (.cells #[.bool del,.string rl,.slice B m d] 97)).alloc (.cells #[.int .i64 0,.slice none 0 0] 179)) _ _ _∧Bk (((w.alloc (.cells #[.int .i64 a,.slice A n c] 179)).alloc (.cells #[.bool del,.string rl,.slice B m d] 97)).alloc (.cells #[.int .i64 0,.slice none 0 0] 179)) _ _ _ at k3
 generalize (((w.alloc (.cells #[.int .i64 a,.slice A n c] 179)).alloc (.cells #[.bool del,.string rl,.slice B m d] 97)).alloc (.cells #[.int .i64 0,.slice none 0 0] 179))=w1 at *
 obtain⟨ka,kb,kc⟩:=k3
 have a0:=ka.c0;have a1:=ka.c1;have u0:=kb.c0;have u2:=kb.c2
 have sV:w.heap.size+1+1<w1.heap.size:=kc.lt
 have HX:=zN hx;have sD:=zN kc
 -- the store of the result
 have si:=zN (fun (V:World) (P:Option Addr) (k q:Nat) (av:Int) (rows':List (List Vl)) (hX:Ext w V) (hK:Bk V (w.heap.size+1+1) 179 [.int .i64 0,.slice none 0 0]) (hs:Sl aG (fun k=>F k∧k<w.heap.size∨w1.heap.size≤k) V (.slice P k q) rows')=>(show Ext w ((V.setCell ⟨w.heap.size+1+1,0,none⟩ (.int .i64 av)).setCell ⟨w.heap.size+1+1,1,none⟩ (.slice P k q))∧Bk ((V.setCell ⟨w.heap.size+1+1,0,none⟩ (.int .i64 av)).setCell ⟨w.heap.size+1+1,1,none⟩ (.slice P k q)) (w.heap.size+1+1) 179 [.int .i64 av,.slice P k q]∧Sl aG (fun k=>F k∨w.heap.size≤k) ((V.setCell ⟨w.heap.size+1+1,0,none⟩ (.int .i64 av)).setCell ⟨w.heap.size+1+1,1,none⟩ (.slice P k q)) (.slice P k q) rows' from by
  have sP:Fr (fun k=>k=w.heap.size+1+1) V ((V.setCell ⟨w.heap.size+1+1,0,none⟩ (.int .i64 av)).setCell ⟨w.heap.size+1+1,1,none⟩ (.slice P k q)):=((Fr.refl (fun k=>k=w.heap.size+1+1) V).setCell (p:=⟨w.heap.size+1+1,0,none⟩) (.inl rfl) _).setCell (p:=⟨w.heap.size+1+1,1,none⟩) (.inl rfl) _
  refine⟨sP.new hX (fun q hq=>by omega),(hK.set 0 _).set 1 _,?_⟩
  exact((hs.fr sP (fun q hq=>by rcases hq with h|h <;> omega))).mono (by decide) (fun q _ hq=>by
   rcases hq with h|h
   ·exact .inl h.1
   ·exact .inr (by omega))))
 clear ka kb kc hx
 rcases del with _|_
 ·by_cases hn4:n<4096
  ·have g4:decide ((4096:Int)≤(n:Int))=false:=decide_eq_false (by omega)
   have sR:=zN (sS.out hn4)
   have sG:Hid (¬4096≤rows.length):=zN (by have:=sL.out;omega)
   clear hn4
   go_wp2_with fail
   refine len_any.mono ?_
   rintro e w2 ⟨y,rfl,sg,rfl⟩
   replace a0:=sg.cell a0;replace a1:=sg.cell a1;replace u2:=sg.cell u2
   go_wp2_with fail
   refine(sR.out _ (HX.out.trans sg)).mono ?_
   rintro e w3 ⟨sx,⟨sA,-⟩|⟨-,hh,rfl⟩|⟨-,hh,B2,d2,rfl,sE⟩⟩
   ·exact absurd sJ.out sA
   ·have sy:=zN hh
    have sj:=zN (sg.trans sx)
    clear hh sx sg
    have sq:=zN (HX.out.trans sj.out);have se:=zN (sD.out.ext sj.out)
    have sh:=(HA.out.ext (HX.out.trans sj.out)).mono (G:=fun k=>F k∧k<w.heap.size∨w1.heap.size≤k) (by decide) (fun k _ hk=>.inl hk)
    have sp:=zN sh
    have b0:=se.out.c0;have b1:=se.out.c1
    have f0:=se.out.free 0;have f1:=se.out.free 1
    have su:=se.out.lt
    clear a0 a1 u0 u2 sh
    go_wp2_with fail
    obtain⟨sr,kz,sw⟩:=si.out w3 A n c a rows sq.out se.out sp.out
    generalize ((w3.setCell ⟨w.heap.size+1+1,0,none⟩ (.int .i64 a)).setCell ⟨w.heap.size+1+1,1,none⟩ (.slice A n c))=wz at *
    have z0:=kz.c0;have z1:=kz.c1
    exact bodyPost_ret (v:=.tuple #[.agg #[.int .i64 a,.slice A n c],.bool false,.int .i64 0]) (by simp[results,Tryz.results88,go_sem,z0,z1]) rfl ⟨sr,.inr ⟨_,_,_,_,_,(by unfold kL;rw[if_neg (by simp),if_pos sy.out]),rfl,sF.out,sw⟩⟩

   ·have sy:=zN hh
    have sj:=zN (sg.trans sx)
    have sH:=zN (sE.mono (G:=fun k=>F k∧k<w.heap.size∨w1.heap.size≤k) (by decide) (fun k _ hk=>by
     have:=sg.size
     rcases hk with h|h
     ·exact .inl h
     ·exact .inr (by omega)))
    clear hh sx sg sE
    have sq:=zN (HX.out.trans sj.out);have se:=zN (sD.out.ext sj.out)
    have sh:=sH.out
    have sp:=zN sh
    have b0:=se.out.c0;have b1:=se.out.c1
    have f0:=se.out.free 0;have f1:=se.out.free 1
    have su:=se.out.lt
    clear a0 a1 u0 u2 sh
    go_wp2_with fail
    obtain⟨sr,kz,sw⟩:=si.out w3 (some B2) (n+1) d2 a (nH rows x) sq.out se.out sp.out
    generalize ((w3.setCell ⟨w.heap.size+1+1,0,none⟩ (.int .i64 a)).setCell ⟨w.heap.size+1+1,1,none⟩ (.slice (some B2) (n+1) d2))=wz at *
    have z0:=kz.c0;have z1:=kz.c1
    exact bodyPost_ret (v:=.tuple #[.agg #[.int .i64 a,.slice (some B2) (n+1) d2],.bool true,.int .i64 0]) (by simp[results,Tryz.results88,go_sem,z0,z1]) rfl ⟨sr,.inr ⟨_,_,_,_,_,(by unfold kL;rw[if_neg (by simp),if_neg (by rw[sy.out];simp),if_neg sG.out]),rfl,(fun e=>by cases e),sw⟩⟩

  ·have g4:decide ((4096:Int)≤(n:Int))=true:=decide_eq_true (by omega)
   have sG:Hid (4096≤rows.length):=zN (by have:=sL.out;omega)
   clear hn4
   go_wp2_with fail
   refine len_any.mono ?_
   rintro e w2 ⟨y,rfl,sg,rfl⟩
   replace a0:=sg.cell a0;replace a1:=sg.cell a1;replace u2:=sg.cell u2
   obtain⟨fb,sI⟩:=sd (da rows x)
   have sK:=zN sI
   go_wp2_with fail
   refine(sU.out _ (HX.out.trans sg)).mono ?_
   rintro e w3 ⟨sx,rfl⟩
   rw[←sI]
   replace a0:=sx.cell a0;replace a1:=sx.cell a1
   have sj:=zN (sg.trans sx)
   clear sx sg sI
   rcases fb with _|_
   ·have HN:=zN (Sl.nil aG (fun k=>F k∧k<w.heap.size∨w1.heap.size≤k) w3)
    have sq:=zN (HX.out.trans sj.out);have se:=zN (sD.out.ext sj.out)
    have sh:=HN.out
    have sp:=zN sh
    have b0:=se.out.c0;have b1:=se.out.c1
    have f0:=se.out.free 0;have f1:=se.out.free 1
    have su:=se.out.lt
    clear a0 a1 u0 u2 sh
    go_wp2_with fail
    obtain⟨sr,kz,sw⟩:=si.out w3 none 0 0 0 [] sq.out se.out sp.out
    generalize ((w3.setCell ⟨w.heap.size+1+1,0,none⟩ (.int .i64 0)).setCell ⟨w.heap.size+1+1,1,none⟩ (.slice none 0 0))=wz at *
    have z0:=kz.c0;have z1:=kz.c1
    exact bodyPost_ret (v:=.tuple #[.agg #[.int .i64 0,.slice none 0 0],.bool false,.int .i64 11]) (by simp[results,Tryz.results88,go_sem,z0,z1]) rfl ⟨sr,.inl ⟨(by unfold kL;rw[if_neg (by simp),if_neg (by rw[←sK.out];simp),if_pos sG.out]),rfl⟩⟩

   ·skip
    have sq:=zN (HX.out.trans sj.out);have se:=zN (sD.out.ext sj.out)
    have sh:=(HA.out.ext (HX.out.trans sj.out)).mono (G:=fun k=>F k∧k<w.heap.size∨w1.heap.size≤k) (by decide) (fun k _ hk=>.inl hk)
    have sp:=zN sh
    have b0:=se.out.c0;have b1:=se.out.c1
    have f0:=se.out.free 0;have f1:=se.out.free 1
    have su:=se.out.lt
    clear u0 u2 sh
    go_wp2_with fail
    obtain⟨sr,kz,sw⟩:=si.out w3 A n c a rows sq.out se.out sp.out
    generalize ((w3.setCell ⟨w.heap.size+1+1,0,none⟩ (.int .i64 a)).setCell ⟨w.heap.size+1+1,1,none⟩ (.slice A n c))=wz at *
    have z0:=kz.c0;have z1:=kz.c1
    exact bodyPost_ret (v:=.tuple #[.agg #[.int .i64 a,.slice A n c],.bool false,.int .i64 0]) (by simp[results,Tryz.results88,go_sem,z0,z1]) rfl ⟨sr,.inr ⟨_,_,_,_,_,(by unfold kL;rw[if_neg (by simp),if_pos sK.out.symm]),rfl,sF.out,sw⟩⟩

 ·go_wp2_with fail
  refine(sQ.out _ HX.out).mono ?_
  rintro e w2 ⟨sg,⟨sA,-⟩|⟨-,hh,rfl⟩|⟨-,hh,B2,k2,d2,rfl,sN,sE⟩⟩
  ·exact absurd sJ.out sA
  ·have sy:=zN hh
   have sC:=zN sg
   clear hh sg
   have sq:=zN (HX.out.trans sC.out);have se:=zN (sD.out.ext sC.out)
   have sh:=(HA.out.ext (HX.out.trans sC.out)).mono (G:=fun k=>F k∧k<w.heap.size∨w1.heap.size≤k) (by decide) (fun k _ hk=>.inl hk)
   have sp:=zN sh
   have b0:=se.out.c0;have b1:=se.out.c1
   have f0:=se.out.free 0;have f1:=se.out.free 1
   have su:=se.out.lt
   clear a0 a1 u0 u2 sh
   go_wp2_with fail
   obtain⟨sr,kz,sw⟩:=si.out w2 A n c a rows sq.out se.out sp.out
   generalize ((w2.setCell ⟨w.heap.size+1+1,0,none⟩ (.int .i64 a)).setCell ⟨w.heap.size+1+1,1,none⟩ (.slice A n c))=wz at *
   have z0:=kz.c0;have z1:=kz.c1
   exact bodyPost_ret (v:=.tuple #[.agg #[.int .i64 a,.slice A n c],.bool false,.int .i64 0]) (by simp[results,Tryz.results88,go_sem,z0,z1]) rfl ⟨sr,.inr ⟨_,_,_,_,_,(by unfold kL;rw[if_pos rfl,if_neg (by rw[sy.out];simp)]),rfl,sF.out,sw⟩⟩

  ·have sy:=zN hh
   have sC:=zN sg;have sT:=zN sN;have sH:=zN sE
   clear hh sg sN sE
   have sq:=zN (HX.out.trans sC.out);have se:=zN (sD.out.ext sC.out)
   have sh:=sH.out
   have sp:=zN sh
   have b0:=se.out.c0;have b1:=se.out.c1
   have f0:=se.out.free 0;have f1:=se.out.free 1
   have su:=se.out.lt
   clear a0 a1 u0 u2 sh
   go_wp2_with fail
   obtain⟨sr,kz,sw⟩:=si.out w2 B2 k2 d2 a (lJ rows x) sq.out se.out sp.out
   generalize ((w2.setCell ⟨w.heap.size+1+1,0,none⟩ (.int .i64 a)).setCell ⟨w.heap.size+1+1,1,none⟩ (.slice B2 k2 d2))=wz at *
   have z0:=kz.c0;have z1:=kz.c1
   exact bodyPost_ret (v:=.tuple #[.agg #[.int .i64 a,.slice B2 k2 d2],.bool true,.int .i64 0]) (by simp[results,Tryz.results88,go_sem,z0,z1]) rfl ⟨sr,.inr ⟨_,_,_,_,_,(by unfold kL;rw[if_pos rfl,if_pos sy.out]),rfl,sT.out,sw⟩⟩
def ov(ks:List Int)(r:List Vl):Bool:=(List.range ks.length).any (fun i=>!((r.getD i zv).kind == ks.getD i 0))
def nz(m:Dm)(rl:ByteArray)(r:List Vl):Int:=match m rl with
 | none=>7
 | some e=>if r.length=e.kinds.length then (if qh r=true then (if ov e.kinds r=true then 5 else 0) else 4) else 6
theorem qH{F G:Nat→Prop}{w:World}{b n:Nat}{M:Dm}{rl:ByteArray}{B:Option Addr}{m d:Nat}{x:List Vl}{del:Bool}(hD:DbB F w b n M)(hs:rl.size≤maxLen)(hB:Sl aM G w (.slice B m d) x)(hm:m≤maxLen)(hz:∀v∈x,v.str.size≤maxLen)(sK:∀e,M rl=some e→e.kinds.length≤1048576) :
  Calls Tryz.prog 87 #[.agg #[.map (some b)],.agg #[.bool del,.string rl,.slice B m d]] w (Ret (fun y _=>y=.int .i64 (nz M rl x)) w):=by
 have sM:=hB.cap.1
 obtain⟨f,hM,sL⟩:=hD
 have HM:=zN hM;have sH:=zN sM;have HB:=zN hB
 have HV:=zN (fun (h6:m≤1048576) (V:World) (hV:Ext w V)=>nW (hB.ext hV) h6 hz)
 simp only[maxLen]at hm
 have k2:=bH w 33 97 [.map (some b)] [.bool del,.string rl,.slice B m d]
 have hx:Ext w ((w.alloc (.cells #[.map (some b)] 33)).alloc (.cells #[.bool del,.string rl,.slice B m d] 97)):=((Ext.refl w).alloc _).alloc _
 obtain⟨er,sw⟩:=sd (nz M rl x)
 rw[←sw]
 rcases sL rl with ⟨h1,h2⟩|⟨y,u,h1,h2,u1,r1,rfl,hk,-,hr⟩
 ·have sh:Hid ((f rl).getD (.agg #[.slice none 0 0,.int .i64 0,.slice none 0 0])=.agg #[.slice none 0 0,.int .i64 0,.slice none 0 0]):=zN (by rw[h2];rfl)
  have sI:Hid ((f rl).isSome=false):=zN (by rw[h2];rfl)
  have sp:Hid (er=7):=zN (by rw[sw];unfold nz;rw[h1])
  clear sL h1 h2 hM hB hz sK sw sM
  go_enter Tryz.func87,Tryz.ntmps87
  go_upto_region 1 with fail
  change Bk ((w.alloc (.cells #[.map (some b)] 33)).alloc (.cells #[.bool del,.string rl,.slice B m d] 97)) _ _ _∧Bk ((w.alloc (.cells #[.map (some b)] 33)).alloc (.cells #[.bool del,.string rl,.slice B m d] 97)) _ _ _ at k2
  generalize ((w.alloc (.cells #[.map (some b)] 33)).alloc (.cells #[.bool del,.string rl,.slice B m d] 97))=w1 at *
  obtain⟨ka,kb⟩:=k2
  have a0:=ka.c0;have b1:=kb.c1
  have HX:=zN hx;have sG:=zN (HM.out.ext hx)
  clear ka kb hx
  go_upto_region 2 with (first
   | (refine az rfl _ _ 31 181 rfl Tryz.underlying31 (.agg #[.slice none 0 0,.int .i64 0,.slice none 0 0]) (bP _) b n f rfl sG.out rl rfl hs _ sh.out false sI.out ?_))
  have hx2:Ext w1 (w1.alloc (.cells #[.slice none 0 0,.int .i64 0,.slice none 0 0] 181)):=(Ext.refl w1).alloc _
  generalize (w1.alloc (.cells #[.slice none 0 0,.int .i64 0,.slice none 0 0] 181))=w2 at *
  have sr:=zN (HX.out.trans hx2)
  clear hx2 a0 b1
  go_wp2_with fail
  go_ret
  exact Ret.mk sr.out (by rw[sp.out];rfl)
 ·obtain⟨A,c,rfl⟩:=hr.sl
  obtain⟨A0,c0,tg,-,sX⟩:=hk
  subst tg
  have sy:=sK y h1
  have sh:Hid ((f rl).getD (.agg #[.slice none 0 0,.int .i64 0,.slice none 0 0])=.agg #[.slice A0 y.kinds.length c0,.int .i64 y.rel.ar,.slice A y.rel.rows.length c]):=zN (by rw[h2];rfl)
  have sI:Hid ((f rl).isSome=true):=zN (by rw[h2];rfl)
  have sp:Hid (er=if x.length=y.kinds.length then (if qh x=true then (if ov y.kinds x=true then 5 else 0) else 4) else 6):=zN (by rw[sw];unfold nz;rw[h1])
  have sS:=zN sX
  obtain⟨nr,sZ⟩:=sd y.rel.rows.length
  obtain⟨ra,ta⟩:=sd y.rel.ar
  obtain⟨ks,sY⟩:=sd y.kinds
  rw[←sY]at sh sp sS sy
  rw[←sZ,←ta]at sh
  obtain⟨nk,sO⟩:=sd ks.length
  rw[←sO]at sh sy
  have sA:=zN sO
  clear sL h1 h2 hM hB hz sK sw sM hr sX sZ ta sY sO
  go_enter Tryz.func87,Tryz.ntmps87
  go_upto_region 1 with fail
  change Bk ((w.alloc (.cells #[.map (some b)] 33)).alloc (.cells #[.bool del,.string rl,.slice B m d] 97)) _ _ _∧Bk ((w.alloc (.cells #[.map (some b)] 33)).alloc (.cells #[.bool del,.string rl,.slice B m d] 97)) _ _ _ at k2
  generalize ((w.alloc (.cells #[.map (some b)] 33)).alloc (.cells #[.bool del,.string rl,.slice B m d] 97))=w1 at *
  obtain⟨ka,kb⟩:=k2
  have a0:=ka.c0;have b1:=kb.c1
  have HX:=zN hx;have sG:=zN (HM.out.ext hx);have sT:=zN kb
  have th:=kb.lt
  clear ka kb hx
  go_upto_region 2 with (first
   | (refine az rfl _ _ 31 181 rfl Tryz.underlying31 (.agg #[.slice none 0 0,.int .i64 0,.slice none 0 0]) (bP _) b n f rfl sG.out rl rfl hs _ sh.out true sI.out ?_))
  have ke:=Bk.new w1 181 [.slice A0 nk c0,.int .i64 ra,.slice A nr c]
  change Bk (w1.alloc (.cells #[.slice A0 nk c0,.int .i64 ra,.slice A nr c] 181)) _ _ _ at ke
  have hx2:Ext w1 (w1.alloc (.cells #[.slice A0 nk c0,.int .i64 ra,.slice A nr c] 181)):=(Ext.refl w1).alloc _
  generalize (w1.alloc (.cells #[.slice A0 nk c0,.int .i64 ra,.slice A nr c] 181))=w2 at *
  have sr:=zN (HX.out.trans hx2);have sD:=zN (sT.out.ext hx2);have tc:=zN ke
  have e0:=ke.c0;have b2:=(sT.out.ext hx2).c2
  clear hx2 a0 b1 ke
  by_cases hlen:m=nk
  ·subst hlen
   have g1:((m:Int) != (m:Int))=false:=by simp
   have sU:=zN (HV.out (by omega) w2 sr.out)
   obtain⟨vb,sQ⟩:=sd (qh x)
   rw[←sQ]at sU
   have se:Hid (er=if vb=true then (if ov ks x=true then 5 else 0) else 4):=zN (by rw[sp.out,if_pos (by have:=sH.out;have:=sA.out;omega),sQ])
   clear sQ
   go_wp2_with fail
   refine sU.out.mono ?_
   rintro e w3 ⟨z,rfl,si,rfl⟩
   have su:=zN (sr.out.trans si);have sE:=zN (sD.out.ext si);have sF:=zN (tc.out.ext si)
   replace e0:=si.cell e0;replace b2:=si.cell b2
   clear si
   rcases vb with _|_
   ·clear e0 b2
    go_wp2_with fail
    go_ret
    exact Ret.mk su.out (by rw[se.out];rfl)
   ·have sq:Hid (er=if ov ks x=true then 5 else 0):=zN (by rw[se.out,if_pos rfl])
    go_wp2_with fail
    clear e0 b2
    go_loopw [35] (fun t wr=>∃i:Nat,i≤m∧t=.int .i64 (i:Int)∧Hid ((List.range i).any (fun i=>!((x.getD i zv).kind == ks.getD i 0))=false)∧Ext w3 wr) (fun t _=>m-(intOf t).toNat)
    case atStart=>exact⟨0,jn _,rfl,zN rfl,Ext.refl _⟩
    case round =>
     obtain⟨i,hi,rfl,sj,sg⟩:=hrel
     obtain⟨W,rfl⟩:∃W:World,W=wr:=⟨_,rfl⟩
     have sW:=zN sg
     by_cases hlt:i<m
     ·have i1:(0:Int)≤(i:Int):=by omega
      have i2:(i:Int)<(m:Int):=by omega
      have sB:i<x.length:=by have:=sH.out;omega
      have sx:i<ks.length:=by have:=sA.out;omega
      have e0:=(sF.out.ext sg).c0;have b2:=(sE.out.ext sg).c2
      obtain⟨ad,rfl,-,c1,-,-⟩:=HB.out.vl sB
      obtain⟨kd,rfl,-,c2⟩:=sS.out.int sx
      replace c1:=sg.cell (su.out.cell c1);replace c2:=sg.cell (su.out.cell c2)
      have sP:(List.range (i+1)).any (fun i=>!((x.getD i zv).kind == ks.getD i 0)) = !(x[i].kind == ks[i]):=by
       rw[List.range_succ,List.any_append,sj.out]
       simp[jl sB,jl sx]
      have sN:(x[i].kind == ks[i])=false→ov ks x=true:=fun h=>by
       unfold ov
       rw[jM]
       exact⟨i,List.mem_range.2 sx,by simp[jl sB,jl sx];simpa using h⟩
      obtain⟨xk,sR⟩:=sd (x[i].kind)
      obtain⟨kk,sJ⟩:=sd (ks[i])
      rw[←sR,←sJ]at sP sN
      rw[←sR]at c1
      rw[←sJ]at c2
      have tf:=zN sP;have te:=zN sN
      clear sP sN sR sJ sB sx sg
      go_upto_region 11 with fail
      go_quiet (fail)
      have sV:=zN (sW.out.drewN nq)
      generalize (W.drewN nq)=Y at *
      clear c1 c2 e0 b2
      by_cases hkx:xk=kk
      ·have g2:(xk != kk)=false:=by simpa using hkx
       have sC:=zN (tf.out.trans (by rw[show (xk == kk)=true by simpa using hkx]))
       clear hkx
       go_wp2_with fail
       go_roundw
       case rel=>exact⟨i+1,by omega,by go_num,sC,sV.out⟩
       case measure=>simp[intOf];omega
      ·have g2:(xk != kk)=true:=by simpa using hkx
       have td:=zN (te.out (by simpa using hkx))
       clear hkx
       go_wp2_with fail
       go_ret
       exact Ret.mk (su.out.trans sV.out) (by rw[sq.out,if_pos td.out];rfl)
     ·obtain rfl:i=m:=by omega
      have tj:¬(i:Int)<(i:Int):=by omega
      have sC:Hid (ov ks x=false):=zN (by unfold ov;rw[←sA.out];exact sj.out)
      clear sg
      go_wp2_with fail
      go_ret
      exact Ret.mk (su.out.trans sW.out) (by rw[sq.out,if_neg (by rw[sC.out];simp)];rfl)
  ·have g1:((m:Int) != (nk:Int))=true:=by simp;omega
   have se:Hid (er=6):=zN (by rw[sp.out,if_neg (by have:=sH.out;have:=sA.out;omega)])
   clear hlen
   go_wp2_with fail
   go_ret
   exact Ret.mk sr.out (by rw[se.out];rfl)
theorem aI.clone{w:World}{b n:Nat}{f:ByteArray→Option Value}(h:aI w b n f):Calls Tryz.prog 86 #[.map (some b)] w (fun e w'=>e=.returned (.map (some w.heap.size))∧aI w' w.heap.size n f∧Ext w w'):=by
 obtain⟨D,hD,h1,h2,h3⟩:=h
 have hc:=AnyW.maps_Clone_owns Tryz.layMapClone 9 Rv b n D w hD
 change Calls Tryz.prog 86 _ _ _ at hc
 refine hc.mono ?_
 rintro e w' ⟨rfl,se,-,he⟩
 exact⟨rfl,⟨D,se,h1,h2,h3⟩,he⟩
def fJ:Rdg Up where
 sz:=3
 R:=fun F w cs x=>∃u,cs=[.bool x.del,.string x.rel,u]∧Sl aM F w u x.row
 len:=fun ⟨_,e,_⟩=>by rw[e];rfl
 fr:=fun ⟨u,e,h⟩ hf hs=>⟨u,e,h.fr hf hs⟩
 mono:=fun ⟨u,e,h⟩ hs=>⟨u,e,h.mono (by decide) hs⟩
theorem Sl.up{F:Nat→Prop}{w:World}{A:Option Addr}{n c:Nat}{xs:List Up}(h:Sl fJ F w (.slice A n c) xs){i:Nat}(hi:i<xs.length):∃ad B d,A=some ad∧w.cell? (ad.add (i*3))=some (.bool xs[i].del)∧w.cell? ⟨(ad.add (i*3)).block,(ad.add (i*3)).off+1,none⟩=some (.string xs[i].rel)∧w.cell? ⟨(ad.add (i*3)).block,(ad.add (i*3)).off+2,none⟩=some (.slice B xs[i].row.length d)∧Sl aM F w (.slice B xs[i].row.length d) xs[i].row:=by
 obtain⟨ad,cs,h1,-,⟨u,rfl,hu⟩,c0,cr⟩:=h.at hi
 obtain⟨B,d,rfl⟩:=hu.sl
 exact⟨ad,B,d,h1,c0 (by simp),cr 0 (by simp),cr 1 (by simp),hu⟩
structure DmOk(M:Dm):Prop where
 ar:∀s e,M s=some e→e.rel.ar=(e.kinds.length:Int)∧e.kinds.length≤6
 so:∀s e,M s=some e→SoR e.rel.rows∧e.rel.rows.length≤4096
 row:∀s e,M s=some e→∀x∈e.rel.rows,fg e.rel.ar x=0∧ov e.kinds x=false
def i7(M:Dm)(u:Up):Except Int (Dm×Bool):=if nz M u.rel u.row=0 then (match M u.rel with
 | none=>.error 7
 | some e=>match kL e.rel.rows u.del u.row with
  | none=>.error 11
  | some p=>.ok (if p.2=true then ly M u.rel ⟨e.kinds,⟨e.rel.ar,p.1⟩⟩ else M,p.2)) else .error (nz M u.rel u.row)
def kV(M:Dm)(k:Nat):List Up→Except Int (Dm×Nat)
 | []=>.ok (M,k)
 | u::us=>match i7 M u with
  | .error e=>.error e
  | .ok p=>kV p.1 (if p.2=true then k+1 else k) us
theorem updS_ok{rows rows':List (List Vl)}{x:List Vl}{del ch:Bool}(h:SoR rows)(hl:rows.length≤4096)(hu:kL rows del x=some (rows',ch)):SoR rows'∧rows'.length≤4096∧∀r∈rows',r=x∨r∈rows:=by
 unfold kL at hu
 split at hu
 ·split at hu
  ·rename_i hh
   injection hu with hu;injection hu with h1 h2;subst h1
   obtain⟨se,-⟩:=pU h hh
   exact⟨delR_so h,by have:=qI se;omega,fun r hr=>.inr ((delR_mem h hh).1 hr).1⟩
  ·injection hu with hu;injection hu with h1 h2;subst h1
   exact⟨h,hl,fun r hr=>.inr hr⟩
 ·split at hu
  ·injection hu with hu;injection hu with h1 h2;subst h1
   exact⟨h,hl,fun r hr=>.inr hr⟩
  ·split at hu
   ·cases hu
   ·rename_i h1 hh hn
    injection hu with hu;injection hu with h1 h2;subst h1
    exact⟨insR_so h (by simpa using hh),by rw[qX];omega,fun r hr=>insR_mem.1 hr⟩
theorem qA{M:Dm}{rl:ByteArray}{r:List Vl}{e:En}(he:M rl=some e)(se:e.rel.ar=(e.kinds.length:Int))(h:nz M rl r=0):fg e.rel.ar r=0∧ov e.kinds r=false:=by
 unfold nz at h
 rw[he]at h
 simp only at h
 split at h
 ·rename_i h1
  split at h
  ·rename_i h2
   split at h
   ·simp at h
   ·rename_i h3
    exact⟨by unfold fg;rw[if_pos (by rw[se,h1]),if_pos h2],by simpa using h3⟩
  ·simp at h
 ·simp at h
theorem appD_ok{M M':Dm}{u:Up}{ch:Bool}(h:DmOk M)(ha:i7 M u=.ok (M',ch)):DmOk M':=by
 unfold i7 at ha
 split at ha
 ·rename_i hc
  split at ha
  ·cases ha
  ·rename_i e he
   split at ha
   ·cases ha
   ·rename_i p hp
    injection ha with ha
    injection ha with h1 h2
    subst h1
    split
    ·obtain⟨q1,q2,q3⟩:=updS_ok (rows':=p.1) (ch:=p.2) (h.so _ _ he).1 (h.so _ _ he).2 hp
     have hz:=qA he (h.ar _ _ he).1 hc
     refine⟨fun s y hy=>?_,fun s y hy=>?_,fun s y hy=>?_⟩ <;> unfold ly at hy <;> split at hy
     ·injection hy with hy;subst hy;have:=h.ar _ _ he;exact this
     ·exact h.ar _ _ hy
     ·injection hy with hy;subst hy;exact⟨q1,q2⟩
     ·exact h.so _ _ hy
     ·injection hy with hy;subst hy
      intro r hr
      rcases q3 r hr with rfl|hr
      ·exact hz
      ·exact h.row _ _ he r hr
     ·exact h.row _ _ hy
    ·exact h
 ·cases ha
def ApPost(F:Nat→Prop)(M:Dm)(us:List Up)(n:Nat)(w:World)(e:Ending)(w':World):Prop :=
 Ext w w'∧((∃er:Int,kV M 0 us=.error er∧er≠0∧e=.returned (.tuple #[.agg #[.map none],.int .i64 0,.int .i64 er]))∨∃(M':Dm) (k g:Nat),kV M 0 us=.ok (M',k)∧e=.returned (.tuple #[.agg #[.map (some g)],.int .i64 (k:Int),.int .i64 0])∧w.heap.size≤g∧k≤us.length∧DmOk M'∧DbB (fun k=>(F k∧k<w.heap.size)∨g<k) w' g (n+us.length) M')
def UpR(F:Nat→Prop)(a:Int)(rows:List (List Vl))(del:Bool)(x:List Vl)(w':World)(av:Int)(P:Option Addr)(k d:Nat)(ch:Bool)(er:Int):Prop:=(kL rows del x=none∧er=11)∨(er=0∧av=a∧∃rows',kL rows del x=some (rows',ch)∧(P=none→d=0)∧Sl aG F w' (.slice P k d) rows')
theorem pF.one{F H:Nat→Prop}{a:Int}{rows:List (List Vl)}{del:Bool}{x:List Vl}{w w':World}{e:Ending}(hH:∀k,F k∨w.heap.size≤k→H k)(h:pF F a rows del x w e w'):∃av P k d ch er,e=.returned (.tuple #[.agg #[.int .i64 av,.slice P k d],.bool ch,.int .i64 er])∧Ext w w'∧UpR H a rows del x w' av P k d ch er:=by
 obtain⟨he,⟨h1,rfl⟩|⟨rows',ch,P,k,d,h1,rfl,h2,h3⟩⟩:=h
 ·exact⟨0,none,0,0,false,11,rfl,he,.inl ⟨h1,rfl⟩⟩
 ·exact⟨a,P,k,d,ch,0,rfl,he,.inr ⟨rfl,rfl,rows',h1,h2,h3.mono (by decide) (fun k _ hk=>hH k hk)⟩⟩
theorem UpR.fr{F H S:Nat→Prop}{a av:Int}{rows:List (List Vl)}{del ch:Bool}{x:List Vl}{w w':World}{P:Option Addr}{k d:Nat}{er:Int}(h:UpR F a rows del x w av P k d ch er)(hf:Fr S w w')(hs:∀k,F k→¬S k)(hH:∀k,F k→H k):UpR H a rows del x w' av P k d ch er:=by
 rcases h with h|⟨h1,h2,rows',h3,h4,h5⟩
 ·exact .inl h
 ·exact .inr ⟨h1,h2,rows',h3,h4,(h5.fr hf hs).mono (by decide) (fun k _ hk=>hH k hk)⟩
theorem DbB.le{F:Nat→Prop}{w:World}{b n n':Nat}{M:Dm}(h:DbB F w b n M)(hn:n≤n'):DbB F w b n' M:=let ⟨f,h1,h2⟩:=h;⟨f,h1.mono hn,h2⟩
theorem DbB.ent{F:Nat→Prop}{w:World}{b n:Nat}{M:Dm}{rl:ByteArray}{e:En}(h:DbB F w b n M)(hs:rl.size≤maxLen)(he:M rl=some e):∃A0 c0 A c,Ins F w (.slice A0 e.kinds.length c0) e.kinds∧(A=none→c=0)∧Sl aG F w (.slice A e.rel.rows.length c) e.rel.rows∧∀V,Ext w V→(Instr.lookup 31 (.map (some b)) (.string rl) false).run Tryz.prog V=.ok (.agg #[.slice A0 e.kinds.length c0,.int .i64 e.rel.ar,.slice A e.rel.rows.length c]) V:=by
 obtain⟨f,hM,hm⟩:=h
 rcases hm rl with ⟨h1,-⟩|⟨y,u,h1,h2,u1,r1,rfl,hk,hn,hr⟩
 ·rw[h1]at he;cases he
 ·rw[h1]at he;injection he with he;subst he
  obtain⟨A,c,rfl⟩:=hr.sl
  obtain⟨A0,c0,rfl⟩:∃A c,u1=.slice A y.kinds.length c:=let ⟨A,c,e,_⟩:=hk;⟨A,c,e⟩
  exact⟨A0,c0,A,c,hk,fun e=>hn y.rel.rows.length c (by rw[e]),hr,fun V hV=>(hM.ext hV).look Tryz.underlying31 (bP _) hs (by rw[h2];rfl)⟩
theorem DbB.upd{F:Nat→Prop}{w:World}{b n:Nat}{M:Dm}{rl:ByteArray}{e:En}{u:Value}(h:DbB F w b n M)(hF:∀k,F k→k≠b)(hn:n<maxLen)(hs:rl.size≤maxLen)(he:EnV F w u e):∃w',(Instr.mapUpdate 31 (.map (some b)) (.string rl) u).run Tryz.prog w=.ok () w'∧Hid (DbB F w' b (n+1) (ly M rl e)∧Fr (fun k=>k=b) w w'):=by
 obtain⟨f,hM,hm⟩:=h
 obtain⟨w',h1,h2⟩:=upd_run hM hn hs u
 exact⟨w',h1,zN ⟨DbB.put hm h2.out.1 h2.out.2 hF he,Fr.grown (Fr.refl (fun k=>k=b) w) h2.out.2 (fun k hk=>.inl (by injection hk with hk;exact hk.symm))⟩⟩
theorem apply_any{F G:Nat→Prop}{w:World}{b n m:Nat}{M:Dm}{U:Option Addr}{c:Nat}{us:List Up}(hD:DbB F w b n M)(hn:n+m≤1000000)(hO:DmOk M)(hU:Sl fJ G w (.slice U m c) us)(hs:∀u∈us,u.rel.size≤maxLen∧u.row.length≤maxLen∧∀v∈u.row,v.str.size≤maxLen) :
    Calls Tryz.prog 33 #[.agg #[.map (some b)],.slice U m c] w (ApPost F M us n w):=by
  have tG:=hU.cap.1
  have tA:=zN tG;have HU:=zN hU;have HS:=zN hs;have HO:=zN hO
  obtain⟨ap,ta⟩:=sd (kV M 0 us)
  have ue:=hD.mono (G:=fun k=>(F k∧k<w.heap.size)) (fun k hk hf=>⟨hf,hk⟩)
  obtain⟨f,hM,tF⟩:=ue
  have HM:=zN hM;have tU:=zN tF
  have k2:=bH w 33 33 [.map (some b)] [.map none]
  have hx:Ext w ((w.alloc (.cells #[.map (some b)] 33)).alloc (.cells #[.map none] 33)):=((Ext.refl w).alloc _).alloc _
  have tL:Hid (kV M 0 us=ap):=zN ta.symm
  have HQ:Hid (∀e w',(Ext w w'∧((∃er:Int,ap=.error er∧er≠0∧e=.returned (.tuple #[.agg #[.map none],.int .i64 0,.int .i64 er]))∨∃(M':Dm) (k g:Nat),ap=.ok (M',k)∧e=.returned (.tuple #[.agg #[.map (some g)],.int .i64 (k:Int),.int .i64 0])∧w.heap.size≤g∧k≤m∧DmOk M'∧DbB (fun k=>(F k∧k<w.heap.size)∨g<k) w' g (n+m) M'))→ApPost F M us n w e w'):=zN (fun e w' h=>by
    unfold ApPost;rw[←ta,←tG];exact h)
  clear hM tF ta hD hO hU hs
  go_enter Tryz.func33,Tryz.ntmps33
  go_upto_region 1 with fail
  change Bk ((w.alloc (.cells #[.map (some b)] 33)).alloc (.cells #[.map none] 33)) _ _ _∧Bk ((w.alloc (.cells #[.map (some b)] 33)).alloc (.cells #[.map none] 33)) _ _ _ at k2
  generalize ((w.alloc (.cells #[.map (some b)] 33)).alloc (.cells #[.map none] 33))=w1 at *
  obtain⟨ka,kb⟩:=k2
  have a0:=ka.c0
  have HX:=zN hx;have tQ:=zN kb;have tM:=zN (HM.out.ext hx).clone
  have um:=kb.lt;have uo:=hx.size
  clear ka kb hx
  go_wp2_with fail
  refine tM.out.mono ?_
  rintro e w2 ⟨rfl,tD,tc⟩
  have sR:=zN tD;have ub:=zN (HX.out.trans tc);have sP:=zN (tQ.out.ext tc)
  obtain⟨g,hg⟩:=sd w1.heap.size
  rw[←hg]at sR um uo ⊢
  have uy:g<w2.heap.size:=sR.out.lt
  clear tD tc hg a0
  go_upto_region 2 with fail
  have kd:=Bk.new w2 33 [.map (some g)]
  change Bk (w2.alloc (.cells #[.map (some g)] 33)) _ _ _ at kd
  have hx3:Ext w2 (w2.alloc (.cells #[.map (some g)] 33)):=(Ext.refl w2).alloc _
  generalize (w2.alloc (.cells #[.map (some g)] 33))=w3 at *
  have sV:=zN (ub.out.trans hx3);have sG:=zN (sP.out.ext hx3);have tz:=zN kd
  have tN:Hid (DbB (fun k=>(F k∧k<w.heap.size)∨g<k) w3 g (n+0) M):=zN ⟨f,sR.out.ext hx3,fun s=>by
    rcases tU.out s with h|⟨e',u',h3,h4,h5⟩
    · exact .inl h
    · exact .inr ⟨e',u',h3,h4,(h5.ext sV.out).mono (fun k _ h=>.inl h)⟩⟩
  clear kd hx3
  go_wp2_with fail
  go_loopw [8,21] (fun t q wr=>∃(i k:Nat) (Mi:Dm),i≤m∧k≤i∧q=.int .i64 (i:Int)∧t=.int .i64 (k:Int)∧Hid (DmOk Mi)∧Hid (kV Mi k (us.drop i)=ap)∧Hid (DbB (fun k=>(F k∧k<w.heap.size)∨g<k) wr g (n+i) Mi)∧Hid (Fr (fun b=>b=g) w3 wr)) (fun _ q _=>m-(intOf q).toNat)
  case atStart=>exact⟨0,0,M,jn _,jo _,rfl,rfl,HO,zN (by rw[List.drop_zero];exact tL.out),tN,zN (Fr.refl _ _)⟩
  case round =>
    obtain⟨i,k,Mi,hi,uk,rfl,rfl,sj,tq,sO,sy⟩:=hrel
    obtain⟨W,rfl⟩:∃W:World,W=wr:=⟨_,rfl⟩
    by_cases hlt:i<m
    · have j1:(0:Int)≤(i:Int):=by omega
      have j2:(i:Int)<(m:Int):=by omega
      have sN:i<us.length:=by have:=tA.out;omega
      obtain⟨ad,B,d,rfl,e0,e1,e2,sh⟩:=HU.out.up sN
      obtain⟨z1,z2,z3⟩:=HS.out _ (jf sN)
      have sx:kV Mi k (us.drop i)=(match i7 Mi us[i] with|.error e=>.error e|.ok p=>kV p.1 (if p.2=true then k+1 else k) (us.drop (i+1))):=by rw[jV sN];rfl
      rw[tq.out]at sx
      obtain⟨u,hu⟩:=sd (us[i])
      rw[←hu]at e0 e1 e2 sh z1 z2 z3 sx
      obtain⟨del,rl,x⟩:=u
      simp only at e0 e1 e2 sh z1 z2 z3
      obtain⟨nx,th⟩:=sd x.length
      rw[←th]at e2 sh z2
      have tY:=zN th
      have su:Ext w W:=sy.out.new sV.out (fun q hq=>by omega)
      have sr:=zN (tz.out.fr sy.out (by omega));have si:=zN (sG.out.fr sy.out (by omega))
      have sZ:(ad.add (i*3)).block≠g:=by
        have h1:(ad.add (i*3)).block<w.heap.size:=eh e0
        omega
      replace e0:=su.cell e0;replace e1:=su.cell e1;replace e2:=su.cell e2
      have b0:=sr.out.c0
      have sX:=zN su;have sS:=zN sh;have sU:=zN sx;have ud:=zN z3;have tP:=zN (sy.out)
      have tt:=zN (fun (V:World) (hV:Ext W V)=>qH (del:=del) (sO.out.ext hV) z1 (sh.ext (su.trans hV)) z2 z3 (fun e he=>by have:=(sj.out.ar _ _ he).2;omega))
      obtain⟨er,te⟩:=sd (nz Mi rl x)
      rw[←te]at tt
      have sB:=zN te
      clear hu th sh sx z3 su te sN
      go_upto_region 6 with fail
      go_region_held3 (fun V=>Ext W V∧V.cell? ⟨w2.heap.size,0,none⟩=some (.map (some g))∧V.cell? (ad.add (i*3))=some (.bool del)∧V.cell? ⟨(ad.add (i*3)).block,(ad.add (i*3)).off+1,none⟩=some (.string rl)∧V.cell? ⟨(ad.add (i*3)).block,(ad.add (i*3)).off+2,none⟩=some (.slice B nx d))
        ((refine(fun he=>⟨he,Ext.cell he b0,Ext.cell he e0,Ext.cell he e1,Ext.cell he e2⟩) ?_;repeat (first|exact Ext.refl _|exact(Ext.refl _).drew|refine Ext.drew ?_|refine Ext.trans ?_ (by assumption))))
        (first
          | (go_at_call 87;(with_reducible refine(tt.out _ (And.left (by assumption))).mono ?_);rintro e wi ⟨z,rfl,sD,rfl⟩))
      have se:=And.left (b:=_∧_) (by assumption)
      have sW:=zN (sX.out.trans se)
      have tw:=zN (tP.out.ext se)
      have sQ:=zN (sr.out.ext se);have sq:=zN (si.out.ext se);have sF:=zN (sO.out.ext se)
      replace b0:=se.cell b0;replace e0:=se.cell e0;replace e1:=se.cell e1;replace e2:=se.cell e2
      obtain⟨X,rfl⟩:∃X:World,X=wi:=⟨_,rfl⟩
      clear se sD
      by_cases h0:er=0
      · subst h0
        have hy:∃y,Mi rl=some y:=by
          cases hc:Mi rl with
          | some y=>exact⟨y,rfl⟩
          | none=>have:=sB.out;unfold nz at this;rw[hc]at this;simp at this
        obtain⟨y,hy⟩:=hy
        obtain⟨A0,c0,A,c1,hk,tH,hr,sH⟩:=sF.out.ent z1 hy
        have sY:=(qA hy (sj.out.ar _ _ hy).1 sB.out.symm).1
        have uq:nx≤1048576:=by
          have h1:=sY
          have h2:=sj.out.ar _ _ hy
          have h3:=tY.out
          unfold fg at h1
          split at h1
          · omega
          · simp at h1
        have HY:=zN hy;have tn:=zN sY;have HK:=zN hk;have tW:=zN tH;have HR:=zN hr
        obtain⟨nk,tf⟩:=sd y.kinds.length
        obtain⟨nr,tg⟩:=sd y.rel.rows.length
        obtain⟨ra,tj⟩:=sd y.rel.ar
        rw[←tf]at sH HK
        rw[←tg]at sH HR
        rw[←tj]at sH tn
        have uv:=zN tf;have tX:=zN tg;have tZ:=zN tj
        clear hy hk tH hr sY tf tg tj
        go_upto_region 9 with fail
        go_region_held3 (fun V=>Ext X V∧V.cell? ⟨w2.heap.size,0,none⟩=some (.map (some g))∧V.cell? ⟨(ad.add (i*3)).block,(ad.add (i*3)).off+1,none⟩=some (.string rl)∧(Instr.lookup 31 (.map (some g)) (.string rl) false).run Tryz.prog V=.ok (.agg #[.slice A0 nk c0,.int .i64 ra,.slice A nr c1]) V)
          ((refine(fun he=>⟨he,Ext.cell he b0,Ext.cell he e1,sH _ he⟩) ?_;repeat (first|exact Ext.refl _|exact(Ext.refl _).drew|refine Ext.drew ?_|refine Ext.alloc ?_ _|refine Ext.trans ?_ (by assumption))))
          (fail)
        all_goals
          have ke:=Bk.new X 181 [.slice A0 nk c0,.int .i64 ra,.slice A nr c1]
          change Bk (X.alloc (.cells #[.slice A0 nk c0,.int .i64 ra,.slice A nr c1] 181)) _ _ _ at ke
          have hy:Ext X (X.alloc (.cells #[.slice A0 nk c0,.int .i64 ra,.slice A nr c1] 181)).drew:=((Ext.refl X).alloc _).drew
          replace ke:=ke.ext ((Ext.refl (X.alloc (.cells #[.slice A0 nk c0,.int .i64 ra,.slice A nr c1] 181))).drew)
          have uB:g<X.heap.size:=sF.out.lt
          go_upto_region 10 with fail
          generalize (X.alloc (.cells #[.slice A0 nk c0,.int .i64 ra,.slice A nr c1] 181)).drew=Y at *
          have tS:=zN ke;have uc:=zN hy
          have k0:=ke.c0;have k1:=ke.c1;have k2:=ke.c2
          have uw:=hy.size
          replace b0:=hy.cell b0;replace e0:=hy.cell e0;replace e1:=hy.cell e1;replace e2:=hy.cell e2
          have ua:=zN (fun (V:World) (hV:Ext Y V)=>(update_any (rl:=rl) (del:=del) (sj.out.so _ _ HY.out).1 ((HR.out.mono (G:=fun k=>((F k∧k<w.heap.size)∨g<k)∧k<Y.heap.size) (by decide) (fun k hk hf=>⟨hf,by omega⟩)).ext (hy.trans hV)) tW.out (sS.out.ext (sW.out.trans (hy.trans hV))) uq (fun r hr=>by
            have h1:=(sj.out.row _ _ HY.out r hr).1
            have h2:=sj.out.ar _ _ HY.out
            unfold fg at h1
            split at h1
            · omega
            · simp at h1) (by have:=(sj.out.so _ _ HY.out).2;have:=tX.out;omega) ud.out tn.out).mono (fun e w' h=>h.one (H:=fun k=>(((F k∧k<w.heap.size)∨g<k)∧k<Y.heap.size)∨V.heap.size≤k) (fun k hk=>hk)))
          clear ke hy sH
          go_region_held3 (fun V=>Ext Y V∧V.cell? ⟨X.heap.size,1,none⟩=some (.int .i64 ra)∧V.cell? ⟨X.heap.size,2,none⟩=some (.slice A nr c1)∧V.cell? (ad.add (i*3))=some (.bool del)∧V.cell? ⟨(ad.add (i*3)).block,(ad.add (i*3)).off+1,none⟩=some (.string rl)∧V.cell? ⟨(ad.add (i*3)).block,(ad.add (i*3)).off+2,none⟩=some (.slice B nx d))
            ((refine(fun he=>⟨he,Ext.cell he k1,Ext.cell he k2,Ext.cell he e0,Ext.cell he e1,Ext.cell he e2⟩) ?_;repeat (first|exact Ext.refl _|exact(Ext.refl _).drew|refine Ext.drew ?_|refine Ext.alloc ?_ _|refine Ext.setCell ?_ (by first|exact jo _|assumption) _|assumption|refine Ext.trans ?_ (by assumption))))
            (first
              | (go_at_call 88;(with_reducible refine(ua.out _ (And.left (by assumption))).mono ?_);rintro e wi ⟨av,P,kk,dd,ch,tC,rfl,sD,sI⟩;have sL:Ext Y wi:=(by refine Ext.trans ?_ sD;repeat (first|exact Ext.refl _|refine Ext.drew ?_|refine Ext.alloc ?_ _));have td:=sL.size;(first|(have kq:=(Bk.new Y 179 [.int .i64 0,.slice none 0 0]).ext sD;have q0:=kq.c0;have q1:=kq.c1;have f0:=kq.free 0;have f1:=kq.free 1)|(have kq:=((Bk.new Y 179 [.int .i64 0,.slice none 0 0]).ext (Ext.refl _).drew).ext sD;have q0:=kq.c0;have q1:=kq.c1;have f0:=kq.free 0;have f1:=kq.free 1)|skip)))
        all_goals
          have sT:=zN sI
          have uA:g<Y.heap.size:=by omega
          clear sI
          go_upto_region 11 with fail
          (first
            | (have kz:Bk (wi.alloc (.cells #[.int .i64 av,.slice P kk dd] 179)) wi.heap.size 179 [.int .i64 av,.slice P kk dd]:=Bk.new wi _ _
               have sg:Ext Y (wi.alloc (.cells #[.int .i64 av,.slice P kk dd] 179)):=sL.alloc _
               have tB:Hid (UpR (fun k=>(F k∧k<w.heap.size)∨g<k) ra y.rel.rows del x (wi.alloc (.cells #[.int .i64 av,.slice P kk dd] 179)) av P kk dd ch tC):=zN (sT.out.fr (((Ext.refl wi).alloc _).fr (fun _=>False)) (fun _ _ h=>h) (fun k hk=>by
                 rcases hk with h|h
                 · exact h.1
                 · exact .inr (by have h':Y.heap.size≤k:=(by first|exact h|(simp at h;omega));omega)))
               obtain⟨gb,sM⟩:=sd wi.heap.size
               rw[←sM]at kz ⊢
               generalize (wi.alloc (.cells #[.int .i64 av,.slice P kk dd] 179))=Z at *)
            | (have kz:Bk ((wi.setCell ⟨Y.heap.size,0,none⟩ (.int .i64 av)).setCell ⟨Y.heap.size,1,none⟩ (.slice P kk dd)) Y.heap.size 179 [.int .i64 av,.slice P kk dd]:=(kq.set 0 _).set 1 _
               have sg:Ext Y ((wi.setCell ⟨Y.heap.size,0,none⟩ (.int .i64 av)).setCell ⟨Y.heap.size,1,none⟩ (.slice P kk dd)):=(sL.setCell (p:=⟨Y.heap.size,0,none⟩) (jo _) _).setCell (p:=⟨Y.heap.size,1,none⟩) (jo _) _
               have sx:Fr (fun k=>k=Y.heap.size) wi ((wi.setCell ⟨Y.heap.size,0,none⟩ (.int .i64 av)).setCell ⟨Y.heap.size,1,none⟩ (.slice P kk dd)):=((Fr.refl (fun k=>k=Y.heap.size) wi).setCell (p:=⟨Y.heap.size,0,none⟩) (.inl rfl) _).setCell (p:=⟨Y.heap.size,1,none⟩) (.inl rfl) _
               have tB:Hid (UpR (fun k=>(F k∧k<w.heap.size)∨g<k) ra y.rel.rows del x ((wi.setCell ⟨Y.heap.size,0,none⟩ (.int .i64 av)).setCell ⟨Y.heap.size,1,none⟩ (.slice P kk dd)) av P kk dd ch tC):=zN (sT.out.fr sx (fun k hk=>by
                 rcases hk with h|h
                 · omega
                 · have h':Y.heap.size<k:=(by first|exact h|(simp at h;omega))
                   omega) (fun k hk=>by
                 rcases hk with h|h
                 · exact h.1
                 · exact .inr (by have h':Y.heap.size≤k:=(by first|exact h|(simp at h;omega));omega)))
               generalize ((wi.setCell ⟨Y.heap.size,0,none⟩ (.int .i64 av)).setCell ⟨Y.heap.size,1,none⟩ (.slice P kk dd))=Z at *
               obtain⟨gb,sM⟩:=sd Y.heap.size
               rw[←sM]at kz ⊢))
          have sK:Ext X Z:=uc.out.trans sg
          have sC:=zN sK;have ut:=zN kz;have tT:=zN (tS.out.ext sg)
          have tR:=zN (sQ.out.ext sK);have sA:=zN (sq.out.ext sK)
          have q0:=kz.c0;have q1:=kz.c1
          replace b0:=sg.cell b0;replace e1:=sg.cell e1;replace k0:=sg.cell k0
          have ui:g<gb:=by omega
          clear e0 e2 k1 k2 sK kz sg sM sT sL td sD
          rcases tB.out with ⟨hn,rfl⟩|⟨rfl,rfl,rows',tJ,sw,sJ⟩
          · have g1:((11:Int) != 0)=true:=rfl
            have sp:Hid (ap=.error 11):=zN (by
              rw[sU.out,show i7 Mi ⟨del,rl,x⟩=.error 11 from by unfold i7;rw[if_pos sB.out.symm];simp only[HY.out,hn]])
            have r0:=sA.out.c0;have fz:=sA.out.free 0
            clear hn b0 e1 k0 q0 q1
            go_wp2_with fail
            have kz:Bk (Z.setCell ⟨w.heap.size+1,0,none⟩ (.map none)) (w.heap.size+1) 33 [.map none]:=sA.out.set 0 _
            have sg:Ext w (Z.setCell ⟨w.heap.size+1,0,none⟩ (.map none)):=(sW.out.trans sC.out).setCell (p:=⟨w.heap.size+1,0,none⟩) (jO _) _
            generalize (Z.setCell ⟨w.heap.size+1,0,none⟩ (.map none))=wz at *
            have z0:=kz.c0
            exact bodyPost_ret (v:=.tuple #[.agg #[.map none],.int .i64 0,.int .i64 11]) (by simp[results,Tryz.results33,go_sem,z0]) rfl (HQ.out _ _ ⟨sg,.inl ⟨11,sp.out,by decide,rfl⟩⟩)
          · have tp:Hid (i7 Mi ⟨del,rl,x⟩=.ok (if ch=true then ly Mi rl ⟨y.kinds,⟨y.rel.ar,rows'⟩⟩ else Mi,ch)):=zN (by unfold i7;rw[if_pos sB.out.symm];simp only[HY.out,tJ])
            have sE:Hid (ap=kV (if ch=true then ly Mi rl ⟨y.kinds,⟨y.rel.ar,rows'⟩⟩ else Mi) (if ch=true then k+1 else k) (us.drop (i+1))):=zN (by rw[sU.out,tp.out])
            have tO:Hid (EnV (fun k=>(F k∧k<w.heap.size)∨g<k) Z (.agg #[.slice A0 nk c0,.int .i64 av,.slice P kk dd]) ⟨y.kinds,⟨y.rel.ar,rows'⟩⟩):=zN ⟨_,_,by rw[tZ.out],HK.out.ext sC.out,(fun n c e=>by
              injection e with e3 _ e4
              rw[←e4];exact sw e3),sJ⟩
            clear tJ sw sJ
            have g1:((0:Int) != 0)=false:=rfl
            rcases ch with _|_
            · clear b0 e1 k0 q0 q1
              go_wp2_with fail
              go_roundw
              case rel=>exact⟨i+1,k,Mi,by omega,by omega,by go_num,rfl,sj,zN sE.out.symm,zN ((sF.out.ext sC.out).le (by omega)),zN (tw.out.ext sC.out)⟩
              case measure=>simp[intOf];omega
            · obtain⟨w9,tI,H9⟩:=DbB.upd ((sF.out.ext sC.out).ext (Ext.refl Z).drew) (fun q hq=>by rcases hq with h|h <;> omega) (by simp only[maxLen];omega) z1 (tO.out.ext (Ext.refl Z).drew)
              have tu:=zN (((Fr.refl (fun b=>b=g) Z).drew).trans H9.out.2)
              have uh:X.heap.size≠g:=by have:=sF.out.lt;omega
              have ug:w2.heap.size≠g:=by omega
              have tE:gb≠g:=by omega
              go_upto_region 14 with fail
              go_region_held3 (fun V=>Fr (fun b=>b=g) Z V∧V.cell? ⟨w2.heap.size,0,none⟩=some (.map (some g))∧V.cell? ⟨(ad.add (i*3)).block,(ad.add (i*3)).off+1,none⟩=some (.string rl)∧V.cell? ⟨X.heap.size,0,none⟩=some (.slice A0 nk c0)∧V.cell? ⟨gb,0,none⟩=some (.int .i64 av)∧V.cell? ⟨gb,1,none⟩=some (.slice P kk dd))
                ((refine(fun hf=>⟨hf,Fr.cell hf b0 ug,Fr.cell hf e1 sZ,Fr.cell hf k0 uh,Fr.cell hf q0 tE,Fr.cell hf q1 tE⟩) ?_;repeat (first|exact Fr.refl _ _|exact tu.out|assumption|refine Fr.drew ?_)))
                (fail)
              clear b0 e1 k0 q0 q1
              go_wp2_with fail
              go_roundw
              case rel=>exact⟨i+1,k+1,_,by omega,by omega,by go_num,by go_num,zN (appD_ok sj.out tp.out),zN sE.out.symm,H9.out.1,zN ((tw.out.ext sC.out).trans tu.out)⟩
              case measure=>simp[intOf];omega
      · have g1:(er != 0)=true:=bne_iff_ne.2 h0
        have sp:Hid (ap=.error er∧er≠0):=zN ⟨by rw[sU.out,show i7 Mi ⟨del,rl,x⟩=.error (nz Mi rl x) from if_neg (by rw[←sB.out];exact h0),←sB.out],h0⟩
        have r0:=sq.out.c0;have f0:=sq.out.free 0
        clear h0 b0 e0 e1 e2
        go_wp2_with fail
        have kz:Bk (X.setCell ⟨w.heap.size+1,0,none⟩ (.map none)) (w.heap.size+1) 33 [.map none]:=sq.out.set 0 _
        have sg:Ext w (X.setCell ⟨w.heap.size+1,0,none⟩ (.map none)):=sW.out.setCell (p:=⟨w.heap.size+1,0,none⟩) (jO _) _
        generalize (X.setCell ⟨w.heap.size+1,0,none⟩ (.map none))=wz at *
        have z0:=kz.c0
        exact bodyPost_ret (v:=.tuple #[.agg #[.map none],.int .i64 0,.int .i64 er]) (by simp[results,Tryz.results33,go_sem,z0]) rfl (HQ.out _ _ ⟨sg,.inl ⟨er,sp.out.1,sp.out.2,rfl⟩⟩)
    · obtain rfl:i=m:=by omega
      have ux:¬(i:Int)<(i:Int):=by omega
      have su:Ext w W:=sy.out.new sV.out (fun q hq=>by omega)
      have sr:=zN (tz.out.fr sy.out (by omega));have si:=zN (sG.out.fr sy.out (by omega))
      have sX:=zN su
      have b0:=sr.out.c0;have r0:=si.out.c0;have f0:=si.out.free 0
      have tK:Hid (ap=.ok (Mi,k)):=zN (by rw[←tq.out,zb (by have:=tA.out;omega)];rfl)
      have un:w.heap.size+1≠g:=by omega
      clear su
      go_wp2_with fail
      have kz:Bk (W.setCell ⟨w.heap.size+1,0,none⟩ (.map (some g))) (w.heap.size+1) 33 [.map (some g)]:=si.out.set 0 _
      have sg:Ext w (W.setCell ⟨w.heap.size+1,0,none⟩ (.map (some g))):=sX.out.setCell (p:=⟨w.heap.size+1,0,none⟩) (jO _) _
      have sx:Fr (fun k=>k=w.heap.size+1) W (W.setCell ⟨w.heap.size+1,0,none⟩ (.map (some g))):=(Fr.refl (fun k=>k=w.heap.size+1) W).setCell (p:=⟨w.heap.size+1,0,none⟩) (.inl rfl) _
      have uf:=sO.out.fr sx (fun e=>un e.symm) (fun q hq=>by rcases hq with h|h <;> omega)
      generalize (W.setCell ⟨w.heap.size+1,0,none⟩ (.map (some g)))=wz at *
      have z0:=kz.c0
      exact bodyPost_ret (v:=.tuple #[.agg #[.map (some g)],.int .i64 (k:Int),.int .i64 0]) (by simp[results,Tryz.results33,go_sem,z0]) rfl (HQ.out _ _ ⟨sg,.inr ⟨Mi,k,g,tK.out,rfl,by omega,uk,sj.out,uf⟩⟩)
