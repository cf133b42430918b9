/- packed -/
import Derived.Test.YtplldnnnhgnbjaaGreatDoorMu16
import Derived.Test.YtplldnnnhgnbjaaGreatDoorMu39
namespace Go.Proofs.YtplldnnnhgnbjaaGreatDoor
open Go.RowKit Go.Maps
structure Up where
 del:Bool
 rel:ByteArray
 row:List Vl
def updS(rows:List (List Vl))(del:Bool)(x:List Vl):Option (List (List Vl)×Bool) :=
 if del=true then (if hasR rows x=true then some (delR rows x,true) else some (rows,false))
 else if hasR rows x=true then some (rows,false) else if 4096≤rows.length then none else some (insR rows x,true)
def UpdPost(F:Nat→Prop)(a:Int)(rows:List (List Vl))(del:Bool)(x:List Vl)(w:World)(e:Ending)(w':World):Prop :=
 Ext w w'∧((updS rows del x=none∧e=.returned (.tuple #[zrel,.bool false,.int .i64 11]))∨∃rows' ch B k d,updS rows del x=some (rows',ch)∧e=.returned (.tuple #[.agg #[.int .i64 a,.slice B k d],.bool ch,.int .i64 0])∧(B=none→d=0)∧Sl rdRow (fun k=>F k∨w.heap.size≤k) w' (.slice B k d) rows')
set_option maxRecDepth 20000 in
set_option maxHeartbeats 3200000 in
theorem update_any{F G:Nat→Prop}{w:World}{A B:Option Addr}{n c m d:Nat}{a:Int}{rows:List (List Vl)}{x:List Vl}{del:Bool}{rl:ByteArray}(hS:SoR rows)(hA:Sl rdRow F w (.slice A n c) rows)(hnil:A=none→c=0)(hB:Sl rdVl G w (.slice B m d) x)(hm:m≤1048576)(hr:∀x∈rows,x.length≤1048576)(hn:n≤65536)(hz:∀v∈x,v.str.size≤maxLen)(hac:accE a x=0) :
  Calls Tryz.prog 88 #[.agg #[.int .i64 a,.slice A n c],.agg #[.bool del,.string rl,.slice B m d]] w (UpdPost F a rows del x w):=by
 have hnl:=hA.cap.1
 have h':=hA.mono (G:=fun k=>F k∧k<w.heap.size) (by decide) (fun k hk hf=>⟨hf,hk⟩)
 have k3:=three_blk w 179 97 179 [.int .i64 a,.slice A n c] [.bool del,.string rl,.slice B m d] [.int .i64 0,.slice none 0 0]
 have hx:Ext w (((w.alloc (.cells #[.int .i64 a,.slice A n c] 179)).alloc (.cells #[.bool del,.string rl,.slice B m d] 97)).alloc (.cells #[.int .i64 0,.slice none 0 0] 179)):=(((Ext.refl w).alloc _).alloc _).alloc _
 have HDE:=zO (fun (V:World) (hV:Ext w V)=>delete_any (a:=a) hS (h'.ext hV) (hB.ext hV) hm hr hn hz)
 have HIN:=zO (fun (h:n<4096) (V:World) (hV:Ext w V)=>insert_any (a:=a) hS (h'.ext hV) hnil (hB.ext hV) hm hr (by omega) hz)
 have HSE:=zO (fun (V:World) (hV:Ext w V)=>relsearch_any (a:=a) hS (h'.ext hV) (hB.ext hV) hm hr (by omega))
 have HA:=zO h';have HNL:=zO hnl;have HAC:=zO hac;have HNI:=zO hnil
 clear hS hA h' hB hr hz hnl hac hnil
 go_enter Tryz.func88,Tryz.ntmps88
 go_upto_region 1 with fail
 change Bk (((w.alloc (.cells #[.int .i64 a,.slice A n c] 179)).alloc (.cells #[.bool del,.string rl,.slice B m d] 97)).alloc (.cells #[.int .i64 0,.slice none 0 0] 179)) _ _ _∧Bk (((w.alloc (.cells #[.int .i64 a,.slice A n c] 179)).alloc (.cells #[.bool del,.string rl,.slice B m d] 97)).alloc (.cells #[.int .i64 0,.slice none 0 0] 179)) _ _ _∧Bk (((w.alloc (.cells #[.int .i64 a,.slice A n c] 179)).alloc (.cells #[.bool del,.string rl,.slice B m d] 97)).alloc (.cells #[.int .i64 0,.slice none 0 0] 179)) _ _ _ at k3
 generalize (((w.alloc (.cells #[.int .i64 a,.slice A n c] 179)).alloc (.cells #[.bool del,.string rl,.slice B m d] 97)).alloc (.cells #[.int .i64 0,.slice none 0 0] 179))=w1 at *
 obtain⟨ka,kb,kc⟩:=k3
 have a0:=ka.cell (i:=0) (by simp);have a1:=ka.cell (i:=1) (by simp);have u0:=kb.cell (i:=0) (by simp);have u2:=kb.cell (i:=2) (by simp)
 simp only[ja,je]at a0 a1 u0 u2
 have hlt1:w.heap.size+1+1<w1.heap.size:=kc.lt
 have HX:=zO hx;have HKC:=zO kc
 -- the store of the result
 have HEND:=zO (fun (V:World) (P:Option Addr) (k q:Nat) (av:Int) (rows':List (List Vl)) (hX:Ext w V) (hK:Bk V (w.heap.size+1+1) 179 [.int .i64 0,.slice none 0 0]) (hs:Sl rdRow (fun k=>F k∧k<w.heap.size∨w1.heap.size≤k) V (.slice P k q) rows')=>(show Ext w ((V.setCell ⟨w.heap.size+1+1,0,none⟩ (.int .i64 av)).setCell ⟨w.heap.size+1+1,1,none⟩ (.slice P k q))∧Bk ((V.setCell ⟨w.heap.size+1+1,0,none⟩ (.int .i64 av)).setCell ⟨w.heap.size+1+1,1,none⟩ (.slice P k q)) (w.heap.size+1+1) 179 [.int .i64 av,.slice P k q]∧Sl rdRow (fun k=>F k∨w.heap.size≤k) ((V.setCell ⟨w.heap.size+1+1,0,none⟩ (.int .i64 av)).setCell ⟨w.heap.size+1+1,1,none⟩ (.slice P k q)) (.slice P k q) rows' from by
  have hst:Fr (fun k=>k=w.heap.size+1+1) V ((V.setCell ⟨w.heap.size+1+1,0,none⟩ (.int .i64 av)).setCell ⟨w.heap.size+1+1,1,none⟩ (.slice P k q)):=((Fr.refl (fun k=>k=w.heap.size+1+1) V).setCell (p:=⟨w.heap.size+1+1,0,none⟩) (.inl rfl) _).setCell (p:=⟨w.heap.size+1+1,1,none⟩) (.inl rfl) _
  refine⟨hst.new hX (fun q hq=>by omega),(hK.set 0 _).set 1 _,?_⟩
  exact((hs.fr hst (fun q hq=>by rcases hq with h|h <;> omega))).mono (by decide) (fun q _ hq=>by
   rcases hq with h|h
   ·exact .inl h.1
   ·exact .inr (by omega))))
 clear ka kb kc hx
 rcases del with _|_
 ·by_cases hn4:n<4096
  ·have g4:decide ((4096:Int)≤(n:Int))=false:=decide_eq_false (by omega)
   have HI2:=zO (HIN.out hn4)
   have HR4:Hid (¬4096≤rows.length):=zO (by have:=HNL.out;omega)
   clear hn4
   go_wp2_with fail
   refine len_any.mono ?_
   rintro e w2 ⟨y,rfl,he2,rfl⟩
   replace a0:=he2.cell a0;replace a1:=he2.cell a1;replace u2:=he2.cell u2
   go_wp2_with fail
   refine(HI2.out _ (HX.out.trans he2)).mono ?_
   rintro e w3 ⟨he3,⟨hbad,-⟩|⟨-,hh,rfl⟩|⟨-,hh,B2,d2,rfl,hs2⟩⟩
   ·exact absurd HAC.out hbad
   ·have HHH:=zO hh
    have HE3:=zO (he2.trans he3)
    clear hh he3 he2
    have HXW:=zO (HX.out.trans HE3.out);have HKW:=zO (HKC.out.ext HE3.out)
    have hs9:=(HA.out.ext (HX.out.trans HE3.out)).mono (G:=fun k=>F k∧k<w.heap.size∨w1.heap.size≤k) (by decide) (fun k _ hk=>.inl hk)
    have HS9:=zO hs9
    have b0:=HKW.out.cell (i:=0) (by simp);have b1:=HKW.out.cell (i:=1) (by simp)
    have f0:=HKW.out.free 0;have f1:=HKW.out.free 1
    simp only[ja,je]at b0 b1
    have hltW:=HKW.out.lt
    clear a0 a1 u0 u2 hs9
    go_wp2_with fail
    obtain⟨hez,kz,hsz⟩:=HEND.out w3 A n c a rows HXW.out HKW.out HS9.out
    generalize ((w3.setCell ⟨w.heap.size+1+1,0,none⟩ (.int .i64 a)).setCell ⟨w.heap.size+1+1,1,none⟩ (.slice A n c))=wz at *
    have z0:=kz.cell (i:=0) (by simp);have z1:=kz.cell (i:=1) (by simp)
    simp only[ja,je]at z0 z1
    exact bodyPost_ret (v:=.tuple #[.agg #[.int .i64 a,.slice A n c],.bool false,.int .i64 0]) (by simp[results,Tryz.results88,go_sem,z0,z1]) rfl ⟨hez,.inr ⟨_,_,_,_,_,(by unfold updS;rw[if_neg (by simp),if_pos HHH.out]),rfl,HNI.out,hsz⟩⟩

   ·have HHH:=zO hh
    have HE3:=zO (he2.trans he3)
    have HS2:=zO (hs2.mono (G:=fun k=>F k∧k<w.heap.size∨w1.heap.size≤k) (by decide) (fun k _ hk=>by
     have:=he2.size
     rcases hk with h|h
     ·exact .inl h
     ·exact .inr (by omega)))
    clear hh he3 he2 hs2
    have HXW:=zO (HX.out.trans HE3.out);have HKW:=zO (HKC.out.ext HE3.out)
    have hs9:=HS2.out
    have HS9:=zO hs9
    have b0:=HKW.out.cell (i:=0) (by simp);have b1:=HKW.out.cell (i:=1) (by simp)
    have f0:=HKW.out.free 0;have f1:=HKW.out.free 1
    simp only[ja,je]at b0 b1
    have hltW:=HKW.out.lt
    clear a0 a1 u0 u2 hs9
    go_wp2_with fail
    obtain⟨hez,kz,hsz⟩:=HEND.out w3 (some B2) (n+1) d2 a (insR rows x) HXW.out HKW.out HS9.out
    generalize ((w3.setCell ⟨w.heap.size+1+1,0,none⟩ (.int .i64 a)).setCell ⟨w.heap.size+1+1,1,none⟩ (.slice (some B2) (n+1) d2))=wz at *
    have z0:=kz.cell (i:=0) (by simp);have z1:=kz.cell (i:=1) (by simp)
    simp only[ja,je]at z0 z1
    exact bodyPost_ret (v:=.tuple #[.agg #[.int .i64 a,.slice (some B2) (n+1) d2],.bool true,.int .i64 0]) (by simp[results,Tryz.results88,go_sem,z0,z1]) rfl ⟨hez,.inr ⟨_,_,_,_,_,(by unfold updS;rw[if_neg (by simp),if_neg (by rw[HHH.out];simp),if_neg HR4.out]),rfl,(fun e=>by cases e),hsz⟩⟩

  ·have g4:decide ((4096:Int)≤(n:Int))=true:=decide_eq_true (by omega)
   have HR4:Hid (4096≤rows.length):=zO (by have:=HNL.out;omega)
   clear hn4
   go_wp2_with fail
   refine len_any.mono ?_
   rintro e w2 ⟨y,rfl,he2,rfl⟩
   replace a0:=he2.cell a0;replace a1:=he2.cell a1;replace u2:=he2.cell u2
   obtain⟨fb,hfb⟩:∃q,q=hasR rows x:=⟨_,rfl⟩
   have HFB:=zO hfb
   go_wp2_with fail
   refine(HSE.out _ (HX.out.trans he2)).mono ?_
   rintro e w3 ⟨he3,rfl⟩
   rw[←hfb]
   replace a0:=he3.cell a0;replace a1:=he3.cell a1
   have HE3:=zO (he2.trans he3)
   clear he3 he2 hfb
   rcases fb with _|_
   ·have HN:=zO (Sl.nil rdRow (fun k=>F k∧k<w.heap.size∨w1.heap.size≤k) w3)
    have HXW:=zO (HX.out.trans HE3.out);have HKW:=zO (HKC.out.ext HE3.out)
    have hs9:=HN.out
    have HS9:=zO hs9
    have b0:=HKW.out.cell (i:=0) (by simp);have b1:=HKW.out.cell (i:=1) (by simp)
    have f0:=HKW.out.free 0;have f1:=HKW.out.free 1
    simp only[ja,je]at b0 b1
    have hltW:=HKW.out.lt
    clear a0 a1 u0 u2 hs9
    go_wp2_with fail
    obtain⟨hez,kz,hsz⟩:=HEND.out w3 none 0 0 0 [] HXW.out HKW.out HS9.out
    generalize ((w3.setCell ⟨w.heap.size+1+1,0,none⟩ (.int .i64 0)).setCell ⟨w.heap.size+1+1,1,none⟩ (.slice none 0 0))=wz at *
    have z0:=kz.cell (i:=0) (by simp);have z1:=kz.cell (i:=1) (by simp)
    simp only[ja,je]at z0 z1
    exact bodyPost_ret (v:=.tuple #[.agg #[.int .i64 0,.slice none 0 0],.bool false,.int .i64 11]) (by simp[results,Tryz.results88,go_sem,z0,z1]) rfl ⟨hez,.inl ⟨(by unfold updS;rw[if_neg (by simp),if_neg (by rw[←HFB.out];simp),if_pos HR4.out]),rfl⟩⟩

   ·skip
    have HXW:=zO (HX.out.trans HE3.out);have HKW:=zO (HKC.out.ext HE3.out)
    have hs9:=(HA.out.ext (HX.out.trans HE3.out)).mono (G:=fun k=>F k∧k<w.heap.size∨w1.heap.size≤k) (by decide) (fun k _ hk=>.inl hk)
    have HS9:=zO hs9
    have b0:=HKW.out.cell (i:=0) (by simp);have b1:=HKW.out.cell (i:=1) (by simp)
    have f0:=HKW.out.free 0;have f1:=HKW.out.free 1
    simp only[ja,je]at b0 b1
    have hltW:=HKW.out.lt
    clear u0 u2 hs9
    go_wp2_with fail
    obtain⟨hez,kz,hsz⟩:=HEND.out w3 A n c a rows HXW.out HKW.out HS9.out
    generalize ((w3.setCell ⟨w.heap.size+1+1,0,none⟩ (.int .i64 a)).setCell ⟨w.heap.size+1+1,1,none⟩ (.slice A n c))=wz at *
    have z0:=kz.cell (i:=0) (by simp);have z1:=kz.cell (i:=1) (by simp)
    simp only[ja,je]at z0 z1
    exact bodyPost_ret (v:=.tuple #[.agg #[.int .i64 a,.slice A n c],.bool false,.int .i64 0]) (by simp[results,Tryz.results88,go_sem,z0,z1]) rfl ⟨hez,.inr ⟨_,_,_,_,_,(by unfold updS;rw[if_neg (by simp),if_pos HFB.out.symm]),rfl,HNI.out,hsz⟩⟩

 ·go_wp2_with fail
  refine(HDE.out _ HX.out).mono ?_
  rintro e w2 ⟨he2,⟨hbad,-⟩|⟨-,hh,rfl⟩|⟨-,hh,B2,k2,d2,rfl,hn2,hs2⟩⟩
  ·exact absurd HAC.out hbad
  ·have HHH:=zO hh
   have HE2:=zO he2
   clear hh he2
   have HXW:=zO (HX.out.trans HE2.out);have HKW:=zO (HKC.out.ext HE2.out)
   have hs9:=(HA.out.ext (HX.out.trans HE2.out)).mono (G:=fun k=>F k∧k<w.heap.size∨w1.heap.size≤k) (by decide) (fun k _ hk=>.inl hk)
   have HS9:=zO hs9
   have b0:=HKW.out.cell (i:=0) (by simp);have b1:=HKW.out.cell (i:=1) (by simp)
   have f0:=HKW.out.free 0;have f1:=HKW.out.free 1
   simp only[ja,je]at b0 b1
   have hltW:=HKW.out.lt
   clear a0 a1 u0 u2 hs9
   go_wp2_with fail
   obtain⟨hez,kz,hsz⟩:=HEND.out w2 A n c a rows HXW.out HKW.out HS9.out
   generalize ((w2.setCell ⟨w.heap.size+1+1,0,none⟩ (.int .i64 a)).setCell ⟨w.heap.size+1+1,1,none⟩ (.slice A n c))=wz at *
   have z0:=kz.cell (i:=0) (by simp);have z1:=kz.cell (i:=1) (by simp)
   simp only[ja,je]at z0 z1
   exact bodyPost_ret (v:=.tuple #[.agg #[.int .i64 a,.slice A n c],.bool false,.int .i64 0]) (by simp[results,Tryz.results88,go_sem,z0,z1]) rfl ⟨hez,.inr ⟨_,_,_,_,_,(by unfold updS;rw[if_pos rfl,if_neg (by rw[HHH.out];simp)]),rfl,HNI.out,hsz⟩⟩

  ·have HHH:=zO hh
   have HE2:=zO he2;have HN2:=zO hn2;have HS2:=zO hs2
   clear hh he2 hn2 hs2
   have HXW:=zO (HX.out.trans HE2.out);have HKW:=zO (HKC.out.ext HE2.out)
   have hs9:=HS2.out
   have HS9:=zO hs9
   have b0:=HKW.out.cell (i:=0) (by simp);have b1:=HKW.out.cell (i:=1) (by simp)
   have f0:=HKW.out.free 0;have f1:=HKW.out.free 1
   simp only[ja,je]at b0 b1
   have hltW:=HKW.out.lt
   clear a0 a1 u0 u2 hs9
   go_wp2_with fail
   obtain⟨hez,kz,hsz⟩:=HEND.out w2 B2 k2 d2 a (delR rows x) HXW.out HKW.out HS9.out
   generalize ((w2.setCell ⟨w.heap.size+1+1,0,none⟩ (.int .i64 a)).setCell ⟨w.heap.size+1+1,1,none⟩ (.slice B2 k2 d2))=wz at *
   have z0:=kz.cell (i:=0) (by simp);have z1:=kz.cell (i:=1) (by simp)
   simp only[ja,je]at z0 z1
   exact bodyPost_ret (v:=.tuple #[.agg #[.int .i64 a,.slice B2 k2 d2],.bool true,.int .i64 0]) (by simp[results,Tryz.results88,go_sem,z0,z1]) rfl ⟨hez,.inr ⟨_,_,_,_,_,(by unfold updS;rw[if_pos rfl,if_pos HHH.out]),rfl,HN2.out,hsz⟩⟩
def misK(ks:List Int)(r:List Vl):Bool:=(List.range ks.length).any (fun i=>!((r.getD i zv).kind == ks.getD i 0))
def chkE(m:Dm)(rl:ByteArray)(r:List Vl):Int:=match m rl with
 | none=>7
 | some e=>if r.length=e.kinds.length then (if valR r=true then (if misK e.kinds r=true then 5 else 0) else 4) else 6
set_option maxRecDepth 20000 in
set_option maxHeartbeats 3200000 in
theorem dbcheck_any{F G:Nat→Prop}{w:World}{b n:Nat}{M:Dm}{rl:ByteArray}{B:Option Addr}{m d:Nat}{x:List Vl}{del:Bool}(hD:DbB F w b n M)(hs:rl.size≤maxLen)(hB:Sl rdVl G w (.slice B m d) x)(hm:m≤maxLen)(hz:∀v∈x,v.str.size≤maxLen)(hkl:∀e,M rl=some e→e.kinds.length≤1048576) :
  Calls Tryz.prog 87 #[.agg #[.map (some b)],.agg #[.bool del,.string rl,.slice B m d]] w (Ret (fun y _=>y=.int .i64 (chkE M rl x)) w):=by
 have hml:=hB.cap.1
 obtain⟨f,hM,hm2⟩:=hD
 have HM:=zO hM;have HML:=zO hml;have HB:=zO hB
 have HV:=zO (fun (h6:m≤1048576) (V:World) (hV:Ext w V)=>rvalid_any (hB.ext hV) h6 hz)
 simp only[maxLen]at hm
 have k2:=two_blk w 33 97 [.map (some b)] [.bool del,.string rl,.slice B m d]
 have hx:Ext w ((w.alloc (.cells #[.map (some b)] 33)).alloc (.cells #[.bool del,.string rl,.slice B m d] 97)):=((Ext.refl w).alloc _).alloc _
 obtain⟨er,her⟩:∃z,z=chkE M rl x:=⟨_,rfl⟩
 rw[←her]
 rcases hm2 rl with ⟨h1,h2⟩|⟨y,u,h1,h2,u1,r1,rfl,hk,-,hr⟩
 ·have HU1:Hid ((f rl).getD (.agg #[.slice none 0 0,.int .i64 0,.slice none 0 0])=.agg #[.slice none 0 0,.int .i64 0,.slice none 0 0]):=zO (by rw[h2];rfl)
  have HU2:Hid ((f rl).isSome=false):=zO (by rw[h2];rfl)
  have HER:Hid (er=7):=zO (by rw[her];unfold chkE;rw[h1])
  clear hm2 h1 h2 hM hB hz hkl her hml
  go_enter Tryz.func87,Tryz.ntmps87
  go_upto_region 1 with fail
  change Bk ((w.alloc (.cells #[.map (some b)] 33)).alloc (.cells #[.bool del,.string rl,.slice B m d] 97)) _ _ _∧Bk ((w.alloc (.cells #[.map (some b)] 33)).alloc (.cells #[.bool del,.string rl,.slice B m d] 97)) _ _ _ at k2
  generalize ((w.alloc (.cells #[.map (some b)] 33)).alloc (.cells #[.bool del,.string rl,.slice B m d] 97))=w1 at *
  obtain⟨ka,kb⟩:=k2
  have a0:=ka.cell (i:=0) (by simp);have b1:=kb.cell (i:=1) (by simp)
  simp only[ja,je]at a0 b1
  have HX:=zO hx;have HM1:=zO (HM.out.ext hx)
  clear ka kb hx
  go_upto_region 2 with (first
   | (refine wpList_lookup_okV rfl _ _ 31 181 rfl Tryz.underlying31 (.agg #[.slice none 0 0,.int .i64 0,.slice none 0 0]) (zero_entry _) b n f rfl HM1.out rl rfl hs _ HU1.out false HU2.out ?_))
  have hx2:Ext w1 (w1.alloc (.cells #[.slice none 0 0,.int .i64 0,.slice none 0 0] 181)):=(Ext.refl w1).alloc _
  generalize (w1.alloc (.cells #[.slice none 0 0,.int .i64 0,.slice none 0 0] 181))=w2 at *
  have HX2:=zO (HX.out.trans hx2)
  clear hx2 a0 b1
  go_wp2_with fail
  go_ret
  exact Ret.mk HX2.out (by rw[HER.out];rfl)
 ·obtain⟨A,c,rfl⟩:=hr.sl
  obtain⟨A0,c0,e0',-,hck⟩:=hk
  subst e0'
  have hkl1:=hkl y h1
  have HU1:Hid ((f rl).getD (.agg #[.slice none 0 0,.int .i64 0,.slice none 0 0])=.agg #[.slice A0 y.kinds.length c0,.int .i64 y.rel.ar,.slice A y.rel.rows.length c]):=zO (by rw[h2];rfl)
  have HU2:Hid ((f rl).isSome=true):=zO (by rw[h2];rfl)
  have HER:Hid (er=if x.length=y.kinds.length then (if valR x=true then (if misK y.kinds x=true then 5 else 0) else 4) else 6):=zO (by rw[her];unfold chkE;rw[h1])
  have HCK:=zO hck
  obtain⟨nr,hnr⟩:∃k,k=y.rel.rows.length:=⟨_,rfl⟩
  obtain⟨ra,hra⟩:∃k,k=y.rel.ar:=⟨_,rfl⟩
  obtain⟨ks,hks⟩:∃k,k=y.kinds:=⟨_,rfl⟩
  rw[←hks]at HU1 HER HCK hkl1
  rw[←hnr,←hra]at HU1
  obtain⟨nk,hnk⟩:∃k,k=ks.length:=⟨_,rfl⟩
  rw[←hnk]at HU1 hkl1
  have HNK:=zO hnk
  clear hm2 h1 h2 hM hB hz hkl her hml hr hck hnr hra hks hnk
  go_enter Tryz.func87,Tryz.ntmps87
  go_upto_region 1 with fail
  change Bk ((w.alloc (.cells #[.map (some b)] 33)).alloc (.cells #[.bool del,.string rl,.slice B m d] 97)) _ _ _∧Bk ((w.alloc (.cells #[.map (some b)] 33)).alloc (.cells #[.bool del,.string rl,.slice B m d] 97)) _ _ _ at k2
  generalize ((w.alloc (.cells #[.map (some b)] 33)).alloc (.cells #[.bool del,.string rl,.slice B m d] 97))=w1 at *
  obtain⟨ka,kb⟩:=k2
  have a0:=ka.cell (i:=0) (by simp);have b1:=kb.cell (i:=1) (by simp)
  simp only[ja,je]at a0 b1
  have HX:=zO hx;have HM1:=zO (HM.out.ext hx);have HKB:=zO kb
  have hltb:=kb.lt
  clear ka kb hx
  go_upto_region 2 with (first
   | (refine wpList_lookup_okV rfl _ _ 31 181 rfl Tryz.underlying31 (.agg #[.slice none 0 0,.int .i64 0,.slice none 0 0]) (zero_entry _) b n f rfl HM1.out rl rfl hs _ HU1.out true HU2.out ?_))
  have ke:=Bk.new w1 181 [.slice A0 nk c0,.int .i64 ra,.slice A nr c]
  change Bk (w1.alloc (.cells #[.slice A0 nk c0,.int .i64 ra,.slice A nr c] 181)) _ _ _ at ke
  have hx2:Ext w1 (w1.alloc (.cells #[.slice A0 nk c0,.int .i64 ra,.slice A nr c] 181)):=(Ext.refl w1).alloc _
  generalize (w1.alloc (.cells #[.slice A0 nk c0,.int .i64 ra,.slice A nr c] 181))=w2 at *
  have HX2:=zO (HX.out.trans hx2);have HKB2:=zO (HKB.out.ext hx2);have HKE:=zO ke
  have e0:=ke.cell (i:=0) (by simp);have b2:=(HKB.out.ext hx2).cell (i:=2) (by simp)
  simp only[ja,je]at e0 b2
  clear hx2 a0 b1 ke
  by_cases hlen:m=nk
  ·subst hlen
   have g1:((m:Int) != (m:Int))=false:=by simp
   have HV2:=zO (HV.out (by omega) w2 HX2.out)
   obtain⟨vb,hvb⟩:∃z,z=valR x:=⟨_,rfl⟩
   rw[←hvb]at HV2
   have HER2:Hid (er=if vb=true then (if misK ks x=true then 5 else 0) else 4):=zO (by rw[HER.out,if_pos (by have:=HML.out;have:=HNK.out;omega),hvb])
   clear hvb
   go_wp2_with fail
   refine HV2.out.mono ?_
   rintro e w3 ⟨z,rfl,he3,rfl⟩
   have HX3:=zO (HX2.out.trans he3);have HKB3:=zO (HKB2.out.ext he3);have HKE3:=zO (HKE.out.ext he3)
   replace e0:=he3.cell e0;replace b2:=he3.cell b2
   clear he3
   rcases vb with _|_
   ·clear e0 b2
    go_wp2_with fail
    go_ret
    exact Ret.mk HX3.out (by rw[HER2.out];rfl)
   ·have HER3:Hid (er=if misK ks x=true then 5 else 0):=zO (by rw[HER2.out,if_pos rfl])
    go_wp2_with fail
    clear e0 b2
    go_loopw [35] (fun t wr=>∃i:Nat,i≤m∧t=.int .i64 (i:Int)∧Hid ((List.range i).any (fun i=>!((x.getD i zv).kind == ks.getD i 0))=false)∧Ext w3 wr) (fun t _=>m-(intOf t).toNat)
    case atStart=>exact⟨0,jn _,rfl,zO rfl,Ext.refl _⟩
    case round =>
     obtain⟨i,hi,rfl,HALL,hxr⟩:=hrel
     obtain⟨W,rfl⟩:∃W:World,W=wr:=⟨_,rfl⟩
     have HXR:=zO hxr
     by_cases hlt:i<m
     ·have i1:(0:Int)≤(i:Int):=by omega
      have i2:(i:Int)<(m:Int):=by omega
      have hix:i<x.length:=by have:=HML.out;omega
      have hik:i<ks.length:=by have:=HNK.out;omega
      have e0:=(HKE3.out.ext hxr).cell (i:=0) (by simp);have b2:=(HKB3.out.ext hxr).cell (i:=2) (by simp)
      simp only[ja,je]at e0 b2
      obtain⟨ad,rfl,-,c1,-,-⟩:=HB.out.vl hix
      obtain⟨kd,rfl,-,c2⟩:=HCK.out.int hik
      replace c1:=hxr.cell (HX3.out.cell c1);replace c2:=hxr.cell (HX3.out.cell c2)
      have hst:(List.range (i+1)).any (fun i=>!((x.getD i zv).kind == ks.getD i 0)) = !(x[i].kind == ks[i]):=by
       rw[List.range_succ,List.any_append,HALL.out]
       simp[jk hix,jk hik]
      have hms:(x[i].kind == ks[i])=false→misK ks x=true:=fun h=>by
       unfold misK
       rw[jL]
       exact⟨i,List.mem_range.2 hik,by simp[jk hix,jk hik];simpa using h⟩
      obtain⟨xk,hxk⟩:∃z,z=x[i].kind:=⟨_,rfl⟩
      obtain⟨kk,hkk⟩:∃z,z=ks[i]:=⟨_,rfl⟩
      rw[←hxk,←hkk]at hst hms
      rw[←hxk]at c1
      rw[←hkk]at c2
      have HST:=zO hst;have HMS:=zO hms
      clear hst hms hxk hkk hix hik hxr
      go_upto_region 11 with fail
      go_quiet (fail)
      have HXQ:=zO (HXR.out.drewN nq)
      generalize (W.drewN nq)=Y at *
      clear c1 c2 e0 b2
      by_cases hkx:xk=kk
      ·have g2:(xk != kk)=false:=by simpa using hkx
       have HA2:=zO (HST.out.trans (by rw[show (xk == kk)=true by simpa using hkx]))
       clear hkx
       go_wp2_with fail
       go_roundw
       case rel=>exact⟨i+1,by omega,by go_num,HA2,HXQ.out⟩
       case measure=>simp[intOf];omega
      ·have g2:(xk != kk)=true:=by simpa using hkx
       have HM2:=zO (HMS.out (by simpa using hkx))
       clear hkx
       go_wp2_with fail
       go_ret
       exact Ret.mk (HX3.out.trans HXQ.out) (by rw[HER3.out,if_pos HM2.out];rfl)
     ·obtain rfl:i=m:=by omega
      have hdi:¬(i:Int)<(i:Int):=by omega
      have HA2:Hid (misK ks x=false):=zO (by unfold misK;rw[←HNK.out];exact HALL.out)
      clear hxr
      go_wp2_with fail
      go_ret
      exact Ret.mk (HX3.out.trans HXR.out) (by rw[HER3.out,if_neg (by rw[HA2.out];simp)];rfl)
  ·have g1:((m:Int) != (nk:Int))=true:=by simp;omega
   have HER2:Hid (er=6):=zO (by rw[HER.out,if_neg (by have:=HML.out;have:=HNK.out;omega)])
   clear hlen
   go_wp2_with fail
   go_ret
   exact Ret.mk HX2.out (by rw[HER2.out];rfl)
theorem MapV.clone{w:World}{b n:Nat}{f:ByteArray→Option Value}(h:MapV w b n f):Calls Tryz.prog 86 #[.map (some b)] w (fun e w'=>e=.returned (.map (some w.heap.size))∧MapV w' w.heap.size n f∧Ext w w'):=by
 obtain⟨D,hD,h1,h2,h3⟩:=h
 have hc:=AnyW.maps_Clone_owns Tryz.layMapClone 9 Rv b n D w hD
 change Calls Tryz.prog 86 _ _ _ at hc
 refine hc.mono ?_
 rintro e w' ⟨rfl,hD',-,he⟩
 exact⟨rfl,⟨D,hD',h1,h2,h3⟩,he⟩
def rdUp:Rdg Up where
 sz:=3
 R:=fun F w cs x=>∃u,cs=[.bool x.del,.string x.rel,u]∧Sl rdVl F w u x.row
 len:=fun ⟨_,e,_⟩=>by rw[e];rfl
 fr:=fun ⟨u,e,h⟩ hf hs=>⟨u,e,h.fr hf hs⟩
 mono:=fun ⟨u,e,h⟩ hs=>⟨u,e,h.mono (by decide) hs⟩
theorem Sl.up{F:Nat→Prop}{w:World}{A:Option Addr}{n c:Nat}{xs:List Up}(h:Sl rdUp F w (.slice A n c) xs){i:Nat}(hi:i<xs.length):∃ad B d,A=some ad∧w.cell? (ad.add (i*3))=some (.bool xs[i].del)∧w.cell? ⟨(ad.add (i*3)).block,(ad.add (i*3)).off+1,none⟩=some (.string xs[i].rel)∧w.cell? ⟨(ad.add (i*3)).block,(ad.add (i*3)).off+2,none⟩=some (.slice B xs[i].row.length d)∧Sl rdVl F w (.slice B xs[i].row.length d) xs[i].row:=by
 obtain⟨ad,cs,h1,-,⟨u,rfl,hu⟩,c0,cr⟩:=h.at hi
 obtain⟨B,d,rfl⟩:=hu.sl
 exact⟨ad,B,d,h1,c0 (by simp),cr 0 (by simp),cr 1 (by simp),hu⟩
structure DmOk(M:Dm):Prop where
 ar:∀s e,M s=some e→e.rel.ar=(e.kinds.length:Int)∧e.kinds.length≤6
 so:∀s e,M s=some e→SoR e.rel.rows∧e.rel.rows.length≤4096
 row:∀s e,M s=some e→∀x∈e.rel.rows,accE e.rel.ar x=0∧misK e.kinds x=false
def appD(M:Dm)(u:Up):Except Int (Dm×Bool):=if chkE M u.rel u.row=0 then (match M u.rel with
 | none=>.error 7
 | some e=>match updS e.rel.rows u.del u.row with
  | none=>.error 11
  | some p=>.ok (if p.2=true then updD M u.rel ⟨e.kinds,⟨e.rel.ar,p.1⟩⟩ else M,p.2)) else .error (chkE M u.rel u.row)
def appL(M:Dm)(k:Nat):List Up→Except Int (Dm×Nat)
 | []=>.ok (M,k)
 | u::us=>match appD M u with
  | .error e=>.error e
  | .ok p=>appL p.1 (if p.2=true then k+1 else k) us
theorem updS_ok{rows rows':List (List Vl)}{x:List Vl}{del ch:Bool}(h:SoR rows)(hl:rows.length≤4096)(hu:updS rows del x=some (rows',ch)):SoR rows'∧rows'.length≤4096∧∀r∈rows',r=x∨r∈rows:=by
 unfold updS at hu
 split at hu
 ·split at hu
  ·rename_i hh
   injection hu with hu;injection hu with h1 h2;subst h1
   obtain⟨hlt,-⟩:=has_at h hh
   exact⟨delR_so h,by have:=delR_len hlt;omega,fun r hr=>.inr ((delR_mem h hh).1 hr).1⟩
  ·injection hu with hu;injection hu with h1 h2;subst h1
   exact⟨h,hl,fun r hr=>.inr hr⟩
 ·split at hu
  ·injection hu with hu;injection hu with h1 h2;subst h1
   exact⟨h,hl,fun r hr=>.inr hr⟩
  ·split at hu
   ·cases hu
   ·rename_i h1 hh hn
    injection hu with hu;injection hu with h1 h2;subst h1
    exact⟨insR_so h (by simpa using hh),by rw[insR_len];omega,fun r hr=>insR_mem.1 hr⟩
theorem chk_zero{M:Dm}{rl:ByteArray}{r:List Vl}{e:En}(he:M rl=some e)(har:e.rel.ar=(e.kinds.length:Int))(h:chkE M rl r=0):accE e.rel.ar r=0∧misK e.kinds r=false:=by
 unfold chkE at h
 rw[he]at h
 simp only at h
 split at h
 ·rename_i h1
  split at h
  ·rename_i h2
   split at h
   ·simp at h
   ·rename_i h3
    exact⟨by unfold accE;rw[if_pos (by rw[har,h1]),if_pos h2],by simpa using h3⟩
  ·simp at h
 ·simp at h
theorem appD_ok{M M':Dm}{u:Up}{ch:Bool}(h:DmOk M)(ha:appD M u=.ok (M',ch)):DmOk M':=by
 unfold appD at ha
 split at ha
 ·rename_i hc
  split at ha
  ·cases ha
  ·rename_i e he
   split at ha
   ·cases ha
   ·rename_i p hp
    injection ha with ha
    injection ha with h1 h2
    subst h1
    split
    ·obtain⟨q1,q2,q3⟩:=updS_ok (rows':=p.1) (ch:=p.2) (h.so _ _ he).1 (h.so _ _ he).2 hp
     have hz:=chk_zero he (h.ar _ _ he).1 hc
     refine⟨fun s y hy=>?_,fun s y hy=>?_,fun s y hy=>?_⟩ <;> unfold updD at hy <;> split at hy
     ·injection hy with hy;subst hy;have:=h.ar _ _ he;exact this
     ·exact h.ar _ _ hy
     ·injection hy with hy;subst hy;exact⟨q1,q2⟩
     ·exact h.so _ _ hy
     ·injection hy with hy;subst hy
      intro r hr
      rcases q3 r hr with rfl|hr
      ·exact hz
      ·exact h.row _ _ he r hr
     ·exact h.row _ _ hy
    ·exact h
 ·cases ha
def ApPost(F:Nat→Prop)(M:Dm)(us:List Up)(n:Nat)(w:World)(e:Ending)(w':World):Prop :=
 Ext w w'∧((∃er:Int,appL M 0 us=.error er∧er≠0∧e=.returned (.tuple #[.agg #[.map none],.int .i64 0,.int .i64 er]))∨∃(M':Dm) (k g:Nat),appL M 0 us=.ok (M',k)∧e=.returned (.tuple #[.agg #[.map (some g)],.int .i64 (k:Int),.int .i64 0])∧w.heap.size≤g∧k≤us.length∧DmOk M'∧DbB (fun k=>(F k∧k<w.heap.size)∨g<k) w' g (n+us.length) M')
def UpR(F:Nat→Prop)(a:Int)(rows:List (List Vl))(del:Bool)(x:List Vl)(w':World)(av:Int)(P:Option Addr)(k d:Nat)(ch:Bool)(er:Int):Prop:=(updS rows del x=none∧er=11)∨(er=0∧av=a∧∃rows',updS rows del x=some (rows',ch)∧(P=none→d=0)∧Sl rdRow F w' (.slice P k d) rows')
theorem UpdPost.one{F H:Nat→Prop}{a:Int}{rows:List (List Vl)}{del:Bool}{x:List Vl}{w w':World}{e:Ending}(hH:∀k,F k∨w.heap.size≤k→H k)(h:UpdPost F a rows del x w e w'):∃av P k d ch er,e=.returned (.tuple #[.agg #[.int .i64 av,.slice P k d],.bool ch,.int .i64 er])∧Ext w w'∧UpR H a rows del x w' av P k d ch er:=by
 obtain⟨he,⟨h1,rfl⟩|⟨rows',ch,P,k,d,h1,rfl,h2,h3⟩⟩:=h
 ·exact⟨0,none,0,0,false,11,rfl,he,.inl ⟨h1,rfl⟩⟩
 ·exact⟨a,P,k,d,ch,0,rfl,he,.inr ⟨rfl,rfl,rows',h1,h2,h3.mono (by decide) (fun k _ hk=>hH k hk)⟩⟩
theorem UpR.fr{F H S:Nat→Prop}{a av:Int}{rows:List (List Vl)}{del ch:Bool}{x:List Vl}{w w':World}{P:Option Addr}{k d:Nat}{er:Int}(h:UpR F a rows del x w av P k d ch er)(hf:Fr S w w')(hs:∀k,F k→¬S k)(hH:∀k,F k→H k):UpR H a rows del x w' av P k d ch er:=by
 rcases h with h|⟨h1,h2,rows',h3,h4,h5⟩
 ·exact .inl h
 ·exact .inr ⟨h1,h2,rows',h3,h4,(h5.fr hf hs).mono (by decide) (fun k _ hk=>hH k hk)⟩
theorem DbB.le{F:Nat→Prop}{w:World}{b n n':Nat}{M:Dm}(h:DbB F w b n M)(hn:n≤n'):DbB F w b n' M:=let ⟨f,h1,h2⟩:=h;⟨f,h1.mono hn,h2⟩
theorem DbB.ent{F:Nat→Prop}{w:World}{b n:Nat}{M:Dm}{rl:ByteArray}{e:En}(h:DbB F w b n M)(hs:rl.size≤maxLen)(he:M rl=some e):∃A0 c0 A c,Ins F w (.slice A0 e.kinds.length c0) e.kinds∧(A=none→c=0)∧Sl rdRow F w (.slice A e.rel.rows.length c) e.rel.rows∧∀V,Ext w V→(Instr.lookup 31 (.map (some b)) (.string rl) false).run Tryz.prog V=.ok (.agg #[.slice A0 e.kinds.length c0,.int .i64 e.rel.ar,.slice A e.rel.rows.length c]) V:=by
 obtain⟨f,hM,hm⟩:=h
 rcases hm rl with ⟨h1,-⟩|⟨y,u,h1,h2,u1,r1,rfl,hk,hn,hr⟩
 ·rw[h1]at he;cases he
 ·rw[h1]at he;injection he with he;subst he
  obtain⟨A,c,rfl⟩:=hr.sl
  obtain⟨A0,c0,rfl⟩:∃A c,u1=.slice A y.kinds.length c:=let ⟨A,c,e,_⟩:=hk;⟨A,c,e⟩
  exact⟨A0,c0,A,c,hk,fun e=>hn y.rel.rows.length c (by rw[e]),hr,fun V hV=>(hM.ext hV).look Tryz.underlying31 (zero_entry _) hs (by rw[h2];rfl)⟩
set_option maxRecDepth 20000 in
theorem DbB.upd{F:Nat→Prop}{w:World}{b n:Nat}{M:Dm}{rl:ByteArray}{e:En}{u:Value}(h:DbB F w b n M)(hF:∀k,F k→k≠b)(hn:n<maxLen)(hs:rl.size≤maxLen)(he:EnV F w u e):∃w',(Instr.mapUpdate 31 (.map (some b)) (.string rl) u).run Tryz.prog w=.ok () w'∧Hid (DbB F w' b (n+1) (updD M rl e)∧Fr (fun k=>k=b) w w'):=by
 obtain⟨f,hM,hm⟩:=h
 obtain⟨w',h1,h2⟩:=upd_run hM hn hs u
 exact⟨w',h1,zO ⟨DbB.put hm h2.out.1 h2.out.2 hF he,Fr.grown (Fr.refl (fun k=>k=b) w) h2.out.2 (fun k hk=>.inl (by injection hk with hk;exact hk.symm))⟩⟩
set_option maxRecDepth 20000 in
set_option maxHeartbeats 6400000 in
theorem apply_any{F G:Nat→Prop}{w:World}{b n m:Nat}{M:Dm}{U:Option Addr}{c:Nat}{us:List Up}(hD:DbB F w b n M)(hn:n+m≤1000000)(hO:DmOk M)(hU:Sl rdUp G w (.slice U m c) us)(hs:∀u∈us,u.rel.size≤maxLen∧u.row.length≤maxLen∧∀v∈u.row,v.str.size≤maxLen) :
    Calls Tryz.prog 33 #[.agg #[.map (some b)],.slice U m c] w (ApPost F M us n w):=by
  have hml:=hU.cap.1
  have HML:=zO hml;have HU:=zO hU;have HS:=zO hs;have HO:=zO hO
  obtain⟨ap,hap⟩:∃ap,ap=appL M 0 us:=⟨_,rfl⟩
  have hD':=hD.mono (G:=fun k=>(F k∧k<w.heap.size)) (fun k hk hf=>⟨hf,hk⟩)
  obtain⟨f,hM,hm2⟩:=hD'
  have HM:=zO hM;have HM2:=zO hm2
  have k2:=two_blk w 33 33 [.map (some b)] [.map none]
  have hx:Ext w ((w.alloc (.cells #[.map (some b)] 33)).alloc (.cells #[.map none] 33)):=((Ext.refl w).alloc _).alloc _
  have HAP:Hid (appL M 0 us=ap):=zO hap.symm
  have HQ:Hid (∀e w',(Ext w w'∧((∃er:Int,ap=.error er∧er≠0∧e=.returned (.tuple #[.agg #[.map none],.int .i64 0,.int .i64 er]))∨∃(M':Dm) (k g:Nat),ap=.ok (M',k)∧e=.returned (.tuple #[.agg #[.map (some g)],.int .i64 (k:Int),.int .i64 0])∧w.heap.size≤g∧k≤m∧DmOk M'∧DbB (fun k=>(F k∧k<w.heap.size)∨g<k) w' g (n+m) M'))→ApPost F M us n w e w'):=zO (fun e w' h=>by
    unfold ApPost;rw[←hap,←hml];exact h)
  clear hM hm2 hap hD hO hU hs
  go_enter Tryz.func33,Tryz.ntmps33
  go_upto_region 1 with fail
  change Bk ((w.alloc (.cells #[.map (some b)] 33)).alloc (.cells #[.map none] 33)) _ _ _∧Bk ((w.alloc (.cells #[.map (some b)] 33)).alloc (.cells #[.map none] 33)) _ _ _ at k2
  generalize ((w.alloc (.cells #[.map (some b)] 33)).alloc (.cells #[.map none] 33))=w1 at *
  obtain⟨ka,kb⟩:=k2
  have a0:=ka.cell (i:=0) (by simp)
  simp only[ja]at a0
  have HX:=zO hx;have HKB:=zO kb;have HCL:=zO (HM.out.ext hx).clone
  have hkl:=kb.lt;have hxs:=hx.size
  clear ka kb hx
  go_wp2_with fail
  refine HCL.out.mono ?_
  rintro e w2 ⟨rfl,hMg,he2⟩
  have HMG:=zO hMg;have HX2:=zO (HX.out.trans he2);have HKB2:=zO (HKB.out.ext he2)
  obtain⟨g,hg⟩:∃g,g=w1.heap.size:=⟨_,rfl⟩
  rw[←hg]at HMG hkl hxs ⊢
  have hg2:g<w2.heap.size:=HMG.out.lt
  clear hMg he2 hg a0
  go_upto_region 2 with fail
  have kd:=Bk.new w2 33 [.map (some g)]
  change Bk (w2.alloc (.cells #[.map (some g)] 33)) _ _ _ at kd
  have hx3:Ext w2 (w2.alloc (.cells #[.map (some g)] 33)):=(Ext.refl w2).alloc _
  generalize (w2.alloc (.cells #[.map (some g)] 33))=w3 at *
  have HX3:=zO (HX2.out.trans hx3);have HKB3:=zO (HKB2.out.ext hx3);have HKD:=zO kd
  have HD3:Hid (DbB (fun k=>(F k∧k<w.heap.size)∨g<k) w3 g (n+0) M):=zO ⟨f,HMG.out.ext hx3,fun s=>by
    rcases HM2.out s with h|⟨e',u',h3,h4,h5⟩
    · exact .inl h
    · exact .inr ⟨e',u',h3,h4,(h5.ext HX3.out).mono (fun k _ h=>.inl h)⟩⟩
  clear kd hx3
  go_wp2_with fail
  go_loopw [8,21] (fun t q wr=>∃(i k:Nat) (Mi:Dm),i≤m∧k≤i∧q=.int .i64 (i:Int)∧t=.int .i64 (k:Int)∧Hid (DmOk Mi)∧Hid (appL Mi k (us.drop i)=ap)∧Hid (DbB (fun k=>(F k∧k<w.heap.size)∨g<k) wr g (n+i) Mi)∧Hid (Fr (fun b=>b=g) w3 wr)) (fun _ q _=>m-(intOf q).toNat)
  case atStart=>exact⟨0,0,M,jn _,jq _,rfl,rfl,HO,zO (by rw[List.drop_zero];exact HAP.out),HD3,zO (Fr.refl _ _)⟩
  case round =>
    obtain⟨i,k,Mi,hi,hki,rfl,rfl,HOI,HAI,HDI,HFI⟩:=hrel
    obtain⟨W,rfl⟩:∃W:World,W=wr:=⟨_,rfl⟩
    by_cases hlt:i<m
    · have j1:(0:Int)≤(i:Int):=by omega
      have j2:(i:Int)<(m:Int):=by omega
      have hix:i<us.length:=by have:=HML.out;omega
      obtain⟨ad,B,d,rfl,e0,e1,e2,hrow⟩:=HU.out.up hix
      obtain⟨z1,z2,z3⟩:=HS.out _ (jg hix)
      have hst:appL Mi k (us.drop i)=(match appD Mi us[i] with|.error e=>.error e|.ok p=>appL p.1 (if p.2=true then k+1 else k) (us.drop (i+1))):=by rw[zj hix];rfl
      rw[HAI.out]at hst
      obtain⟨u,hu⟩:∃u,u=us[i]:=⟨_,rfl⟩
      rw[←hu]at e0 e1 e2 hrow z1 z2 z3 hst
      obtain⟨del,rl,x⟩:=u
      simp only at e0 e1 e2 hrow z1 z2 z3
      obtain⟨nx,hnx⟩:∃z,z=x.length:=⟨_,rfl⟩
      rw[←hnx]at e2 hrow z2
      have HNX:=zO hnx
      have hXW:Ext w W:=HFI.out.new HX3.out (fun q hq=>by omega)
      have HKDW:=zO (HKD.out.fr HFI.out (by omega));have HKBW:=zO (HKB3.out.fr HFI.out (by omega))
      have hadg:(ad.add (i*3)).block≠g:=by
        have h1:(ad.add (i*3)).block<w.heap.size:=cell_lt e0
        omega
      replace e0:=hXW.cell e0;replace e1:=hXW.cell e1;replace e2:=hXW.cell e2
      have b0:=HKDW.out.cell (i:=0) (by simp)
      simp only[ja]at b0
      have HXW:=zO hXW;have HROW:=zO hrow;have HST:=zO hst;have HZ3:=zO z3;have HFW:=zO (HFI.out)
      have HCK:=zO (fun (V:World) (hV:Ext W V)=>dbcheck_any (del:=del) (HDI.out.ext hV) z1 (hrow.ext (hXW.trans hV)) z2 z3 (fun e he=>by have:=(HOI.out.ar _ _ he).2;omega))
      obtain⟨er,her⟩:∃z,z=chkE Mi rl x:=⟨_,rfl⟩
      rw[←her]at HCK
      have HER:=zO her
      clear hu hnx hrow hst z3 hXW her hix
      go_upto_region 6 with fail
      go_region_held3 (fun V=>Ext W V∧V.cell? ⟨w2.heap.size,0,none⟩=some (.map (some g))∧V.cell? (ad.add (i*3))=some (.bool del)∧V.cell? ⟨(ad.add (i*3)).block,(ad.add (i*3)).off+1,none⟩=some (.string rl)∧V.cell? ⟨(ad.add (i*3)).block,(ad.add (i*3)).off+2,none⟩=some (.slice B nx d))
        ((refine(fun he=>⟨he,Ext.cell he b0,Ext.cell he e0,Ext.cell he e1,Ext.cell he e2⟩) ?_;repeat (first|exact Ext.refl _|exact(Ext.refl _).drew|refine Ext.drew ?_|refine Ext.trans ?_ (by assumption))))
        (first
          | (go_at_call 87;(with_reducible refine(HCK.out _ (And.left (by assumption))).mono ?_);rintro e wi ⟨z,rfl,hei,rfl⟩))
      have hfin:=And.left (b:=_∧_) (by assumption)
      have HXF:=zO (HXW.out.trans hfin)
      have HFF:=zO (HFW.out.ext hfin)
      have HKDX:=zO (HKDW.out.ext hfin);have HKBX:=zO (HKBW.out.ext hfin);have HDX:=zO (HDI.out.ext hfin)
      replace b0:=hfin.cell b0;replace e0:=hfin.cell e0;replace e1:=hfin.cell e1;replace e2:=hfin.cell e2
      obtain⟨X,rfl⟩:∃X:World,X=wi:=⟨_,rfl⟩
      clear hfin hei
      by_cases h0:er=0
      · subst h0
        have hy:∃y,Mi rl=some y:=by
          cases hc:Mi rl with
          | some y=>exact⟨y,rfl⟩
          | none=>have:=HER.out;unfold chkE at this;rw[hc]at this;simp at this
        obtain⟨y,hy⟩:=hy
        obtain⟨A0,c0,A,c1,hk,hn0,hr,hlk⟩:=HDX.out.ent z1 hy
        have hac:=(chk_zero hy (HOI.out.ar _ _ hy).1 HER.out.symm).1
        have z2n:nx≤1048576:=by
          have h1:=hac
          have h2:=HOI.out.ar _ _ hy
          have h3:=HNX.out
          unfold accE at h1
          split at h1
          · omega
          · simp at h1
        have HY:=zO hy;have HAC:=zO hac;have HK:=zO hk;have HN0:=zO hn0;have HR:=zO hr
        obtain⟨nk,hnk⟩:∃z,z=y.kinds.length:=⟨_,rfl⟩
        obtain⟨nr,hnr⟩:∃z,z=y.rel.rows.length:=⟨_,rfl⟩
        obtain⟨ra,hra⟩:∃z,z=y.rel.ar:=⟨_,rfl⟩
        rw[←hnk]at hlk HK
        rw[←hnr]at hlk HR
        rw[←hra]at hlk HAC
        have HNK:=zO hnk;have HNR:=zO hnr;have HRA:=zO hra
        clear hy hk hn0 hr hac hnk hnr hra
        go_upto_region 9 with fail
        go_region_held3 (fun V=>Ext X V∧V.cell? ⟨w2.heap.size,0,none⟩=some (.map (some g))∧V.cell? ⟨(ad.add (i*3)).block,(ad.add (i*3)).off+1,none⟩=some (.string rl)∧(Instr.lookup 31 (.map (some g)) (.string rl) false).run Tryz.prog V=.ok (.agg #[.slice A0 nk c0,.int .i64 ra,.slice A nr c1]) V)
          ((refine(fun he=>⟨he,Ext.cell he b0,Ext.cell he e1,hlk _ he⟩) ?_;repeat (first|exact Ext.refl _|exact(Ext.refl _).drew|refine Ext.drew ?_|refine Ext.alloc ?_ _|refine Ext.trans ?_ (by assumption))))
          (fail)
        all_goals
          have ke:=Bk.new X 181 [.slice A0 nk c0,.int .i64 ra,.slice A nr c1]
          change Bk (X.alloc (.cells #[.slice A0 nk c0,.int .i64 ra,.slice A nr c1] 181)) _ _ _ at ke
          have hy:Ext X (X.alloc (.cells #[.slice A0 nk c0,.int .i64 ra,.slice A nr c1] 181)).drew:=((Ext.refl X).alloc _).drew
          replace ke:=ke.ext ((Ext.refl (X.alloc (.cells #[.slice A0 nk c0,.int .i64 ra,.slice A nr c1] 181))).drew)
          have hgx:g<X.heap.size:=HDX.out.lt
          go_upto_region 10 with fail
          generalize (X.alloc (.cells #[.slice A0 nk c0,.int .i64 ra,.slice A nr c1] 181)).drew=Y at *
          have HKE:=zO ke;have HXY:=zO hy
          have k0:=ke.cell (i:=0) (by simp);have k1:=ke.cell (i:=1) (by simp);have k2:=ke.cell (i:=2) (by simp)
          simp only[ja,je]at k0 k1 k2
          have hYs:=hy.size
          replace b0:=hy.cell b0;replace e0:=hy.cell e0;replace e1:=hy.cell e1;replace e2:=hy.cell e2
          have HUP:=zO (fun (V:World) (hV:Ext Y V)=>(update_any (rl:=rl) (del:=del) (HOI.out.so _ _ HY.out).1 ((HR.out.mono (G:=fun k=>((F k∧k<w.heap.size)∨g<k)∧k<Y.heap.size) (by decide) (fun k hk hf=>⟨hf,by omega⟩)).ext (hy.trans hV)) HN0.out (HROW.out.ext (HXF.out.trans (hy.trans hV))) z2n (fun r hr=>by
            have h1:=(HOI.out.row _ _ HY.out r hr).1
            have h2:=HOI.out.ar _ _ HY.out
            unfold accE at h1
            split at h1
            · omega
            · simp at h1) (by have:=(HOI.out.so _ _ HY.out).2;have:=HNR.out;omega) HZ3.out HAC.out).mono (fun e w' h=>h.one (H:=fun k=>(((F k∧k<w.heap.size)∨g<k)∧k<Y.heap.size)∨V.heap.size≤k) (fun k hk=>hk)))
          clear ke hy hlk
          go_region_held3 (fun V=>Ext Y V∧V.cell? ⟨X.heap.size,1,none⟩=some (.int .i64 ra)∧V.cell? ⟨X.heap.size,2,none⟩=some (.slice A nr c1)∧V.cell? (ad.add (i*3))=some (.bool del)∧V.cell? ⟨(ad.add (i*3)).block,(ad.add (i*3)).off+1,none⟩=some (.string rl)∧V.cell? ⟨(ad.add (i*3)).block,(ad.add (i*3)).off+2,none⟩=some (.slice B nx d))
            ((refine(fun he=>⟨he,Ext.cell he k1,Ext.cell he k2,Ext.cell he e0,Ext.cell he e1,Ext.cell he e2⟩) ?_;repeat (first|exact Ext.refl _|exact(Ext.refl _).drew|refine Ext.drew ?_|refine Ext.alloc ?_ _|refine Ext.setCell ?_ (by first|exact jq _|assumption) _|assumption|refine Ext.trans ?_ (by assumption))))
            (first
              | (go_at_call 88;(with_reducible refine(HUP.out _ (And.left (by assumption))).mono ?_);rintro e wi ⟨av,P,kk,dd,ch,er2,rfl,hei,hres⟩;have hen:Ext Y wi:=(by refine Ext.trans ?_ hei;repeat (first|exact Ext.refl _|refine Ext.drew ?_|refine Ext.alloc ?_ _));have hens:=hen.size;(first|(have kq:=(Bk.new Y 179 [.int .i64 0,.slice none 0 0]).ext hei;have q0:=kq.cell (i:=0) (by simp);have q1:=kq.cell (i:=1) (by simp);have f0:=kq.free 0;have f1:=kq.free 1;simp only[ja,je]at q0 q1)|(have kq:=((Bk.new Y 179 [.int .i64 0,.slice none 0 0]).ext (Ext.refl _).drew).ext hei;have q0:=kq.cell (i:=0) (by simp);have q1:=kq.cell (i:=1) (by simp);have f0:=kq.free 0;have f1:=kq.free 1;simp only[ja,je]at q0 q1)|skip)))
        all_goals
          have HRS:=zO hres
          have hgY:g<Y.heap.size:=by omega
          clear hres
          go_upto_region 11 with fail
          (first
            | (have kz:Bk (wi.alloc (.cells #[.int .i64 av,.slice P kk dd] 179)) wi.heap.size 179 [.int .i64 av,.slice P kk dd]:=Bk.new wi _ _
               have hez:Ext Y (wi.alloc (.cells #[.int .i64 av,.slice P kk dd] 179)):=hen.alloc _
               have HRZ:Hid (UpR (fun k=>(F k∧k<w.heap.size)∨g<k) ra y.rel.rows del x (wi.alloc (.cells #[.int .i64 av,.slice P kk dd] 179)) av P kk dd ch er2):=zO (HRS.out.fr (((Ext.refl wi).alloc _).fr (fun _=>False)) (fun _ _ h=>h) (fun k hk=>by
                 rcases hk with h|h
                 · exact h.1
                 · exact .inr (by have h':Y.heap.size≤k:=(by first|exact h|(simp at h;omega));omega)))
               obtain⟨gb,hgb⟩:∃gb,gb=wi.heap.size:=⟨_,rfl⟩
               rw[←hgb]at kz ⊢
               generalize (wi.alloc (.cells #[.int .i64 av,.slice P kk dd] 179))=Z at *)
            | (have kz:Bk ((wi.setCell ⟨Y.heap.size,0,none⟩ (.int .i64 av)).setCell ⟨Y.heap.size,1,none⟩ (.slice P kk dd)) Y.heap.size 179 [.int .i64 av,.slice P kk dd]:=(kq.set 0 _).set 1 _
               have hez:Ext Y ((wi.setCell ⟨Y.heap.size,0,none⟩ (.int .i64 av)).setCell ⟨Y.heap.size,1,none⟩ (.slice P kk dd)):=(hen.setCell (p:=⟨Y.heap.size,0,none⟩) (jq _) _).setCell (p:=⟨Y.heap.size,1,none⟩) (jq _) _
               have hst:Fr (fun k=>k=Y.heap.size) wi ((wi.setCell ⟨Y.heap.size,0,none⟩ (.int .i64 av)).setCell ⟨Y.heap.size,1,none⟩ (.slice P kk dd)):=((Fr.refl (fun k=>k=Y.heap.size) wi).setCell (p:=⟨Y.heap.size,0,none⟩) (.inl rfl) _).setCell (p:=⟨Y.heap.size,1,none⟩) (.inl rfl) _
               have HRZ:Hid (UpR (fun k=>(F k∧k<w.heap.size)∨g<k) ra y.rel.rows del x ((wi.setCell ⟨Y.heap.size,0,none⟩ (.int .i64 av)).setCell ⟨Y.heap.size,1,none⟩ (.slice P kk dd)) av P kk dd ch er2):=zO (HRS.out.fr hst (fun k hk=>by
                 rcases hk with h|h
                 · omega
                 · have h':Y.heap.size<k:=(by first|exact h|(simp at h;omega))
                   omega) (fun k hk=>by
                 rcases hk with h|h
                 · exact h.1
                 · exact .inr (by have h':Y.heap.size≤k:=(by first|exact h|(simp at h;omega));omega)))
               generalize ((wi.setCell ⟨Y.heap.size,0,none⟩ (.int .i64 av)).setCell ⟨Y.heap.size,1,none⟩ (.slice P kk dd))=Z at *
               obtain⟨gb,hgb⟩:∃gb,gb=Y.heap.size:=⟨_,rfl⟩
               rw[←hgb]at kz ⊢))
          have hXZ:Ext X Z:=HXY.out.trans hez
          have HXZ:=zO hXZ;have HKZ:=zO kz;have HKEZ:=zO (HKE.out.ext hez)
          have HKDZ:=zO (HKDX.out.ext hXZ);have HKBZ:=zO (HKBX.out.ext hXZ)
          have q0:=kz.cell (i:=0) (by simp);have q1:=kz.cell (i:=1) (by simp)
          simp only[ja,je]at q0 q1
          replace b0:=hez.cell b0;replace e1:=hez.cell e1;replace k0:=hez.cell k0
          have hgb':g<gb:=by omega
          clear e0 e2 k1 k2 hXZ kz hez hgb HRS hen hens hei
          rcases HRZ.out with ⟨hn,rfl⟩|⟨rfl,rfl,rows',hs',hnil',hsl'⟩
          · have g1:((11:Int) != 0)=true:=rfl
            have HERR:Hid (ap=.error 11):=zO (by
              rw[HST.out,show appD Mi ⟨del,rl,x⟩=.error 11 from by unfold appD;rw[if_pos HER.out.symm];simp only[HY.out,hn]])
            have r0:=HKBZ.out.cell (i:=0) (by simp);have fz:=HKBZ.out.free 0
            simp only[ja]at r0
            clear hn b0 e1 k0 q0 q1
            go_wp2_with fail
            have kz:Bk (Z.setCell ⟨w.heap.size+1,0,none⟩ (.map none)) (w.heap.size+1) 33 [.map none]:=HKBZ.out.set 0 _
            have hez:Ext w (Z.setCell ⟨w.heap.size+1,0,none⟩ (.map none)):=(HXF.out.trans HXZ.out).setCell (p:=⟨w.heap.size+1,0,none⟩) (jP _) _
            generalize (Z.setCell ⟨w.heap.size+1,0,none⟩ (.map none))=wz at *
            have z0:=kz.cell (i:=0) (by simp)
            simp only[ja]at z0
            exact bodyPost_ret (v:=.tuple #[.agg #[.map none],.int .i64 0,.int .i64 11]) (by simp[results,Tryz.results33,go_sem,z0]) rfl (HQ.out _ _ ⟨hez,.inl ⟨11,HERR.out,by decide,rfl⟩⟩)
          · have HAD:Hid (appD Mi ⟨del,rl,x⟩=.ok (if ch=true then updD Mi rl ⟨y.kinds,⟨y.rel.ar,rows'⟩⟩ else Mi,ch)):=zO (by unfold appD;rw[if_pos HER.out.symm];simp only[HY.out,hs'])
            have HAP2:Hid (ap=appL (if ch=true then updD Mi rl ⟨y.kinds,⟨y.rel.ar,rows'⟩⟩ else Mi) (if ch=true then k+1 else k) (us.drop (i+1))):=zO (by rw[HST.out,HAD.out])
            have HEN:Hid (EnV (fun k=>(F k∧k<w.heap.size)∨g<k) Z (.agg #[.slice A0 nk c0,.int .i64 av,.slice P kk dd]) ⟨y.kinds,⟨y.rel.ar,rows'⟩⟩):=zO ⟨_,_,by rw[HRA.out],HK.out.ext HXZ.out,(fun n c e=>by
              injection e with e3 _ e4
              rw[←e4];exact hnil' e3),hsl'⟩
            clear hs' hnil' hsl'
            have g1:((0:Int) != 0)=false:=rfl
            rcases ch with _|_
            · clear b0 e1 k0 q0 q1
              go_wp2_with fail
              go_roundw
              case rel=>exact⟨i+1,k,Mi,by omega,by omega,by go_num,rfl,HOI,zO HAP2.out.symm,zO ((HDX.out.ext HXZ.out).le (by omega)),zO (HFF.out.ext HXZ.out)⟩
              case measure=>simp[intOf];omega
            · obtain⟨w9,hrun9,H9⟩:=DbB.upd ((HDX.out.ext HXZ.out).ext (Ext.refl Z).drew) (fun q hq=>by rcases hq with h|h <;> omega) (by simp only[maxLen];omega) z1 (HEN.out.ext (Ext.refl Z).drew)
              have HF9:=zO (((Fr.refl (fun b=>b=g) Z).drew).trans H9.out.2)
              have hgX:X.heap.size≠g:=by have:=HDX.out.lt;omega
              have hg3:w2.heap.size≠g:=by omega
              have hgq:gb≠g:=by omega
              go_upto_region 14 with fail
              go_region_held3 (fun V=>Fr (fun b=>b=g) Z V∧V.cell? ⟨w2.heap.size,0,none⟩=some (.map (some g))∧V.cell? ⟨(ad.add (i*3)).block,(ad.add (i*3)).off+1,none⟩=some (.string rl)∧V.cell? ⟨X.heap.size,0,none⟩=some (.slice A0 nk c0)∧V.cell? ⟨gb,0,none⟩=some (.int .i64 av)∧V.cell? ⟨gb,1,none⟩=some (.slice P kk dd))
                ((refine(fun hf=>⟨hf,Fr.cell hf b0 hg3,Fr.cell hf e1 hadg,Fr.cell hf k0 hgX,Fr.cell hf q0 hgq,Fr.cell hf q1 hgq⟩) ?_;repeat (first|exact Fr.refl _ _|exact HF9.out|assumption|refine Fr.drew ?_)))
                (fail)
              clear b0 e1 k0 q0 q1
              go_wp2_with fail
              go_roundw
              case rel=>exact⟨i+1,k+1,_,by omega,by omega,by go_num,by go_num,zO (appD_ok HOI.out HAD.out),zO HAP2.out.symm,H9.out.1,zO ((HFF.out.ext HXZ.out).trans HF9.out)⟩
              case measure=>simp[intOf];omega
      · have g1:(er != 0)=true:=bne_iff_ne.2 h0
        have HERR:Hid (ap=.error er∧er≠0):=zO ⟨by rw[HST.out,show appD Mi ⟨del,rl,x⟩=.error (chkE Mi rl x) from if_neg (by rw[←HER.out];exact h0),←HER.out],h0⟩
        have r0:=HKBX.out.cell (i:=0) (by simp);have f0:=HKBX.out.free 0
        simp only[ja]at r0
        clear h0 b0 e0 e1 e2
        go_wp2_with fail
        have kz:Bk (X.setCell ⟨w.heap.size+1,0,none⟩ (.map none)) (w.heap.size+1) 33 [.map none]:=HKBX.out.set 0 _
        have hez:Ext w (X.setCell ⟨w.heap.size+1,0,none⟩ (.map none)):=HXF.out.setCell (p:=⟨w.heap.size+1,0,none⟩) (jP _) _
        generalize (X.setCell ⟨w.heap.size+1,0,none⟩ (.map none))=wz at *
        have z0:=kz.cell (i:=0) (by simp)
        simp only[ja]at z0
        exact bodyPost_ret (v:=.tuple #[.agg #[.map none],.int .i64 0,.int .i64 er]) (by simp[results,Tryz.results33,go_sem,z0]) rfl (HQ.out _ _ ⟨hez,.inl ⟨er,HERR.out.1,HERR.out.2,rfl⟩⟩)
    · obtain rfl:i=m:=by omega
      have hdi:¬(i:Int)<(i:Int):=by omega
      have hXW:Ext w W:=HFI.out.new HX3.out (fun q hq=>by omega)
      have HKDW:=zO (HKD.out.fr HFI.out (by omega));have HKBW:=zO (HKB3.out.fr HFI.out (by omega))
      have HXW:=zO hXW
      have b0:=HKDW.out.cell (i:=0) (by simp);have r0:=HKBW.out.cell (i:=0) (by simp);have f0:=HKBW.out.free 0
      simp only[ja]at b0 r0
      have HAE:Hid (ap=.ok (Mi,k)):=zO (by rw[←HAI.out,zu (by have:=HML.out;omega)];rfl)
      have hne:w.heap.size+1≠g:=by omega
      clear hXW
      go_wp2_with fail
      have kz:Bk (W.setCell ⟨w.heap.size+1,0,none⟩ (.map (some g))) (w.heap.size+1) 33 [.map (some g)]:=HKBW.out.set 0 _
      have hez:Ext w (W.setCell ⟨w.heap.size+1,0,none⟩ (.map (some g))):=HXW.out.setCell (p:=⟨w.heap.size+1,0,none⟩) (jP _) _
      have hst:Fr (fun k=>k=w.heap.size+1) W (W.setCell ⟨w.heap.size+1,0,none⟩ (.map (some g))):=(Fr.refl (fun k=>k=w.heap.size+1) W).setCell (p:=⟨w.heap.size+1,0,none⟩) (.inl rfl) _
      have hdz:=HDI.out.fr hst (fun e=>hne e.symm) (fun q hq=>by rcases hq with h|h <;> omega)
      generalize (W.setCell ⟨w.heap.size+1,0,none⟩ (.map (some g)))=wz at *
      have z0:=kz.cell (i:=0) (by simp)
      simp only[ja]at z0
      exact bodyPost_ret (v:=.tuple #[.agg #[.map (some g)],.int .i64 (k:Int),.int .i64 0]) (by simp[results,Tryz.results33,go_sem,z0]) rfl (HQ.out _ _ ⟨hez,.inr ⟨Mi,k,g,HAE.out,rfl,by omega,hki,HOI.out,hdz⟩⟩)
