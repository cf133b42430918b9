/- packed -/
import Derived.Test.YtplldnnnhgnbjaaGreatDoorMu15
namespace Go.Proofs.YtplldnnnhgnbjaaGreatDoor
open Go.RowKit Go.Maps
set_option maxRecDepth 20000 in
set_option maxHeartbeats 800000 in
theorem grow_rows{w:World}{n:Nat}(hn:n≤1048576) :
  Calls Tryz.prog 259 #[.slice none 0 0,.int .i64 (n:Int)] w (Ret (fun x w'=>w'.ownsRow w.heap.size 74 1 x 0 []) w):=by
 by_cases h0:n=0
 ·subst h0
  go_enter Tryz.func259,Tryz.ntmps259
  go_wp2_with fail
  go_ret
  exact Ret.mk (Ext.refl _) (World.ownsRow_nil _ _ _ _)
 have hp : 0<n:=by omega
 have hp1:(0:Int)<(n:Int):=by omega
 have hp2:¬(n:Int)<0:=by omega
 clear h0
 obtain⟨i0,hi0,hz0,hz1,hz2⟩:=info_parts info_row
 obtain⟨W1,G,ROW,hrz,hG,hGm,hRl,hW1⟩:∃(W1:World) (G:Nat) (ROW:List Value),(∀ty,(Builtin.append_ #[38,3] ty #[.slice none 0 0,.int .i64 (n:Int)]).run Tryz.prog w=.ok (.slice (some ⟨w.heap.size,0,none⟩) n G) W1)∧n≤G∧G≤maxLen∧ROW.length=G∧W1=w.drew.alloc (.cells ROW.toArray 74):=by
  refine⟨_,grownCap w n 0 74,List.replicate n (.slice none 0 0)++List.replicate (grownCap w n 0 74-n) (.slice none 0 0),fun ty=>?_,grownCap_ge w n 0 74,grownCap_le_maxLen w n 0 74 (by unfold maxLen;omega),?_,rfl⟩
  ·have h:=Lib.run_append_grow_zeros w 38 3 ty 74 i0 _ .i64 .i64 Tryz.underlying38 Tryz.underlying3 hi0 hz0 none 0 0 [] (by simp[Builtin.firstCells]) n hp (by omega) (by omega) (by omega) (by rw[hz2];omega) (by rw[hz2];exact growslice_fits (by omega) (by omega))
   rw[jW,zeroCells_one _ rfl,zeroCells_one _ rfl,List.append_toArray,List.append_toArray,jX]at h
   exact h
  ·have:=grownCap_ge w n 0 74
   simp;omega
 have hown:W1.ownsRow w.heap.size 74 1 (.slice (some ⟨w.heap.size,0,none⟩) 0 G) 0 []:=by
  rw[hW1]
  exact World.ownsRow_made w.drew ROW.toArray G (jq _) hGm (by simp[hRl])
 have hext:Ext w W1:=by rw[hW1];exact(Ext.refl w).drew.alloc _
 have HOWN:=zO hown;have HEXT:=zO hext
 have hG1:(0:Int)≤(G:Int):=by omega
 unfold maxLen at hGm
 have hG2:(G:Int)≤9223372036854775807:=by omega
 clear hW1 hRl hown hext
 go_enter Tryz.func259,Tryz.ntmps259
 go_wp2_with (first|(at_builtin;refine Lib.wpList_append_run _ rfl _ _ _ _ rfl _ _ rfl rfl _ _ (hrz _) ?_))
 go_ret
 exact Ret.mk HEXT.out HOWN.out
set_option maxRecDepth 20000 in
set_option maxHeartbeats 1600000 in
theorem concat_rows{F G:Nat→Prop}{w:World}{g:Nat}{A B:Option Addr}{na ca nb cb:Nat}{us vs:List Value}(kb:Bk w g 38 [.slice A na ca,.slice B nb cb])(hcl:Cl F w A us)(hcm:Cl G w B vs)(e2:na=us.length)(e4:nb=vs.length)(hca:na≤ca)(hcb:nb≤cb)(h1:∀u∈us,u.oneCell'=true)(h2:∀u∈vs,u.oneCell'=true)(hs:na+nb≤1048576) :
  Calls Tryz.prog 224 #[.slice (some ⟨g,0,none⟩) 2 2] w (Ret (fun x w'=>w'.ownsRow w.heap.size 74 1 x (na+nb) (us++vs)) w):=by
 have HE2:=zO e2;have HE4:=zO e4;have HCL:=zO hcl;have HCM:=zO hcm;have HKB:=zO kb
 have c0:=kb.cell (i:=0) (by simp);have c1:=kb.cell (i:=1) (by simp)
 simp only[ja,je]at c0 c1
 obtain⟨i0,hi0,hz0,hz1,hz2⟩:=info_parts info_row
 have HI0:=zO (And.intro hi0 (And.intro hz0 (And.intro hz1 hz2)));clear hi0 hz0 hz1 hz2
 have HL:Hid (us.length=na*1∧vs.length=nb*1):=zO ⟨by omega,by omega⟩;have HO1:=zO h1;have HO2:=zO h2
 clear e2 e4 hcl hcm kb h1 h2
 have k1:(0:Int)≤(na:Int):=by omega
 have k2:¬(na:Int)<0:=by omega
 have k3:¬(na:Int)+(nb:Int)<0:=by omega
 have hn:na+nb≤1048576:=hs
 go_enter Tryz.func224,Tryz.ntmps224
 go_wp2_with fail
 refine wp_loop_rounds 3 ?_
 rw[rounds_succ]
 go_wp2_with fail
 rw[rounds_succ]
 go_wp2_with fail
 rw[rounds_succ]
 go_wp2_with fail
 have hgrow:=grow_rows (w:=w) hn
 rw[show ((na+nb:Nat):Int)=(na:Int)+(nb:Int) by omega]at hgrow
 refine hgrow.mono ?_
 rintro e w1 ⟨v1,rfl,he,hown⟩
 obtain⟨A1,n1,rfl⟩:=own_slice hown
 replace c0:=he.cell c0;replace c1:=he.cell c1
 have HOWN:=zO hown;have HX:=zO he
 clear hgrow hown he
 go_wp2_with fail
 refine wp_loop_rounds 3 ?_
 rw[rounds_succ]
 go_wp2_with (first|(at_builtin;refine wpList_append_opt rfl _ _ 38 rfl w.heap.size 74 i0 (.slice none 0 0) 1 24 Tryz.underlying38 HI0.out.1 HI0.out.2.1 HI0.out.2.2.1 HI0.out.2.2.2 rfl (by omega) (.slice A1 0 n1) 0 [] rfl HOWN.out A na ca us rfl HL.out.1 ((HCL.out.ext HX.out).news) HO1.out (by simp only[maxLen];omega) (by omega) HX.out.size ?_;intro v9 w9 hr9 hg9 hl9;rw[jW,jX]at hr9;obtain⟨A9,c9,rfl⟩:=own_slice hr9;have HR9:=zO hr9;have hx9:Ext w w9:=HX.out.grown hg9 (fun q hq=>own_ge HOWN.out hq);have b0:=(HKB.out.ext hx9).cell (i:=0) (by simp);have b1:=(HKB.out.ext hx9).cell (i:=1) (by simp);simp only[ja,je]at b0 b1;have HX9:=zO hx9;clear hr9 hg9 hl9 hx9))
 rw[rounds_succ]
 go_wp2_with (first|(at_builtin;refine wpList_append_opt rfl _ _ 38 rfl w.heap.size 74 i0 (.slice none 0 0) 1 24 Tryz.underlying38 HI0.out.1 HI0.out.2.1 HI0.out.2.2.1 HI0.out.2.2.2 rfl (by omega) (.slice A9 na c9) na us rfl HR9.out B nb cb vs rfl HL.out.2 ((HCM.out.ext HX9.out).news) HO2.out (by simp only[maxLen];omega) (by omega) HX9.out.size ?_;intro v8 w8 hr8 hg8 hl8;obtain⟨A8,c8,rfl⟩:=own_slice hr8;have HR8:=zO hr8;have HX8:Hid (Ext w w8):=zO (HX9.out.grown hg8 (fun q hq=>own_ge HR9.out hq));clear hr8 hg8 hl8))
 rw[rounds_succ]
 go_wp2_with fail
 go_ret
 exact Ret.mk HX8.out HR8.out
set_option maxRecDepth 20000 in
set_option maxHeartbeats 1600000 in
theorem relsearch_any{F G:Nat→Prop}{w:World}{A B:Option Addr}{n c m d:Nat}{a:Int}{rows:List (List Vl)}{r:List Vl}(hS:SoR rows)(hA:Sl rdRow F w (.slice A n c) rows)(hB:Sl rdVl G w (.slice B m d) r)(hm:m≤1048576)(hr:∀x∈rows,x.length≤1048576)(hn:n≤1048576) :
  Calls Tryz.prog 165 #[.agg #[.int .i64 a,.slice A n c],.slice B m d] w (SrPost rows r w):=by
 have kb:=Bk.new w 179 [.int .i64 a,.slice A n c]
 have hx:Ext w (w.alloc (.cells #[.int .i64 a,.slice A n c] 179)):=(Ext.refl w).alloc _
 have HS:=zO (fun (V:World) (hV:Ext w V)=>rsearch_any hS (hA.ext hV) (hB.ext hV) hm hr hn)
 clear hS hA hB hr
 go_enter Tryz.func165,Tryz.ntmps165
 go_upto_region 1 with fail
 change Bk (w.alloc (.cells #[.int .i64 a,.slice A n c] 179)) _ _ _ at kb
 generalize (w.alloc (.cells #[.int .i64 a,.slice A n c] 179))=w1 at *
 have b1:=kb.cell (i:=1) (by simp)
 simp only[ja,je]at b1
 have HX:=zO hx
 clear kb hx
 go_wp2_with fail
 refine(HS.out _ HX.out).mono ?_
 rintro e w2 ⟨he2,rfl⟩
 have HX2:=zO (HX.out.trans he2)
 clear he2 b1
 go_wp2_with fail
 go_ret2
 exact⟨HX2.out,rfl⟩
theorem len_any{w:World}{a:Int}{A:Option Addr}{n c:Nat} :
  Calls Tryz.prog 164 #[.agg #[.int .i64 a,.slice A n c]] w (Ret (fun x _=>x=.int .i64 (n:Int)) w):=by
 go_enter Tryz.func164,Tryz.ntmps164
 go_wp2_with fail
 go_ret
 exact Ret.mk ((Ext.refl w).alloc _) rfl
def accE(a:Int)(r:List Vl):Int:=if (r.length:Int)=a then (if valR r=true then 0 else 4) else 6
set_option maxRecDepth 20000 in
set_option maxHeartbeats 1600000 in
theorem accepts_any{G:Nat→Prop}{w:World}{A B:Option Addr}{n c m d:Nat}{a:Int}{r:List Vl}(hB:Sl rdVl G w (.slice B m d) r)(hm:m≤1048576)(hz:∀v∈r,v.str.size≤maxLen) :
  Calls Tryz.prog 223 #[.agg #[.int .i64 a,.slice A n c],.slice B m d] w (Ret (fun x _=>x=.int .i64 (accE a r)) w):=by
 have hml:=hB.cap.1
 have kb:=Bk.new w 179 [.int .i64 a,.slice A n c]
 have hx:Ext w (w.alloc (.cells #[.int .i64 a,.slice A n c] 179)):=(Ext.refl w).alloc _
 have HV:=zO (fun (V:World) (hV:Ext w V)=>rvalid_any (hB.ext hV) hm hz)
 obtain⟨z,hz2⟩:∃z,z=accE a r:=⟨_,rfl⟩
 rw[←hz2]
 have HZ:=zO hz2;have HML:=zO hml
 clear hB hz hz2 hml
 go_enter Tryz.func223,Tryz.ntmps223
 go_upto_region 1 with fail
 change Bk (w.alloc (.cells #[.int .i64 a,.slice A n c] 179)) _ _ _ at kb
 generalize (w.alloc (.cells #[.int .i64 a,.slice A n c] 179))=w1 at *
 have b0:=kb.cell (i:=0) (by simp)
 simp only[ja]at b0
 have HX:=zO hx
 clear kb hx
 by_cases hma:(m:Int)=a
 ·have g1:((m:Int) != a)=false:=by simpa using hma
  have HV2:=zO (HV.out w1 HX.out)
  obtain⟨b,hb⟩:∃b,b=valR r:=⟨_,rfl⟩
  rw[←hb]at HV2
  have HQ:Hid (z=if b=true then 0 else 4):=zO (by rw[HZ.out,hb];unfold accE;rw[if_pos (by rw[←HML.out];exact hma)])
  clear hma hb
  go_wp2_with fail
  refine HV2.out.mono ?_
  rintro e w2 ⟨y,rfl,he2,rfl⟩
  have HX2:=zO (HX.out.trans he2)
  clear he2 b0
  rcases b with _|_
  ·go_wp2_with fail
   go_ret
   exact Ret.mk HX2.out (by rw[HQ.out];rfl)
  ·go_wp2_with fail
   go_ret
   exact Ret.mk HX2.out (by rw[HQ.out];rfl)
 ·have g1:((m:Int) != a)=true:=by simpa using hma
  have HQ:Hid (z=6):=zO (by rw[HZ.out];unfold accE;rw[if_neg (by rw[←HML.out];exact hma)])
  clear hma
  go_wp2_with fail
  go_ret
  exact Ret.mk HX.out (by rw[HQ.out];rfl)
def RowsPost(n:Nat)(rows:List (List Vl))(w:World)(e:Ending)(w':World):Prop:=Ext w w'∧∃g us,w.heap.size<g∧e=.returned (.slice (some ⟨g,0,none⟩) n n)∧OwR (fun k=>g<k) w' g (.slice (some ⟨g,0,none⟩) n n) n us rows
set_option maxRecDepth 20000 in
set_option maxHeartbeats 3200000 in
theorem rows_any{F:Nat→Prop}{w:World}{A:Option Addr}{n c:Nat}{a:Int}{rows:List (List Vl)}(hA:Sl rdRow F w (.slice A n c) rows)(hr:∀x∈rows,x.length≤1048576)(hn:n≤1048576) :
  Calls Tryz.prog 111 #[.agg #[.int .i64 a,.slice A n c]] w (RowsPost n rows w):=by
 have hnl:=hA.cap.1
 have kb:=Bk.new w 179 [.int .i64 a,.slice A n c]
 have hx:Ext w (w.alloc (.cells #[.int .i64 a,.slice A n c] 179)):=(Ext.refl w).alloc _
 have HA:=zO hA;have HR:=zO hr;have HNL:=zO hnl
 obtain⟨p0,hp0,hx0,hx1,hx2⟩:=info_parts info_row
 clear hA hr hnl
 go_enter Tryz.func111,Tryz.ntmps111
 go_upto_region 1 with fail
 change Bk (w.alloc (.cells #[.int .i64 a,.slice A n c] 179)) _ _ _ at kb
 generalize (w.alloc (.cells #[.int .i64 a,.slice A n c] 179))=w1 at *
 have b1:=kb.cell (i:=1) (by simp)
 simp only[ja,je]at b1
 have hlt1:=kb.lt
 obtain⟨w2,hrun,hown,hgrow⟩:=run_make_full (P:=Tryz.prog) w1 w1.heap.size 38 74 p0 (.slice none 0 0) 1 Tryz.underlying38 hp0 hx0 hx1 .i64 .i64 n (by rw[hx2];omega) (by simp only[maxLen];omega) (jq _)
 have hwg:w1.heap.size<w2.heap.size:=by
  rcases hown.2 with ⟨h0,-⟩|⟨g',cap',cur,e,hb,hc,-⟩
  ·cases h0
  ·injection e with e1
   injection e1 with e1
   injection e1 with e1
   have:=(jT.1 hc).1
   omega
 have hX2:Ext w1 w2:=(Ext.refl w1).grown hgrow (fun k hk=>by cases hk)
 obtain⟨cur0,hcur0⟩:∃l,l=(madeCells (Value.cells (.slice none 0 0)) (n*1)).toList:=⟨_,rfl⟩
 rw[←hcur0]at hown
 have HOWN:=zO hown;have HX2:=zO (hx.trans hX2);have HKA2:=zO (kb.ext hX2)
 obtain⟨g,hg⟩:∃g,g=w1.heap.size:=⟨_,rfl⟩
 rw[←hg]at HOWN hrun hwg hlt1
 have HWG:=zO hlt1
 clear hp0 hx0 hx1 hx2 hown hgrow hX2 hcur0 hg kb hx
 go_upto_region 2 with fail
 clear hrun b1
 go_wp2_with fail
 go_loopw [11] (fun t wr=>∃(j:Nat) (cur:List Value),j≤n∧t=.int .i64 (j:Int)∧Hid (wr.ownsRow g 74 1 (.slice (some ⟨g,0,none⟩) n n) n cur)∧Hid (∀q (h:q<rows.length) (h':q<cur.length),q<j→Sl rdVl (fun k=>g<k) wr cur[q] rows[q])∧Fr (fun b=>b=g) w2 wr) (fun t _=>n-(intOf t).toNat)
 case atStart=>exact⟨0,cur0,jn _,rfl,HOWN,zO (fun q h h' h0=>by omega),Fr.refl _ _⟩
 case round =>
  obtain⟨j,cur,hj,rfl,HOW,HRD,hfr⟩:=hrel
  obtain⟨W3,rfl⟩:∃W:World,W=wr:=⟨_,rfl⟩
  have HF:=zO hfr
  have hxw:Ext w W3:=hfr.new HX2.out (fun b hb=>by omega)
  have HXW:=zO hxw
  have a1:=(HKA2.out.fr hfr (by omega)).cell (i:=1) (by simp)
  simp only[ja,je]at a1
  have hgl:g<W3.heap.size:=by have:=hfr.size;omega
  by_cases hlt:j<n
  ·have i1:(0:Int)≤(j:Int):=by omega
   have i2:(j:Int)<(n:Int):=by omega
   have hjr:j<rows.length:=by have:=HNL.out;omega
   obtain⟨ad,B,e,rfl,-,c0,hrow⟩:=HA.out.row hjr
   replace c0:=hxw.cell c0
   have hlen:=HR.out _ (jg hjr)
   obtain⟨xr,hxr⟩:∃q,q=rows[j]'hjr:=⟨_,rfl⟩
   rw[←hxr]at c0 hrow hlen
   have HXRJ:=zO hxr
   have HP:=zO (fun (V:World) (hV:Ext w V)=>clone_row (w:=V) (hrow.ext hV) hlen)
   obtain⟨⟨o0,p0⟩,f0⟩:=own_cellS HOW.out (i:=j) (by omega)
   obtain⟨nx,hnx⟩:∃q,q=xr.length:=⟨_,rfl⟩
   rw[←hnx]at c0 HP
   clear hrow hlen hnx hxr hfr hxw
   go_wp2_with fail
   refine(HP.out _ HXW.out).mono ?_
   rintro e w5 ⟨y,rfl,he5,A5,c5,rfl,hy⟩
   replace p0:=he5.cell p0
   have ho5:=own_ext' HOW.out he5
   have f5:=(own_cellS ho5 (i:=j) (by omega)).2
   have hy2:=hy.mono (G:=fun k=>g<k) (by decide) (fun k _ hk=>by omega)
   have hf6:=(HF.out.ext he5).setCell (p:=⟨g,j,none⟩) (.inl rfl) (.slice A5 nx c5)
   have ho6:=own_setc ho5 (i:=j) (by omega) (.slice A5 nx c5)
   have hst:Fr (fun k=>k=g) w5 (w5.setCell ⟨g,j,none⟩ (.slice A5 nx c5)):=(Fr.refl (fun k=>k=g) w5).setCell (p:=⟨g,j,none⟩) (.inl rfl) _
   have HF6:=zO hf6;have HO6:=zO ho6
   have HRD6:Hid (∀q (h:q<rows.length) (h':q<(cur.set j (.slice A5 nx c5)).length),q<j+1→Sl rdVl (fun k=>g<k) (w5.setCell ⟨g,j,none⟩ (.slice A5 nx c5)) (cur.set j (.slice A5 nx c5))[q] rows[q]):=zO (fun q h h' h0=>by
    by_cases hqj:q=j
    ·subst hqj
     rw[List.getElem_set_self,←HXRJ.out]
     exact hy2.fr hst (fun k hk e=>by omega)
    ·rw[List.getElem_set_ne (fun e=>hqj e.symm)]
     exact((HRD.out q h (by simpa using h') (by omega)).ext he5).fr hst (fun k hk e=>by omega))
   clear he5 ho5 hy hy2 hf6 ho6 hst f0 c0
   go_wp2_with fail
   go_roundw
   case rel=>exact⟨j+1,_,by omega,by go_num,HO6,HRD6,HF6.out⟩
   case measure=>simp[intOf];omega
  ·obtain rfl:j=n:=by omega
   have hdj:¬(j:Int)<(j:Int):=by omega
   have HQ:Hid (RowsPost j rows w (.returned (.slice (some ⟨g,0,none⟩) j j)) W3):=zO ⟨HXW.out,g,cur,HWG.out,rfl,HOW.out,by have:=HOW.out.1;have:=HNL.out;omega,fun q h h'=>(HRD.out q h h' (by have:=HNL.out;omega)).mono (by decide) (fun k _ hk=>⟨hk,fun e=>by
    have e2:g=k:=by injection e
    omega⟩)⟩
   clear hfr hxw a1
   go_wp2_with fail
   go_ret
   exact HQ.out
def insR(rows:List (List Vl))(x:List Vl):List (List Vl):=rows.take (lowR rows x)++x::rows.drop (lowR rows x)
theorem insR_mem{rows:List (List Vl)}{x r:List Vl}:r∈insR rows x↔r=x∨r∈rows:=by
 unfold insR
 rw[jp,jC]
 have h:r∈rows↔r∈rows.take (lowR rows x)∨r∈rows.drop (lowR rows x):=by
  rw[←jp,za]
 rw[h]
 constructor
 ·rintro(h|h|h)
  ·exact .inr (.inl h)
  ·exact .inl h
  ·exact .inr (.inr h)
 ·rintro(h|h|h)
  ·exact .inr (.inl h)
  ·exact .inl h
  ·exact .inr (.inr h)
theorem insR_so{rows:List (List Vl)}{x:List Vl}(h:SoR rows)(hx:hasR rows x=false):SoR (insR rows x):=by
 obtain⟨h1,h2⟩:=low_split (r:=x) h
 have h3:SoR (rows.take (lowR rows x)):=h.sublist (List.take_sublist _ _)
 have h4:SoR (rows.drop (lowR rows x)):=h.sublist (List.drop_sublist _ _)
 have h5:∀y∈rows.drop (lowR rows x),cmpR x y<0:=fun y hy=>by
  have h6:=h2 y hy
  have h7:cmpR y x≠0:=fun e=>by
   have:hasR rows x=true:=hasR_iff.2 ((cmp_row.eq _ _).1 e ▸ List.mem_of_mem_drop hy)
   rw[hx]at this
   cases this
  have h8:=cmp_row.anti y x
  omega
 unfold insR SoR
 rw[List.pairwise_append]
 refine⟨h3,zJ.2 ⟨h5,h4⟩,fun a ha b hb=>?_⟩
 rcases jC.1 hb with rfl|hb
 ·exact h1 a ha
 ·exact cmp_row.trans _ _ _ (h1 a ha) (h5 b hb)
theorem insR_len(rows:List (List Vl))(x:List Vl):(insR rows x).length=rows.length+1:=by
 have:=lowR_le rows x
 unfold insR
 rw[jl,jD,ju,jZ]
 omega
theorem Sl.us{F:Nat→Prop}{w:World}{A:Option Addr}{n c:Nat}{rows:List (List Vl)}(h:Sl rdRow F w (.slice A n c) rows):∃us:List Value,us.length=rows.length∧Cl F w A us∧(∀u∈us,u.oneCell'=true)∧∀i (h:i<rows.length) (h':i<us.length),Sl rdVl F w us[i] rows[i]:=by
 obtain⟨A',c',e,hc,hh⟩:=h
 injection e with e1 e2 e3
 subst e1
 have key:∀k,k≤rows.length→∃us:List Value,us.length=k∧∀i (h':i<us.length),∃ad,A=some ad∧F ad.block∧w.cell? (ad.add i)=some us[i]∧∃hi:i<rows.length,Sl rdVl F w us[i] rows[i]:=by
  intro k
  induction k with
  | zero=>exact fun _=>⟨[],rfl,fun i h'=>by simp at h'⟩
  | succ k ih =>
   intro hk
   obtain⟨us,hl,hu⟩:=ih (by omega)
   obtain⟨ad,cs,rfl,hF,⟨u,rfl,hsl⟩,h4⟩:=hh k (by omega)
   have h5:=h4 0 (by simp)
   have e:k*rdRow.sz+0=k:=by show k*1+0=k;omega
   rw[e]at h5
   refine⟨us++[u],by simp[hl],fun i h'=>?_⟩
   rcases jB i us.length with hx|hx
   ·rw[jx hx]
    exact hu i hx
   ·have e2:i=us.length:=by simp at h';omega
    subst e2
    rw[jw (jq _)]
    simp only[zC,ja,hl]
    exact⟨ad,rfl,hF,h5,by omega,hsl⟩
 obtain⟨us,hl,hu⟩:=key rows.length (jq _)
 refine⟨us,hl,?_,fun u hu'=>?_,fun i hi h'=>?_⟩
 ·rcases us with _|⟨u,l⟩
  ·exact .inl rfl
  ·obtain⟨ad,rfl,hF,-⟩:=hu 0 (by simp)
   refine .inr ⟨ad,rfl,hF,fun j hj=>?_⟩
   obtain⟨ad',e,-,hcell,-⟩:=hu j hj
   injection e with e
   subst e
   exact hcell
 ·obtain⟨i,hi,rfl⟩:=jv hu'
  obtain⟨-,-,-,-,hr,hsl⟩:=hu i hi
  obtain⟨B,d,e⟩:=hsl.sl
  rw[e]
  rfl
 ·obtain⟨-,-,-,-,hr,hsl⟩:=hu i h'
  exact hsl
theorem Sl.of_own{G:Nat→Prop}{w:World}{base n:Nat}{v:Value}{us:List Value}{rows:List (List Vl)}(h:w.ownsRow base 74 1 v n us)(hl:us.length=rows.length)(hg:∀k,base≤k→G k)(hr:∀i (h:i<rows.length) (h':i<us.length),Sl rdVl G w us[i] rows[i]):Sl rdRow G w v rows:=by
 have hn:n=us.length:=by have:=h.1;omega
 obtain⟨A,c,rfl,hc,hcl⟩:=Cl.of_own h
 refine⟨A,c,by rw[hn,hl],by omega,fun i hi=>?_⟩
 have hi':i<us.length:=by omega
 obtain⟨ad,rfl,hk,hcell⟩:=hcl.at' (j:=i) (jk hi')
 refine⟨ad,[us[i]],rfl,hg _ hk.2,⟨us[i],rfl,hr i hi hi'⟩,fun j hj=>?_⟩
 obtain rfl:j=0:=by simp at hj;omega
 have e:i*rdRow.sz+0=i:=by show i*1+0=i;omega
 rw[e]
 exact hcell
abbrev zrel:Value:=.agg #[.int .i64 0,.slice none 0 0]
def InsPost(F:Nat→Prop)(a:Int)(A:Option Addr)(n c:Nat)(rows:List (List Vl))(x:List Vl)(w:World)(e:Ending)(w':World):Prop :=
 Ext w w'∧((accE a x≠0∧e=.returned (.tuple #[zrel,.bool false,.int .i64 (accE a x)]))∨(accE a x=0∧hasR rows x=true∧e=.returned (.tuple #[.agg #[.int .i64 a,.slice A n c],.bool false,.int .i64 0])) ∨
  (accE a x=0∧hasR rows x=false∧∃B d,e=.returned (.tuple #[.agg #[.int .i64 a,.slice (some B) (n+1) d],.bool true,.int .i64 0])∧Sl rdRow (fun k=>F k∨w.heap.size≤k) w' (.slice (some B) (n+1) d) (insR rows x)))
set_option maxRecDepth 20000 in
set_option maxHeartbeats 3200000 in
theorem insert_any{F G:Nat→Prop}{w:World}{A B:Option Addr}{n c m d:Nat}{a:Int}{rows:List (List Vl)}{x:List Vl}(hS:SoR rows)(hA:Sl rdRow F w (.slice A n c) rows)(hnil:A=none→c=0)(hB:Sl rdVl G w (.slice B m d) x)(hm:m≤1048576)(hr:∀x∈rows,x.length≤1048576)(hn:n<65536)(hz:∀v∈x,v.str.size≤maxLen) :
  Calls Tryz.prog 166 #[.agg #[.int .i64 a,.slice A n c],.slice B m d] w (InsPost F a A n c rows x w):=by
 have hnl:=hA.cap.1
 have k2:=two_blk w 179 179 [.int .i64 a,.slice A n c] [.int .i64 0,.slice none 0 0]
 have hx:Ext w ((w.alloc (.cells #[.int .i64 a,.slice A n c] 179)).alloc (.cells #[.int .i64 0,.slice none 0 0] 179)):=((Ext.refl w).alloc _).alloc _
 have HAC:=zO (fun (V:World) (hV:Ext w V)=>accepts_any (a:=a) (A:=A) (n:=n) (c:=c) (hB.ext hV) hm hz)
 have HSE:=zO (fun (V:World) (hV:Ext w V)=>relsearch_any (a:=a) hS (hA.ext hV) (hB.ext hV) hm hr (by omega))
 have HCL:=zO (fun (V:World) (hV:Ext w V)=>clone_row (hB.ext hV) hm)
 obtain⟨us,hul,hucl,huone,hurd⟩:=hA.us
 have HS:=zO hS;have HA:=zO hA;have HNL:=zO hnl;have HUL:=zO hul;have HUC:=zO hucl;have HUO:=zO huone;have HUR:=zO hurd
 obtain⟨ea,hea⟩:∃z,z=accE a x:=⟨_,rfl⟩
 rw[←hea]at HAC
 have HEA:=zO hea
 have hlow:=lowR_le rows x
 rw[←hnl]at hlow
 clear hS hA hB hr hz hnl hul hucl huone hurd hea
 go_enter Tryz.func166,Tryz.ntmps166
 go_upto_region 1 with fail
 change Bk ((w.alloc (.cells #[.int .i64 a,.slice A n c] 179)).alloc (.cells #[.int .i64 0,.slice none 0 0] 179)) _ _ _∧Bk ((w.alloc (.cells #[.int .i64 a,.slice A n c] 179)).alloc (.cells #[.int .i64 0,.slice none 0 0] 179)) _ _ _ at k2
 generalize ((w.alloc (.cells #[.int .i64 a,.slice A n c] 179)).alloc (.cells #[.int .i64 0,.slice none 0 0] 179))=w1 at *
 obtain⟨ka,kb⟩:=k2
 have a0:=ka.cell (i:=0) (by simp);have a1:=ka.cell (i:=1) (by simp)
 simp only[ja,je]at a0 a1
 have HKA:=zO ka;have HKB:=zO kb;have HX:=zO hx
 clear ka kb hx
 go_wp2_with fail
 refine(HAC.out _ HX.out).mono ?_
 rintro e w2 ⟨y,rfl,he2,rfl⟩
 replace a0:=he2.cell a0;replace a1:=he2.cell a1
 have HX2:=zO (HX.out.trans he2);have HKA2:=zO (HKA.out.ext he2);have HKB2:=zO (HKB.out.ext he2)
 clear he2
 by_cases h0:ea=0
 ·subst h0
  obtain⟨q,hq⟩:∃q,q=lowR rows x:=⟨_,rfl⟩
  obtain⟨fb,hfb⟩:∃q,q=hasR rows x:=⟨_,rfl⟩
  have HQ:=zO hq;have HFB:=zO hfb
  rw[←hq]at hlow
  go_wp2_with fail
  refine(HSE.out _ HX2.out).mono ?_
  rintro e w3 ⟨he3,rfl⟩
  rw[←hq,←hfb]
  have HX3:=zO (HX2.out.trans he3);have HKB3:=zO (HKB2.out.ext he3)
  replace a0:=he3.cell a0;replace a1:=he3.cell a1
  have b0:=HKB3.out.cell (i:=0) (by simp);have b1:=HKB3.out.cell (i:=1) (by simp)
  have f0:=HKB3.out.free 0;have f1:=HKB3.out.free 1
  simp only[ja,je]at b0 b1
  have hlt3:w.heap.size+1<w3.heap.size:=HKB3.out.lt
  clear he3 hq hfb
  rcases fb with _|_
  ·have hlen:decide ((65536:Int)≤(n:Int))=false:=decide_eq_false (by omega)
   clear b0 b1 f0 f1
   go_upto_region 9 with fail
   obtain⟨p0,hp0,hx0,hx1,hx2⟩:=info_parts info_row
   obtain⟨w4,hrun,hown,hgrow⟩:=run_make_own (P:=Tryz.prog) w3 w3.heap.size 38 74 p0 (.slice none 0 0) 1 Tryz.underlying38 hp0 hx0 hx1 .i64 .i64 (n+1) (by rw[hx2];omega) (by simp only[maxLen];omega) (jq _)
   rw[show ((n+1:Nat):Int)=(n:Int)+1 by omega]at hrun
   have HP0:=zO (And.intro hp0 (And.intro hx0 (And.intro hx1 hx2)));clear hp0 hx0 hx1 hx2
   have he4:Ext w3 w4:=(Ext.refl w3).grown hgrow (fun k hk=>by cases hk)
   have HX4:=zO (HX3.out.trans he4);have HOWN:=zO hown;have HKB4:=zO (HKB3.out.ext he4)
   have a0':=he4.cell a0;have a1':=he4.cell a1
   have h34:w3.heap.size≤w4.heap.size:=he4.size
   have q0:(0:Int)≤(q:Int):=by omega
   have hnc:n≤c:=HA.out.cap.2
   have q1:(q:Int)≤(n:Int):=by omega
   have q2:(q:Int)≤(c:Int):=by omega
   obtain⟨B4,hB4⟩:∃g,g=w3.heap.size:=⟨_,rfl⟩
   rw[←hB4]at HOWN hrun h34 hlt3
   have HB4:=zO hB4
   clear hown hgrow he4 hB4
   go_upto_region 10 with fail
   clear hrun a0 a1
   go_upto_region 11 with (first
    | (at_builtin;refine wpList_append_opt rfl _ _ 38 rfl B4 74 p0 (.slice none 0 0) 1 24 Tryz.underlying38 HP0.out.1 HP0.out.2.1 HP0.out.2.2.1 HP0.out.2.2.2 rfl (by omega) (.slice (some ⟨B4,0,none⟩) 0 (n+1)) 0 [] rfl HOWN.out A q c (us.take q) rfl (by have:=HUL.out;have:=HNL.out;rw[ju];omega) (fun j u hu=>(HUC.out.ext HX4.out).news j u (by obtain⟨h1,h2⟩:=zh.1 hu;rw[ju]at h1;rw[←hu,zo (by omega)])) (fun u hu=>HUO.out u (List.mem_of_mem_take hu)) (by simp only[maxLen];omega) (by omega) h34 ?_;intro v5 w5 hr5 hg5 hl5;rw[jW,jX]at hr5;obtain⟨A5,c5,e5⟩:=own_slice hr5;subst e5;have HR5:=zO hr5;have hx5:Ext w w5:=HX4.out.grown hg5 (fun b hb=>by have:=own_ge HOWN.out hb;have:=HB4.out;have:=HX3.out.size;omega);have HG5:=zO hg5;have HX5:=zO hx5;clear hr5 hg5 hl5 hx5))
   have hs5:w4.heap.size≤w5.heap.size:=HG5.out.size
   have HOWB:Hid (∀k,(Value.slice A5 q c5).ownBlock=some k→B4≤k∧k<w5.heap.size):=zO (fun k hk=>HR5.out.lt k hk)
   have HKB5:=zO (HKB4.out.fr (grown_fr HG5.out) (fun e=>by have h1:=own_ge HOWN.out e;omega))
   have a1:=Fr.cell (grown_fr HG5.out) a1' (fun e=>by have h1:=own_ge HOWN.out e;have h2:w.heap.size+1<B4:=hlt3;change B4≤w.heap.size at h1;omega)
   have a0:=Fr.cell (grown_fr HG5.out) a0' (fun e=>by have h1:=own_ge HOWN.out e;have h2:w.heap.size+1<B4:=hlt3;change B4≤w.heap.size at h1;omega)
   clear a0' a1'
   go_wp2_with fail
   refine(HCL.out _ HX5.out).mono ?_
   rintro e w6 ⟨y,rfl,he6,A6,c6,rfl,hy⟩
   have HR6:=zO (own_ext' HR5.out he6);have HX6:=zO (HX5.out.trans he6);have HKB6:=zO (HKB5.out.ext he6)
   replace a0:=he6.cell a0;replace a1:=he6.cell a1
   have hs6:w5.heap.size≤w6.heap.size:=he6.size
   have HY:=zO (hy.mono (G:=fun k=>w5.heap.size≤k∧k<w6.heap.size) (by decide) (fun k hk hf=>⟨hf,hk⟩))
   clear he6 hy
   go_upto_region 12 with (first
    | (at_builtin;refine wpList_append_at rfl _ _ 38 rfl B4 74 p0 (.slice none 0 0) 1 24 Tryz.underlying38 HP0.out.1 HP0.out.2.1 HP0.out.2.2.1 HP0.out.2.2.2 rfl (by omega) (.slice A5 q c5) q (us.take q) rfl (HR6.out.alloc _) ⟨w6.heap.size,0,none⟩ 1 1 [.slice A6 m c6] rfl rfl (laid_news w6 _ _) (by simp[Value.oneCell']) (by simp only[maxLen];omega) (by omega) (by simp;omega) ?_;intro v7 w7 hr7 hg7 hl7;obtain⟨A7,c7,e7⟩:=own_slice hr7;subst e7;have HR7:=zO hr7;have HG7:=zO hg7;have HL7:=zO hl7;clear hr7 hg7 hl7))
   have hx6a:Ext w6 (w6.alloc (.cells #[.slice A6 m c6] 74)):=(Ext.refl w6).alloc _
   have HX7:Hid (Ext w w7):=zO ((HX6.out.trans hx6a).grown HG7.out (fun b hb=>by have:=own_ge HR6.out hb;have:=HX3.out.size;have:=HB4.out;omega))
   have hs7:w6.heap.size<w7.heap.size:=by have h1:=HG7.out.size;simp at h1;omega
   have HFG:Hid (Fr (fun k=>(Value.slice A5 q c5).ownBlock=some k) w6 w7):=zO ((hx6a.fr _).trans (grown_fr HG7.out))
   replace a0:=Fr.cell HFG.out a0 (fun e=>by have h1:=own_ge HR6.out e;change B4≤w.heap.size at h1;omega)
   replace a1:=Fr.cell HFG.out a1 (fun e=>by have h1:=own_ge HR6.out e;change B4≤w.heap.size at h1;omega)
   have HKB7:=zO (HKB6.out.fr HFG.out (fun e=>by have h1:=own_ge HR6.out e;omega))
   have HOWC:Hid (∀k,(Value.slice A7 (q+1) c7).ownBlock=some k→k<w5.heap.size∧B4≤k∨w6.heap.size≤k):=zO (fun k hk=>by
    have h1:=own_ge HR7.out hk
    rcases HL7.out with h2|h2
    ·rw[h2]at hk
     have h3:=HOWB.out k hk
     exact .inl ⟨h3.2,h3.1⟩
    ·rw[h2]at hk
     injection hk with hk
     simp at hk
     exact .inr (by omega))
   clear hx6a
   have hin:(insR rows x)=rows.take q++x::rows.drop q:=by rw[HQ.out];rfl
   have HIN:=zO hin
   have HFIN:=zO (fun (V:World) (A8:Option Addr) (c8:Nat) (hr:V.ownsRow B4 74 1 (.slice A8 (q+1+(n-q)) c8) (q+1+(n-q)) (us.take q++[.slice A6 m c6]++us.drop q)) (hg:w7.grownBy V (Value.slice A7 (q+1) c7).ownBlock)=>(show (∃b,A8=some b)∧Sl rdRow (fun k=>(F k∨w.heap.size≤k)∧k≠w.heap.size+1) V (.slice A8 (n+1) c8) (insR rows x)∧Ext w V∧Bk V (w.heap.size+1) 179 [.int .i64 0,.slice none 0 0]∧V.cell? ⟨w.heap.size,0,none⟩=some (.int .i64 a) from by
    have e1:q+1+(n-q)=n+1:=by omega
    rw[e1]at hr
    have hxv:Ext w V:=HX7.out.grown hg (fun b hb=>by have:=own_ge HR7.out hb;have:=HX3.out.size;have:=HB4.out;omega)
    have hlu:=HUL.out
    have hlr:=HNL.out
    refine⟨?_,?_,hxv,HKB7.out.fr (grown_fr hg) (fun e=>by have h1:=own_ge HR7.out e;omega),Fr.cell (grown_fr hg) a0 (fun e=>by have h1:=own_ge HR7.out e;change B4≤w.heap.size at h1;omega)⟩
    ·rcases hr.2 with ⟨h0,h1⟩|⟨g,cap,cur,e,-⟩
     ·omega
     ·injection e with e
      exact⟨_,e⟩
    ·rw[HIN.out]
     refine Sl.of_own hr ?_ (fun k hk=>⟨.inr (by omega),by omega⟩) (fun i hi hi'=>?_)
     ·simp only[jl,ju,jZ,jD,zn]
      omega
     ·have hup:∀j (hj:j<us.length),us[j]=us[j]→Sl rdVl (fun k=>(F k∨w.heap.size≤k)∧k≠w.heap.size+1) V us[j] (rows[j]'(by omega)):=fun j hj _ =>
       (((HUR.out j (by omega) hj).mono (G:=fun k=>F k∧k<w.heap.size) (by decide) (fun k hk hf=>⟨hf,hk⟩)).ext hxv).mono (by decide) (fun k _ hk=>⟨.inl hk.1,by omega⟩)
      rcases jB i q with h1|h1
      ·have e2:(us.take q++[Value.slice A6 m c6]++us.drop q)[i]=us[i]'(by omega):=by
        rw[jx (by simp;omega),jx (by simp;omega),zE]
       have e3:(rows.take q++x::rows.drop q)[i]=rows[i]'(by omega):=by
        rw[jx (by simp;omega),zE]
       rw[e2,e3]
       exact hup i (by omega) rfl
      ·rcases Nat.eq_or_lt_of_le h1 with h2|h2
       ·subst h2
        have e2:(us.take q++[Value.slice A6 m c6]++us.drop q)[q]=Value.slice A6 m c6:=by
         rw[jx (by simp;omega),jw (by simp;omega)]
         simp only[ju,Nat.min_eq_left (show q≤us.length by omega),zC,ja]
        have e3:(rows.take q++x::rows.drop q)[q]=x:=by
         rw[jw (by simp;omega)]
         simp only[ju,Nat.min_eq_left (show q≤rows.length by omega),zC,ja]
        rw[e2,e3]
        refine(((HY.out.fr HFG.out (fun k hk e=>by have:=HOWB.out k e;omega)).fr (grown_fr hg) (fun k hk e=>by rcases HOWC.out k e with h3|h3 <;> omega))).mono (by decide) (fun k _ hk=>⟨.inr (by have:=HX5.out.size;omega),by omega⟩)
       ·have hl1:(us.take q++[Value.slice A6 m c6]).length=q+1:=by simp;omega
        have hl2:(rows.take q).length=q:=by simp;omega
        have hi3:i<us.length+1:=by
         simp only[jl,ju,jZ,jD,zn]at hi'
         omega
        have e2:(us.take q++[Value.slice A6 m c6]++us.drop q)[i]=us[i-1]'(by omega):=by
         rw[jw (by omega)]
         simp only[hl1,zF]
         congr 1
         omega
        have e3:(rows.take q++x::rows.drop q)[i]=rows[i-1]'(by omega):=by
         rw[jw (by omega)]
         simp only[hl2]
         obtain⟨p,hp⟩:∃p,i-q=p+1:=⟨i-q-1,by omega⟩
         simp only[hp,je,zF]
         congr 1
         omega
        rw[e2,e3]
        exact hup (i-1) (by omega) rfl))
   clear hin
   rcases A with _|ad
   ·have hc0:=hnil rfl
    obtain rfl:c=0:=hc0
    obtain rfl:n=0:=by omega
    obtain rfl:q=0:=by omega
    clear hnil
    have hdr:us.drop 0=[]:=zu (by have:=HUL.out;have:=HNL.out;omega)
    have HDR:=zO hdr
    clear hdr
    go_upto_region 13 with (first
     | (at_builtin;refine wpList_append_opt rfl _ _ 38 rfl B4 74 p0 (.slice none 0 0) 1 24 Tryz.underlying38 HP0.out.1 HP0.out.2.1 HP0.out.2.2.1 HP0.out.2.2.2 rfl (by omega) (.slice A7 1 c7) 1 (us.take 0++[.slice A6 m c6]) rfl HR7.out none (0) (0) [] rfl rfl (fun j u hu=>by simp at hu) (fun u hu=>by simp at hu) (by simp only[maxLen];omega) (by omega) (by omega) ?_;intro v8 w8 hr8 hg8 hl8;obtain⟨A8,c8,e8⟩:=own_slice hr8;subst e8;have HR8:=zO hr8;have HG8:=zO hg8;clear hr8 hg8 hl8))
    obtain⟨hsome,HSL,HXV,HKV,av⟩:=HFIN.out w8 A8 c8 (by rw[HDR.out];exact HR8.out) HG8.out
    obtain⟨b8,rfl⟩:=hsome
    have HSL:=zO HSL;have HXV:=zO HXV
    have b0:=HKV.cell (i:=0) (by simp);have b1:=HKV.cell (i:=1) (by simp)
    have f0:=HKV.free 0;have f1:=HKV.free 1
    simp only[ja,je]at b0 b1
    have hlt8:=HKV.lt
    have HKV:=zO HKV
    clear a0 a1
    go_wp2_with fail
    have kz:Bk ((w8.setCell ⟨w.heap.size+1,0,none⟩ (.int .i64 a)).setCell ⟨w.heap.size+1,1,none⟩ (.slice (some b8) 1 c8)) (w.heap.size+1) 179 [.int .i64 a,.slice (some b8) 1 c8]:=(HKV.out.set 0 _).set 1 _
    have hst:Fr (fun k=>k=w.heap.size+1) w8 ((w8.setCell ⟨w.heap.size+1,0,none⟩ (.int .i64 a)).setCell ⟨w.heap.size+1,1,none⟩ (.slice (some b8) 1 c8)):=((Fr.refl (fun k=>k=w.heap.size+1) w8).setCell (p:=⟨w.heap.size+1,0,none⟩) (.inl rfl) _).setCell (p:=⟨w.heap.size+1,1,none⟩) (.inl rfl) _
    generalize ((w8.setCell ⟨w.heap.size+1,0,none⟩ (.int .i64 a)).setCell ⟨w.heap.size+1,1,none⟩ (.slice (some b8) 1 c8))=wz at *
    have z0:=kz.cell (i:=0) (by simp);have z1:=kz.cell (i:=1) (by simp)
    simp only[ja,je]at z0 z1
    exact bodyPost_ret (v:=.tuple #[.agg #[.int .i64 a,.slice (some b8) 1 c8],.bool true,.int .i64 0]) (by simp[results,Tryz.results166,go_sem,z0,z1]) rfl ⟨hst.new HXV.out (fun q hq=>by omega),.inr (.inr ⟨HEA.out.symm,HFB.out.symm,b8,c8,rfl,(HSL.out.fr hst (fun q hq=>hq.2)).mono (by decide) (fun q _ hq=>hq.1)⟩)⟩
   ·clear hnil
    by_cases hcq:c=q
    ·obtain rfl:q=n:=by omega
     obtain rfl:c=q:=by omega
     have hdr:us.drop c=[]:=zu (by have:=HUL.out;have:=HNL.out;omega)
     have HDR:=zO hdr
     clear hdr
     go_upto_region 13 with (first
      | (at_builtin;refine wpList_append_opt rfl _ _ 38 rfl B4 74 p0 (.slice none 0 0) 1 24 Tryz.underlying38 HP0.out.1 HP0.out.2.1 HP0.out.2.2.1 HP0.out.2.2.2 rfl (by omega) (.slice A7 (c+1) c7) (c+1) (us.take c++[.slice A6 m c6]) rfl HR7.out (some ad) (0) (0) [] rfl rfl (fun j u hu=>by simp at hu) (fun u hu=>by simp at hu) (by simp only[maxLen];omega) (by omega) (by omega) ?_;intro v8 w8 hr8 hg8 hl8;obtain⟨A8,c8,e8⟩:=own_slice hr8;subst e8;have HR8:=zO hr8;have HG8:=zO hg8;clear hr8 hg8 hl8))
     obtain⟨hsome,HSL,HXV,HKV,av⟩:=HFIN.out w8 A8 c8 (by rw[HDR.out,zC];exact HR8.out) HG8.out
     obtain⟨b8,rfl⟩:=hsome
     have HSL:=zO HSL;have HXV:=zO HXV
     have b0:=HKV.cell (i:=0) (by simp);have b1:=HKV.cell (i:=1) (by simp)
     have f0:=HKV.free 0;have f1:=HKV.free 1
     simp only[ja,je]at b0 b1
     have hlt8:=HKV.lt
     have HKV:=zO HKV
     clear a0 a1
     go_wp2_with fail
     have kz:Bk ((w8.setCell ⟨w.heap.size+1,0,none⟩ (.int .i64 a)).setCell ⟨w.heap.size+1,1,none⟩ (.slice (some b8) (c+1) c8)) (w.heap.size+1) 179 [.int .i64 a,.slice (some b8) (c+1) c8]:=(HKV.out.set 0 _).set 1 _
     have hst:Fr (fun k=>k=w.heap.size+1) w8 ((w8.setCell ⟨w.heap.size+1,0,none⟩ (.int .i64 a)).setCell ⟨w.heap.size+1,1,none⟩ (.slice (some b8) (c+1) c8)):=((Fr.refl (fun k=>k=w.heap.size+1) w8).setCell (p:=⟨w.heap.size+1,0,none⟩) (.inl rfl) _).setCell (p:=⟨w.heap.size+1,1,none⟩) (.inl rfl) _
     generalize ((w8.setCell ⟨w.heap.size+1,0,none⟩ (.int .i64 a)).setCell ⟨w.heap.size+1,1,none⟩ (.slice (some b8) (c+1) c8))=wz at *
     have z0:=kz.cell (i:=0) (by simp);have z1:=kz.cell (i:=1) (by simp)
     simp only[ja,je]at z0 z1
     exact bodyPost_ret (v:=.tuple #[.agg #[.int .i64 a,.slice (some b8) (c+1) c8],.bool true,.int .i64 0]) (by simp[results,Tryz.results166,go_sem,z0,z1]) rfl ⟨hst.new HXV.out (fun q hq=>by omega),.inr (.inr ⟨HEA.out.symm,HFB.out.symm,b8,c8,rfl,(HSL.out.fr hst (fun q hq=>hq.2)).mono (by decide) (fun q _ hq=>hq.1)⟩)⟩
    ·have hqc:(q:Int)<(c:Int):=by omega
     go_upto_region 13 with (first
      | (at_builtin;refine wpList_append_opt rfl _ _ 38 rfl B4 74 p0 (.slice none 0 0) 1 24 Tryz.underlying38 HP0.out.1 HP0.out.2.1 HP0.out.2.2.1 HP0.out.2.2.2 rfl (by omega) (.slice A7 (q+1) c7) (q+1) (us.take q++[.slice A6 m c6]) rfl HR7.out (some (ad.add q)) (n-q) (c-q) (us.drop q) rfl (by have:=HUL.out;have:=HNL.out;rw[jZ];omega) (fun j u hu=>by obtain⟨h1,h2⟩:=zh.1 hu;rw[List.getElem?_drop]at hu;obtain⟨ad',e,hc⟩:=(HUC.out.ext HX7.out).news _ u hu;injection e with e;subst e;exact⟨_,rfl,by rw[add_add];exact hc⟩) (fun u hu=>HUO.out u (List.mem_of_mem_drop hu)) (by simp only[maxLen];omega) (by omega) (by omega) ?_;intro v8 w8 hr8 hg8 hl8;obtain⟨A8,c8,e8⟩:=own_slice hr8;subst e8;have HR8:=zO hr8;have HG8:=zO hg8;clear hr8 hg8 hl8))
     obtain⟨hsome,HSL,HXV,HKV,av⟩:=HFIN.out w8 A8 c8 HR8.out HG8.out
     have hqn:q+1+(n-q)=n+1:=by omega
     rw[hqn]
     clear hqn
     obtain⟨b8,rfl⟩:=hsome
     have HSL:=zO HSL;have HXV:=zO HXV
     have b0:=HKV.cell (i:=0) (by simp);have b1:=HKV.cell (i:=1) (by simp)
     have f0:=HKV.free 0;have f1:=HKV.free 1
     simp only[ja,je]at b0 b1
     have hlt8:=HKV.lt
     have HKV:=zO HKV
     clear a0 a1
     go_wp2_with fail
     have kz:Bk ((w8.setCell ⟨w.heap.size+1,0,none⟩ (.int .i64 a)).setCell ⟨w.heap.size+1,1,none⟩ (.slice (some b8) (n+1) c8)) (w.heap.size+1) 179 [.int .i64 a,.slice (some b8) (n+1) c8]:=(HKV.out.set 0 _).set 1 _
     have hst:Fr (fun k=>k=w.heap.size+1) w8 ((w8.setCell ⟨w.heap.size+1,0,none⟩ (.int .i64 a)).setCell ⟨w.heap.size+1,1,none⟩ (.slice (some b8) (n+1) c8)):=((Fr.refl (fun k=>k=w.heap.size+1) w8).setCell (p:=⟨w.heap.size+1,0,none⟩) (.inl rfl) _).setCell (p:=⟨w.heap.size+1,1,none⟩) (.inl rfl) _
     generalize ((w8.setCell ⟨w.heap.size+1,0,none⟩ (.int .i64 a)).setCell ⟨w.heap.size+1,1,none⟩ (.slice (some b8) (n+1) c8))=wz at *
     have z0:=kz.cell (i:=0) (by simp);have z1:=kz.cell (i:=1) (by simp)
     simp only[ja,je]at z0 z1
     exact bodyPost_ret (v:=.tuple #[.agg #[.int .i64 a,.slice (some b8) (n+1) c8],.bool true,.int .i64 0]) (by simp[results,Tryz.results166,go_sem,z0,z1]) rfl ⟨hst.new HXV.out (fun q hq=>by omega),.inr (.inr ⟨HEA.out.symm,HFB.out.symm,b8,c8,rfl,(HSL.out.fr hst (fun q hq=>hq.2)).mono (by decide) (fun q _ hq=>hq.1)⟩)⟩
  ·go_wp2_with fail
   have kz:Bk ((w3.setCell ⟨w.heap.size+1,0,none⟩ (.int .i64 a)).setCell ⟨w.heap.size+1,1,none⟩ (.slice A n c)) (w.heap.size+1) 179 [.int .i64 a,.slice A n c]:=(HKB3.out.set 0 _).set 1 _
   have hst:Fr (fun k=>k=w.heap.size+1) w3 ((w3.setCell ⟨w.heap.size+1,0,none⟩ (.int .i64 a)).setCell ⟨w.heap.size+1,1,none⟩ (.slice A n c)):=((Fr.refl (fun k=>k=w.heap.size+1) w3).setCell (p:=⟨w.heap.size+1,0,none⟩) (.inl rfl) _).setCell (p:=⟨w.heap.size+1,1,none⟩) (.inl rfl) _
   generalize ((w3.setCell ⟨w.heap.size+1,0,none⟩ (.int .i64 a)).setCell ⟨w.heap.size+1,1,none⟩ (.slice A n c))=wz at *
   have z0:=kz.cell (i:=0) (by simp);have z1:=kz.cell (i:=1) (by simp)
   simp only[ja,je]at z0 z1
   exact bodyPost_ret (v:=.tuple #[.agg #[.int .i64 a,.slice A n c],.bool false,.int .i64 0]) (by simp[results,Tryz.results166,go_sem,z0,z1]) rfl ⟨hst.new HX3.out (fun q hq=>by omega),.inr (.inl ⟨HEA.out.symm,HFB.out.symm,rfl⟩)⟩
 ·have g1:(ea != 0)=true:=by simpa using h0
  have b0:=HKB2.out.cell (i:=0) (by simp);have b1:=HKB2.out.cell (i:=1) (by simp)
  have f0:=HKB2.out.free 0;have f1:=HKB2.out.free 1
  simp only[ja,je]at b0 b1
  have hlt2:w.heap.size+1<w2.heap.size:=HKB2.out.lt
  clear a0 a1
  go_wp2_with fail
  have kz:Bk ((w2.setCell ⟨w.heap.size+1,0,none⟩ (.int .i64 0)).setCell ⟨w.heap.size+1,1,none⟩ (.slice none 0 0)) (w.heap.size+1) 179 [.int .i64 0,.slice none 0 0]:=(HKB2.out.set 0 _).set 1 _
  have hst:Fr (fun k=>k=w.heap.size+1) w2 ((w2.setCell ⟨w.heap.size+1,0,none⟩ (.int .i64 0)).setCell ⟨w.heap.size+1,1,none⟩ (.slice none 0 0)):=((Fr.refl (fun k=>k=w.heap.size+1) w2).setCell (p:=⟨w.heap.size+1,0,none⟩) (.inl rfl) _).setCell (p:=⟨w.heap.size+1,1,none⟩) (.inl rfl) _
  generalize ((w2.setCell ⟨w.heap.size+1,0,none⟩ (.int .i64 0)).setCell ⟨w.heap.size+1,1,none⟩ (.slice none 0 0))=wz at *
  have z0:=kz.cell (i:=0) (by simp);have z1:=kz.cell (i:=1) (by simp)
  simp only[ja,je]at z0 z1
  exact bodyPost_ret (v:=.tuple #[zrel,.bool false,.int .i64 ea]) (by simp[results,Tryz.results166,go_sem,z0,z1]) rfl ⟨hst.new HX2.out (fun q hq=>by omega),.inl ⟨by rw[←HEA.out];exact h0,by rw[HEA.out]⟩⟩
def delR(rows:List (List Vl))(x:List Vl):List (List Vl):=rows.take (lowR rows x)++rows.drop (lowR rows x+1)
theorem has_at{rows:List (List Vl)}{x:List Vl}(h:SoR rows)(hx:hasR rows x=true):∃hl:lowR rows x<rows.length,rows[lowR rows x]=x:=by
 obtain⟨hl,he⟩:=(has_low h).1 hx
 exact⟨hl,(cmp_row.eq _ _).1 he⟩
theorem delR_mem{rows:List (List Vl)}{x r:List Vl}(h:SoR rows)(hx:hasR rows x=true):r∈delR rows x↔r∈rows∧r≠x:=by
 obtain⟨hl,he⟩:=has_at h hx
 obtain⟨h1,h2⟩:=low_split (r:=x) h
 have hsp:rows=rows.take (lowR rows x)++x::rows.drop (lowR rows x+1):=by
  conv=>lhs;rw[←za (lowR rows x) rows,zj hl,he]
 have h3:∀y∈rows.drop (lowR rows x+1),y≠x:=fun y hy e=>by
  have h4:SoR (rows.drop (lowR rows x)):=h.sublist (List.drop_sublist _ _)
  rw[zj hl,he]at h4
  have h5:=(zJ.1 h4).1 y hy
  rw[e,cmp_row.self]at h5
  omega
 have h4:∀y∈rows.take (lowR rows x),y≠x:=fun y hy e=>by
  have h5:=h1 y hy
  rw[e,cmp_row.self]at h5
  omega
 unfold delR
 constructor
 ·intro hr
  rcases jp.1 hr with hr|hr
  ·exact⟨List.mem_of_mem_take hr,h4 r hr⟩
  ·exact⟨List.mem_of_mem_drop hr,h3 r hr⟩
 ·rintro⟨hr,hne⟩
  rw[hsp]at hr
  rcases jp.1 hr with hr|hr
  ·exact jJ _ hr
  ·rcases jC.1 hr with hr|hr
   ·exact absurd hr hne
   ·exact jR _ hr
theorem delR_so{rows:List (List Vl)}{x:List Vl}(h:SoR rows):SoR (delR rows x):=by
 refine h.sublist ?_
 unfold delR
 conv=>rhs;rw[←za (lowR rows x) rows]
 exact List.Sublist.append (List.Sublist.refl _) (List.drop_sublist_drop_left _ (jP _))
theorem delR_len{rows:List (List Vl)}{x:List Vl}(h:lowR rows x<rows.length):(delR rows x).length+1=rows.length:=by
 unfold delR
 rw[jl,ju,jZ]
 omega
theorem own_mono{w:World}{b b' n sz:Nat}{E:TypeId}{v:Value}{xs:List Value}(h:w.ownsRow b E sz v n xs)(hb:b'≤b):w.ownsRow b' E sz v n xs:=by
 obtain⟨h1,h2⟩:=h
 refine⟨h1,?_⟩
 rcases h2 with h2|⟨g,cap,cur,e,h3,h4⟩
 ·exact .inl h2
 ·exact .inr ⟨g,cap,cur,e,by omega,h4⟩
theorem Cl.take{F:Nat→Prop}{w:World}{A:Option Addr}{xs:List Value}(h:Cl F w A xs)(k:Nat):Cl F w A (xs.take k):=by
 rcases h with rfl|⟨ad,h1,h2,h3⟩
 ·exact .inl (by simp)
 ·exact .inr ⟨ad,h1,h2,fun j hj=>by rw[zE];exact h3 j (by rw[ju]at hj;omega)⟩
theorem Cl.drop{F:Nat→Prop}{w:World}{ad:Addr}{xs:List Value}(h:Cl F w (some ad) xs)(k:Nat):Cl F w (some (ad.add k)) (xs.drop k):=by
 rcases h with rfl|⟨ad',h1,h2,h3⟩
 ·exact .inl (by simp)
 ·injection h1 with h1
  subst h1
  exact .inr ⟨_,rfl,by rw[block_add];exact h2,fun j hj=>by rw[add_add,zF];exact h3 (k+j) (by rw[jZ]at hj;omega)⟩
theorem add_pos'(ad:Addr)(k:Nat):ad.add (k+1)=⟨ad.block,ad.off+(k+1),none⟩:=by unfold Addr.add;simp
def DelPost(F:Nat→Prop)(a:Int)(A:Option Addr)(n c:Nat)(rows:List (List Vl))(x:List Vl)(w:World)(e:Ending)(w':World):Prop :=
 Ext w w'∧((accE a x≠0∧e=.returned (.tuple #[zrel,.bool false,.int .i64 (accE a x)]))∨(accE a x=0∧hasR rows x=false∧e=.returned (.tuple #[.agg #[.int .i64 a,.slice A n c],.bool false,.int .i64 0])) ∨
  (accE a x=0∧hasR rows x=true∧∃B k d,e=.returned (.tuple #[.agg #[.int .i64 a,.slice B k d],.bool true,.int .i64 0])∧(B=none→d=0)∧Sl rdRow (fun k=>F k∨w.heap.size≤k) w' (.slice B k d) (delR rows x)))
set_option maxRecDepth 20000 in
set_option maxHeartbeats 3200000 in
theorem delete_any{F G:Nat→Prop}{w:World}{A B:Option Addr}{n c m d:Nat}{a:Int}{rows:List (List Vl)}{x:List Vl}(hS:SoR rows)(hA:Sl rdRow F w (.slice A n c) rows)(hB:Sl rdVl G w (.slice B m d) x)(hm:m≤1048576)(hr:∀x∈rows,x.length≤1048576)(hn:n≤65536)(hz:∀v∈x,v.str.size≤maxLen) :
  Calls Tryz.prog 163 #[.agg #[.int .i64 a,.slice A n c],.slice B m d] w (DelPost F a A n c rows x w):=by
 have hnl:=hA.cap.1
 have hnc:n≤c:=hA.cap.2
 have k2:=two_blk w 179 179 [.int .i64 a,.slice A n c] [.int .i64 0,.slice none 0 0]
 have hx:Ext w ((w.alloc (.cells #[.int .i64 a,.slice A n c] 179)).alloc (.cells #[.int .i64 0,.slice none 0 0] 179)):=((Ext.refl w).alloc _).alloc _
 have HAC:=zO (fun (V:World) (hV:Ext w V)=>accepts_any (a:=a) (A:=A) (n:=n) (c:=c) (hB.ext hV) hm hz)
 have HSE:=zO (fun (V:World) (hV:Ext w V)=>relsearch_any (a:=a) hS (hA.ext hV) (hB.ext hV) hm hr (by omega))
 obtain⟨us,hul,hucl,huone,hurd⟩:=hA.us
 have HS:=zO hS;have HA:=zO hA;have HNL:=zO hnl;have HUL:=zO hul;have HUC:=zO hucl;have HUO:=zO huone;have HUR:=zO hurd
 obtain⟨ea,hea⟩:∃z,z=accE a x:=⟨_,rfl⟩
 rw[←hea]at HAC
 have HEA:=zO hea
 have hlow:=lowR_le rows x
 rw[←hnl]at hlow
 clear hS hA hB hr hz hnl hul hucl huone hurd hea
 go_enter Tryz.func163,Tryz.ntmps163
 go_upto_region 1 with fail
 change Bk ((w.alloc (.cells #[.int .i64 a,.slice A n c] 179)).alloc (.cells #[.int .i64 0,.slice none 0 0] 179)) _ _ _∧Bk ((w.alloc (.cells #[.int .i64 a,.slice A n c] 179)).alloc (.cells #[.int .i64 0,.slice none 0 0] 179)) _ _ _ at k2
 generalize ((w.alloc (.cells #[.int .i64 a,.slice A n c] 179)).alloc (.cells #[.int .i64 0,.slice none 0 0] 179))=w1 at *
 obtain⟨ka,kb⟩:=k2
 have a0:=ka.cell (i:=0) (by simp);have a1:=ka.cell (i:=1) (by simp)
 simp only[ja,je]at a0 a1
 have HKA:=zO ka;have HKB:=zO kb;have HX:=zO hx
 clear ka kb hx
 go_wp2_with fail
 refine(HAC.out _ HX.out).mono ?_
 rintro e w2 ⟨y,rfl,he2,rfl⟩
 replace a0:=he2.cell a0;replace a1:=he2.cell a1
 have HX2:=zO (HX.out.trans he2);have HKA2:=zO (HKA.out.ext he2);have HKB2:=zO (HKB.out.ext he2)
 clear he2
 by_cases h0:ea=0
 ·subst h0
  obtain⟨q,hq⟩:∃q,q=lowR rows x:=⟨_,rfl⟩
  obtain⟨fb,hfb⟩:∃q,q=hasR rows x:=⟨_,rfl⟩
  have HQ:=zO hq;have HFB:=zO hfb
  rw[←hq]at hlow
  go_wp2_with fail
  refine(HSE.out _ HX2.out).mono ?_
  rintro e w3 ⟨he3,rfl⟩
  rw[←hq,←hfb]
  have HX3:=zO (HX2.out.trans he3);have HKB3:=zO (HKB2.out.ext he3)
  replace a0:=he3.cell a0;replace a1:=he3.cell a1
  have hlt3:w.heap.size+1<w3.heap.size:=HKB3.out.lt
  clear he3 hq hfb
  rcases fb with _|_
  ·have b0:=HKB3.out.cell (i:=0) (by simp);have b1:=HKB3.out.cell (i:=1) (by simp)
   have f0:=HKB3.out.free 0;have f1:=HKB3.out.free 1
   simp only[ja,je]at b0 b1
   go_wp2_with fail
   have kz:Bk ((w3.setCell ⟨w.heap.size+1,0,none⟩ (.int .i64 a)).setCell ⟨w.heap.size+1,1,none⟩ (.slice A n c)) (w.heap.size+1) 179 [.int .i64 a,.slice A n c]:=(HKB3.out.set 0 _).set 1 _
   have hst:Fr (fun k=>k=w.heap.size+1) w3 ((w3.setCell ⟨w.heap.size+1,0,none⟩ (.int .i64 a)).setCell ⟨w.heap.size+1,1,none⟩ (.slice A n c)):=((Fr.refl (fun k=>k=w.heap.size+1) w3).setCell (p:=⟨w.heap.size+1,0,none⟩) (.inl rfl) _).setCell (p:=⟨w.heap.size+1,1,none⟩) (.inl rfl) _
   generalize ((w3.setCell ⟨w.heap.size+1,0,none⟩ (.int .i64 a)).setCell ⟨w.heap.size+1,1,none⟩ (.slice A n c))=wz at *
   have z0:=kz.cell (i:=0) (by simp);have z1:=kz.cell (i:=1) (by simp)
   simp only[ja,je]at z0 z1
   exact bodyPost_ret (v:=.tuple #[.agg #[.int .i64 a,.slice A n c],.bool false,.int .i64 0]) (by simp[results,Tryz.results163,go_sem,z0,z1]) rfl ⟨hst.new HX3.out (fun q hq=>by omega),.inr (.inl ⟨HEA.out.symm,HFB.out.symm,rfl⟩)⟩
  ·obtain⟨hql0,-⟩:=has_at HS.out HFB.out.symm
   have hql:q<n:=by have:=HQ.out;have:=HNL.out;omega
   have q0:(0:Int)≤(q:Int):=by omega
   have q1:(q:Int)≤(n:Int):=by omega
   have q2:(q:Int)≤(c:Int):=by omega
   have q3:(0:Int)≤(q:Int)+1:=by omega
   have q4:(q:Int)+1≤(n:Int):=by omega
   have q5:(q:Int)+1≤(c:Int):=by omega
   have hs:IntKind.i64.wrap ((q:Int)+1)=(q:Int)+1:=IntWalk.i64_in _ (by omega)
   have hs2:((q:Int)+1).toNat=q+1:=by omega
   rcases A with _|ad
   ·exfalso
    have h1:=HUC.out
    rcases h1 with h1|⟨ad,e,-⟩
    ·have h2:=HUL.out;have h3:=HNL.out
     rw[h1,zn]at h2
     omega
    ·cases e
   clear hql0
   go_upto_region 7 with fail
   have HAL:Hid (Ext w3 w3.drew):=zO (Ext.refl w3).drew
   by_cases hcq:c=q+1
   ·obtain rfl:n=q+1:=by omega
    subst hcq
    have q6:(q:Int)≤(q:Int)+1:=by omega
    have q7:(q:Int)≤((q+1:Nat):Int):=by omega
    have q8:q≤q+1:=by omega
    have hdr:us.drop (q+1)=[]:=zu (by have:=HUL.out;have:=HNL.out;omega)
    have HDR:=zO hdr
    clear hdr
    have HOWF:Hid (∀(X:World) (v:Value) (k:Nat),X.ownsRow (w3.alloc (.cells #[.slice (some ad) q (q+1),.slice (some ad) 0 0] 38)).drew.heap.size 74 1 v k (us.take q++[])→X.ownsRow (w.heap.size+1+1) 74 1 v k (us.take q++us.drop (q+1))):=zO (fun X v k h=>by rw[HDR.out];exact own_mono h (by simp;omega))
    have hcc:=concat_rows (g:=w3.heap.size) (((Bk.new w3 38 [.slice (some ad) q (q+1),.slice (some ad) 0 0]).ext (Ext.refl _).drew:Bk (w3.alloc (.cells #[.slice (some ad) q (q+1),.slice (some ad) 0 0] 38)).drew w3.heap.size _ _)) ((HUC.out.take q).ext ((HX3.out.alloc _).drew)) (show Cl F _ (some ad) [] from .inl rfl) (by have:=HUL.out;have:=HNL.out;rw[ju];omega) rfl (by omega) (by omega) (fun u hu=>HUO.out u (List.mem_of_mem_take hu)) (fun u hu=>by simp at hu) (by omega)
    change Calls Tryz.prog 224 _ (w3.alloc (.cells #[.slice (some ad) q (q+1),.slice (some ad) 0 0] 38)).drew _ at hcc
    have HCC:=zO hcc
    have HEW:Hid (Ext w3 (w3.alloc (.cells #[.slice (some ad) q (q+1),.slice (some ad) 0 0] 38)).drew):=zO ((Ext.refl w3).alloc _).drew
    clear hcc
    go_region_held3 (fun V=>Ext w3 V∧V.cell? ⟨w.heap.size,1,none⟩=some (.slice (some ad) (q+1) (q+1)))
     ((refine(fun he=>⟨he,Ext.cell he a1⟩) ?_;repeat (first|exact Ext.refl _|exact(Ext.refl _).drew|refine Ext.drew ?_|refine Ext.alloc ?_ _|refine Ext.trans ?_ (by assumption))))
     (first
      | (go_at_call 224;(with_reducible refine HCC.out.mono ?_);rintro e wi ⟨y,rfl,hei0,hown⟩;have hei:=Ext.trans HEW.out hei0;rw[Nat.add_zero]at hown))
    have hfin:=hei
    obtain⟨X,rfl⟩:∃X:World,X=wi:=⟨_,rfl⟩
    obtain⟨Ay,cy,rfl⟩:=own_slice hown
    have HXX:=zO (HX3.out.trans hfin);have HOW:=zO hown
    have HKX:=zO (HKB3.out.ext hfin)
    replace a0:=hfin.cell a0
    have b0:=HKX.out.cell (i:=0) (by simp);have b1:=HKX.out.cell (i:=1) (by simp)
    have f0:=HKX.out.free 0;have f1:=HKX.out.free 1
    simp only[ja,je]at b0 b1
    have hltX:=HKX.out.lt
    have HSL:Hid (Sl rdRow (fun k=>(F k∨w.heap.size≤k)∧k≠w.heap.size+1) X (.slice Ay q cy) (delR rows x)):=zO (by
     have hlu:=HUL.out
     have hlr:=HNL.out
     have hd:delR rows x=rows.take q++rows.drop (q+1):=by rw[HQ.out];rfl
     rw[hd]
     have hw:=HOWF.out _ _ _ HOW.out
     refine Sl.of_own hw ?_ (fun k hk=>⟨.inr (by omega),by omega⟩) (fun i hi hi'=>?_)
     ·simp only[jl,ju,jZ]
      omega
     ·have hup:∀j (hj:j<us.length),Sl rdVl (fun k=>(F k∨w.heap.size≤k)∧k≠w.heap.size+1) X us[j] (rows[j]'(by omega)):=fun j hj =>
       (((HUR.out j (by omega) hj).mono (G:=fun k=>F k∧k<w.heap.size) (by decide) (fun k hk hf=>⟨hf,hk⟩)).ext HXX.out).mono (by decide) (fun k _ hk=>⟨.inl hk.1,by omega⟩)
      have hi3:i+1<us.length:=by
       simp only[jl,ju,jZ]at hi'
       omega
      rcases jB i q with h1|h1
      ·have e2:(us.take q++us.drop (q+1))[i]=us[i]'(by omega):=by
        rw[jx (by rw[ju];omega),zE]
       have e3:(rows.take q++rows.drop (q+1))[i]=rows[i]'(by omega):=by
        rw[jx (by rw[ju];omega),zE]
       rw[e2,e3]
       exact hup i (by omega)
      ·have hl1:(us.take q).length=q:=by rw[ju];omega
       have hl2:(rows.take q).length=q:=by rw[ju];omega
       have e2:(us.take q++us.drop (q+1))[i]=us[i+1]'hi3:=by
        rw[jw (by omega)]
        simp only[hl1,zF]
        congr 1
        omega
       have e3:(rows.take q++rows.drop (q+1))[i]=rows[i+1]'(by omega):=by
        rw[jw (by omega)]
        simp only[hl2,zF]
        congr 1
        omega
       rw[e2,e3]
       exact hup (i+1) hi3)
    have HNI:Hid (Ay=none→cy=0):=zO (fun e=>by
     rcases HOW.out.2 with ⟨h1,-⟩|⟨g,cap,cur,h1,-⟩
     ·injection h1 with h1 h2 h3
     ·injection h1 with h1
      rw[e]at h1
      cases h1)
    clear hfin hei hown a1
    go_wp2_with fail
    have kz:Bk ((X.setCell ⟨w.heap.size+1,0,none⟩ (.int .i64 a)).setCell ⟨w.heap.size+1,1,none⟩ (.slice Ay q cy)) (w.heap.size+1) 179 [.int .i64 a,.slice Ay q cy]:=(HKX.out.set 0 _).set 1 _
    have hst:Fr (fun k=>k=w.heap.size+1) X ((X.setCell ⟨w.heap.size+1,0,none⟩ (.int .i64 a)).setCell ⟨w.heap.size+1,1,none⟩ (.slice Ay q cy)):=((Fr.refl (fun k=>k=w.heap.size+1) X).setCell (p:=⟨w.heap.size+1,0,none⟩) (.inl rfl) _).setCell (p:=⟨w.heap.size+1,1,none⟩) (.inl rfl) _
    generalize ((X.setCell ⟨w.heap.size+1,0,none⟩ (.int .i64 a)).setCell ⟨w.heap.size+1,1,none⟩ (.slice Ay q cy))=wz at *
    have z0:=kz.cell (i:=0) (by simp);have z1:=kz.cell (i:=1) (by simp)
    simp only[ja,je]at z0 z1
    exact bodyPost_ret (v:=.tuple #[.agg #[.int .i64 a,.slice Ay q cy],.bool true,.int .i64 0]) (by simp[results,Tryz.results163,go_sem,z0,z1]) rfl ⟨hst.new HXX.out (fun q hq=>by omega),.inr (.inr ⟨HEA.out.symm,HFB.out.symm,Ay,q,cy,rfl,HNI.out,(HSL.out.fr hst (fun q hq=>hq.2)).mono (by decide) (fun q _ hq=>hq.1)⟩)⟩
   ·have HOWF:Hid (∀(X:World) (v:Value) (k:Nat),X.ownsRow (w3.alloc (.cells #[.slice (some ad) q c,.slice (some ⟨ad.block,ad.off+(q+1),none⟩) (n-(q+1)) (c-(q+1))] 38)).drew.heap.size 74 1 v k (us.take q++us.drop (q+1))→X.ownsRow (w.heap.size+1+1) 74 1 v k (us.take q++us.drop (q+1))):=zO (fun X v k h=>own_mono h (by simp;omega))
    have hcc:=concat_rows (g:=w3.heap.size) (((Bk.new w3 38 [.slice (some ad) q c,.slice (some ⟨ad.block,ad.off+(q+1),none⟩) (n-(q+1)) (c-(q+1))]).ext (Ext.refl _).drew:Bk (w3.alloc (.cells #[.slice (some ad) q c,.slice (some ⟨ad.block,ad.off+(q+1),none⟩) (n-(q+1)) (c-(q+1))] 38)).drew w3.heap.size _ _)) ((HUC.out.take q).ext ((HX3.out.alloc _).drew)) (by rw[←add_pos'];exact(HUC.out.drop (q+1)).ext ((HX3.out.alloc _).drew)) (by have:=HUL.out;have:=HNL.out;rw[ju];omega) (by have:=HUL.out;have:=HNL.out;rw[jZ];omega) (by omega) (by omega) (fun u hu=>HUO.out u (List.mem_of_mem_take hu)) (fun u hu=>HUO.out u (List.mem_of_mem_drop hu)) (by omega)
    change Calls Tryz.prog 224 _ (w3.alloc (.cells #[.slice (some ad) q c,.slice (some ⟨ad.block,ad.off+(q+1),none⟩) (n-(q+1)) (c-(q+1))] 38)).drew _ at hcc
    have HCC:=zO hcc
    have HEW:Hid (Ext w3 (w3.alloc (.cells #[.slice (some ad) q c,.slice (some ⟨ad.block,ad.off+(q+1),none⟩) (n-(q+1)) (c-(q+1))] 38)).drew):=zO ((Ext.refl w3).alloc _).drew
    clear hcc
    go_region_held3 (fun V=>Ext w3 V∧V.cell? ⟨w.heap.size,1,none⟩=some (.slice (some ad) n c))
     ((refine(fun he=>⟨he,Ext.cell he a1⟩) ?_;repeat (first|exact Ext.refl _|exact(Ext.refl _).drew|refine Ext.drew ?_|refine Ext.alloc ?_ _|refine Ext.trans ?_ (by assumption))))
     (first
      | (go_at_call 224;(with_reducible refine HCC.out.mono ?_);rintro e wi ⟨y,rfl,hei0,hown⟩;have hei:=Ext.trans HEW.out hei0))
    have hfin:=hei
    obtain⟨X,rfl⟩:∃X:World,X=wi:=⟨_,rfl⟩
    obtain⟨Ay,cy,rfl⟩:=own_slice hown
    have HXX:=zO (HX3.out.trans hfin);have HOW:=zO hown
    have HKX:=zO (HKB3.out.ext hfin)
    replace a0:=hfin.cell a0
    have b0:=HKX.out.cell (i:=0) (by simp);have b1:=HKX.out.cell (i:=1) (by simp)
    have f0:=HKX.out.free 0;have f1:=HKX.out.free 1
    simp only[ja,je]at b0 b1
    have hltX:=HKX.out.lt
    have HSL:Hid (Sl rdRow (fun k=>(F k∨w.heap.size≤k)∧k≠w.heap.size+1) X (.slice Ay (q+(n-(q+1))) cy) (delR rows x)):=zO (by
     have hlu:=HUL.out
     have hlr:=HNL.out
     have hd:delR rows x=rows.take q++rows.drop (q+1):=by rw[HQ.out];rfl
     rw[hd]
     have hw:=HOWF.out _ _ _ HOW.out
     refine Sl.of_own hw ?_ (fun k hk=>⟨.inr (by omega),by omega⟩) (fun i hi hi'=>?_)
     ·simp only[jl,ju,jZ]
      omega
     ·have hup:∀j (hj:j<us.length),Sl rdVl (fun k=>(F k∨w.heap.size≤k)∧k≠w.heap.size+1) X us[j] (rows[j]'(by omega)):=fun j hj =>
       (((HUR.out j (by omega) hj).mono (G:=fun k=>F k∧k<w.heap.size) (by decide) (fun k hk hf=>⟨hf,hk⟩)).ext HXX.out).mono (by decide) (fun k _ hk=>⟨.inl hk.1,by omega⟩)
      have hi3:i+1<us.length:=by
       simp only[jl,ju,jZ]at hi'
       omega
      rcases jB i q with h1|h1
      ·have e2:(us.take q++us.drop (q+1))[i]=us[i]'(by omega):=by
        rw[jx (by rw[ju];omega),zE]
       have e3:(rows.take q++rows.drop (q+1))[i]=rows[i]'(by omega):=by
        rw[jx (by rw[ju];omega),zE]
       rw[e2,e3]
       exact hup i (by omega)
      ·have hl1:(us.take q).length=q:=by rw[ju];omega
       have hl2:(rows.take q).length=q:=by rw[ju];omega
       have e2:(us.take q++us.drop (q+1))[i]=us[i+1]'hi3:=by
        rw[jw (by omega)]
        simp only[hl1,zF]
        congr 1
        omega
       have e3:(rows.take q++rows.drop (q+1))[i]=rows[i+1]'(by omega):=by
        rw[jw (by omega)]
        simp only[hl2,zF]
        congr 1
        omega
       rw[e2,e3]
       exact hup (i+1) hi3)
    have HNI:Hid (Ay=none→cy=0):=zO (fun e=>by
     rcases HOW.out.2 with ⟨h1,-⟩|⟨g,cap,cur,h1,-⟩
     ·injection h1 with h1 h2 h3
     ·injection h1 with h1
      rw[e]at h1
      cases h1)
    clear hfin hei hown a1
    go_wp2_with fail
    have kz:Bk ((X.setCell ⟨w.heap.size+1,0,none⟩ (.int .i64 a)).setCell ⟨w.heap.size+1,1,none⟩ (.slice Ay (q+(n-(q+1))) cy)) (w.heap.size+1) 179 [.int .i64 a,.slice Ay (q+(n-(q+1))) cy]:=(HKX.out.set 0 _).set 1 _
    have hst:Fr (fun k=>k=w.heap.size+1) X ((X.setCell ⟨w.heap.size+1,0,none⟩ (.int .i64 a)).setCell ⟨w.heap.size+1,1,none⟩ (.slice Ay (q+(n-(q+1))) cy)):=((Fr.refl (fun k=>k=w.heap.size+1) X).setCell (p:=⟨w.heap.size+1,0,none⟩) (.inl rfl) _).setCell (p:=⟨w.heap.size+1,1,none⟩) (.inl rfl) _
    generalize ((X.setCell ⟨w.heap.size+1,0,none⟩ (.int .i64 a)).setCell ⟨w.heap.size+1,1,none⟩ (.slice Ay (q+(n-(q+1))) cy))=wz at *
    have z0:=kz.cell (i:=0) (by simp);have z1:=kz.cell (i:=1) (by simp)
    simp only[ja,je]at z0 z1
    exact bodyPost_ret (v:=.tuple #[.agg #[.int .i64 a,.slice Ay (q+(n-(q+1))) cy],.bool true,.int .i64 0]) (by simp[results,Tryz.results163,go_sem,z0,z1]) rfl ⟨hst.new HXX.out (fun q hq=>by omega),.inr (.inr ⟨HEA.out.symm,HFB.out.symm,Ay,(q+(n-(q+1))),cy,rfl,HNI.out,(HSL.out.fr hst (fun q hq=>hq.2)).mono (by decide) (fun q _ hq=>hq.1)⟩)⟩
 ·have g1:(ea != 0)=true:=by simpa using h0
  have b0:=HKB2.out.cell (i:=0) (by simp);have b1:=HKB2.out.cell (i:=1) (by simp)
  have f0:=HKB2.out.free 0;have f1:=HKB2.out.free 1
  simp only[ja,je]at b0 b1
  have hlt2:w.heap.size+1<w2.heap.size:=HKB2.out.lt
  clear a0 a1
  go_wp2_with fail
  have kz:Bk ((w2.setCell ⟨w.heap.size+1,0,none⟩ (.int .i64 0)).setCell ⟨w.heap.size+1,1,none⟩ (.slice none 0 0)) (w.heap.size+1) 179 [.int .i64 0,.slice none 0 0]:=(HKB2.out.set 0 _).set 1 _
  have hst:Fr (fun k=>k=w.heap.size+1) w2 ((w2.setCell ⟨w.heap.size+1,0,none⟩ (.int .i64 0)).setCell ⟨w.heap.size+1,1,none⟩ (.slice none 0 0)):=((Fr.refl (fun k=>k=w.heap.size+1) w2).setCell (p:=⟨w.heap.size+1,0,none⟩) (.inl rfl) _).setCell (p:=⟨w.heap.size+1,1,none⟩) (.inl rfl) _
  generalize ((w2.setCell ⟨w.heap.size+1,0,none⟩ (.int .i64 0)).setCell ⟨w.heap.size+1,1,none⟩ (.slice none 0 0))=wz at *
  have z0:=kz.cell (i:=0) (by simp);have z1:=kz.cell (i:=1) (by simp)
  simp only[ja,je]at z0 z1
  exact bodyPost_ret (v:=.tuple #[zrel,.bool false,.int .i64 ea]) (by simp[results,Tryz.results163,go_sem,z0,z1]) rfl ⟨hst.new HX2.out (fun q hq=>by omega),.inl ⟨by rw[←HEA.out];exact h0,by rw[HEA.out]⟩⟩
