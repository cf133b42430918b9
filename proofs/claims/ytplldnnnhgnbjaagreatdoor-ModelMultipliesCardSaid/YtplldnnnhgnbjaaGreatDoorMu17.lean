/- packed -/
import Derived.Test.YtplldnnnhgnbjaaGreatDoorMu15
import Derived.Test.YtplldnnnhgnbjaaGreatDoorMu16
namespace Go.Proofs.YtplldnnnhgnbjaaGreatDoor
open Go.RowKit Go.Maps
theorem vcells_app2(a b:List Vl):vcells (a++b)=vcells a++vcells b:=by unfold vcells;rw[zx]
def projR(cols:List Int)(xs:List Vl):List Vl:=cols.map (fun c=>xs.getD c.toNat zv)
def PickPost(ys:List Vl)(w:World)(e:Ending)(w':World):Prop:=Ext w w'∧∃A c,e=.returned (.slice A ys.length c)∧Sl rdVl (fun k=>w.heap.size≤k) w' (.slice A ys.length c) ys
set_option maxRecDepth 20000 in
set_option maxHeartbeats 3200000 in
theorem pick_any{F G:Nat→Prop}{w:World}{B C:Option Addr}{m d n c:Nat}{xs:List Vl}{cols:List Int}(hB:Sl rdVl F w (.slice B m d) xs)(hC:Ins G w (.slice C n c) cols)(hc:∀x∈cols,0≤x∧x<(m:Int))(hn:n≤1048576) :
  Calls Tryz.prog 51 #[.slice B m d,.slice C n c] w (PickPost (projR cols xs) w):=by
 have hml:=hB.cap.1
 obtain⟨C',c',e,-,hcl⟩:=hC
 injection e with e1 e2 e3
 subst e1
 have HB:=zO hB;have HML:=zO hml;have HCL:=zO hcl;have HN:=zO e2;have HC:=zO hc
 obtain⟨i0,hi0,hz0,hz1,hz2⟩:=info_parts info_val
 obtain⟨w2,hrun,hown,hgrow⟩:=run_make_full (P:=Tryz.prog) w w.heap.size 74 51 i0 (.agg #[.int .i64 0,.int .i64 0,.string ⟨#[]⟩]) 3 Tryz.underlying74 hi0 hz0 hz1 .i64 .i64 n (by rw[hz2];omega) (by simp only[maxLen];omega) (jq _)
 have HOWN:=zO hown;have HGR:=zO hgrow
 clear hB hml hcl e2 e3 hc hi0 hz0 hz1 hz2 hown hgrow
 go_enter Tryz.func51,Tryz.ntmps51
 go_upto_region 2 with fail
 clear hrun
 obtain⟨g,hg⟩:∃g,g=w.heap.size:=⟨_,rfl⟩
 have hge:w.heap.size≤g:=by omega
 have hgb:g<w2.heap.size:=by
  rcases HOWN.out.2 with ⟨h0,-⟩|⟨g',cap',cur,e,hb,hc,-⟩
  ·cases h0
  ·injection e with e1
   injection e1 with e1
   injection e1 with e1
   have:=(jT.1 hc).1
   omega
 rw[←hg]at HOWN
 have hX2:Ext w w2:=(Ext.refl w).grown HGR.out (fun k hk=>by cases hk)
 have HX2:=zO hX2
 have HCZ:Hid (vcells (projR (cols.take 0) xs)=[]):=zO (by simp[projR,vcells])
 have HOWN2:Hid (w2.ownsRow g 51 3 (.slice (some ⟨g,0,none⟩) n n) n (madeCells (Value.cells (.agg #[.int .i64 0,.int .i64 0,.string ⟨#[]⟩])) (n*3)).toList):=HOWN
 rw[←hg]
 clear hX2 HOWN HGR hg
 generalize (madeCells (Value.cells (.agg #[.int .i64 0,.int .i64 0,.string ⟨#[]⟩])) (n*3)).toList=cur0 at HOWN2
 go_wp2_with fail
 go_loopw [13] (fun t wr=>∃(j:Nat) (cur:List Value),j≤n∧t=.int .i64 (j:Int)∧Hid (wr.ownsRow g 51 3 (.slice (some ⟨g,0,none⟩) n n) n cur)∧Hid (cur.take (j*3)=vcells (projR (cols.take j) xs))∧Fr (fun b=>b=g) w2 wr) (fun t _=>n-(intOf t).toNat)
 case atStart=>exact⟨0,cur0,jn _,rfl,HOWN2,zO (by rw[HCZ.out];simp),Fr.refl _ _⟩
 case round =>
  obtain⟨j,cur,hj,rfl,HOW,HTK,hfr⟩:=hrel
  obtain⟨W,rfl⟩:∃W:World,W=wr:=⟨_,rfl⟩
  have HF:=zO hfr
  have hxw:Ext w W:=hfr.new HX2.out (fun b hb=>by omega)
  have HXW:=zO hxw
  by_cases hlt:j<n
  ·have i1:(0:Int)≤(j:Int):=by omega
   have i2:(j:Int)<(n:Int):=by omega
   have hix:j<cols.length:=by have:=HN.out;omega
   obtain⟨ad,rfl,-,c0⟩:=HCL.out.int hix
   replace c0:=hxw.cell c0
   have hms:=HC.out _ (jg hix)
   have htk:cols.take (j+1)=cols.take j++[cols[j]]:=jj hix
   obtain⟨x,hx⟩:∃x,x=cols[j]:=⟨_,rfl⟩
   rw[←hx]at c0 hms htk
   obtain⟨q,rfl⟩:∃q:Nat,x=(q:Int):=⟨x.toNat,by have:=hms.1;omega⟩
   have hqx:q<xs.length:=by have:=HML.out;have:=hms.2;omega
   have q1:(0:Int)≤(q:Int):=by omega
   have q2:(q:Int)<(m:Int):=hms.2
   obtain⟨bd,rfl,-,b0,b1,b2⟩:=HB.out.vl hqx
   replace b0:=hxw.cell b0;replace b1:=hxw.cell b1;replace b2:=hxw.cell b2
   have hgd:xs.getD q zv=xs[q]:=by simp[jk hqx]
   obtain⟨v,hv⟩:∃v,v=xs[q]:=⟨_,rfl⟩
   rw[←hv]at b0 b1 b2 hgd
   obtain⟨vk,vi,vs⟩:=v
   simp only at b0 b1 b2
   have HTE:Hid (vcells (projR (cols.take (j+1)) xs)=vcells (projR (cols.take j) xs)++[.int .i64 vk,.int .i64 vi,.string vs]):=zO (by
    rw[htk]
    unfold projR
    rw[jI,vcells_app2]
    simp only[zf,List.map_nil,jO,hgd]
    rfl)
   obtain⟨⟨o0,p0⟩,f0⟩:=own_cellS HOW.out (i:=j*3) (by omega)
   obtain⟨⟨o1,p1⟩,f1⟩:=own_cellS HOW.out (i:=j*3+1) (by omega)
   obtain⟨⟨o2,p2⟩,f2⟩:=own_cellS HOW.out (i:=j*3+2) (by omega)
   have hgl:g<W.heap.size:=by have:=hfr.size;omega
   have ho1:=own_setc HOW.out (i:=j*3) (by omega) (.int .i64 vk)
   have ho2:=own_setc ho1 (i:=j*3+1) (by omega) (.int .i64 vi)
   have ho3:=own_setc ho2 (i:=j*3+2) (by omega) (.string vs)
   have hf3:=((hfr.setCell (p:=⟨g,j*3,none⟩) (.inl rfl) (.int .i64 vk)).setCell (p:=⟨g,j*3+1,none⟩) (.inl rfl) (.int .i64 vi)).setCell (p:=⟨g,j*3+2,none⟩) (.inl rfl) (.string vs)
   have HO3:=zO ho3;have HF3:=zO hf3
   have HCL2:Hid (cur.length=n*3):=zO HOW.out.1
   have HTK3:Hid ((((cur.set (j*3) (.int .i64 vk)).set (j*3+1) (.int .i64 vi)).set (j*3+2) (.string vs)).take ((j+1)*3)=vcells (projR (cols.take (j+1)) xs)):=zO (by
    rw[HTE.out,←HTK.out]
    apply List.ext_getElem?
    intro q
    have hl:=HCL2.out
    rcases jB q ((j+1)*3) with h1|h1
    ·rw[zo h1]
     rcases jB q (j*3) with h2|h2
     ·rw[zi (by rw[ju];omega),zo h2,jH (by omega),jH (by omega),jH (by omega)]
     ·rw[ze (by rw[ju];omega),ju,Nat.min_eq_left (by omega)]
      rcases(show q=j*3∨q=j*3+1∨q=j*3+2 by omega) with rfl|rfl|rfl
      ·rw[jH (by omega),jH (by omega),zl (by omega),zC]
       rfl
      ·rw[jH (by omega),zl (by rw[zc];omega),show j*3+1-j*3=1 by omega]
       rfl
      ·rw[zl (by rw[zc,zc];omega),show j*3+2-j*3=2 by omega]
       rfl
    ·rw[List.getElem?_take_eq_none h1,zb]
     rw[jl,ju]
     simp only[jD,zn]
     omega)
   clear hx hms htk hix hqx hgd hv hfr hxw ho1 ho2 ho3 hf3
   go_wp2_with fail
   go_roundw
   case rel=>exact⟨j+1,_,by omega,by go_num,HO3,HTK3,HF3.out⟩
   case measure=>simp[intOf];omega
  ·obtain rfl:j=n:=by omega
   have hdj:¬(j:Int)<(j:Int):=by omega
   have HRES:Hid (Sl rdVl (fun k=>w.heap.size≤k) W (.slice (some ⟨g,0,none⟩) j j) (projR cols xs)):=zO (by
    have h1:=HTK.out
    rw[jo (by have:=HOW.out.1;omega),jo (by have:=HN.out;omega)]at h1
    have h2:=HOW.out
    rw[h1]at h2
    exact(own_vls h2).mono (by decide) (fun k _ hk=>by omega))
   have HLN:Hid (j=(projR cols xs).length):=zO (by unfold projR;rw[jm];exact HN.out)
   have HQ:Hid (PickPost (projR cols xs) w (.returned (.slice (some ⟨g,0,none⟩) j j)) W):=zO ⟨HXW.out,_,j,by rw[←HLN.out],by rw[←HLN.out];exact HRES.out⟩
   clear hfr hxw
   go_wp2_with fail
   go_ret
   exact HQ.out
end Go.Proofs.YtplldnnnhgnbjaaGreatDoor
namespace Go.Proofs.YtplldnnnhgnbjaaGreatDoor
open Go.RowKit Go.Maps
def imgR(cols:List Int)(cs xs:List Vl):List Vl:=List.zipWith (fun c v=>if 0≤c then xs.getD c.toNat zv else v) cols cs
theorem take_set3{cur X:List Value}{i j:Nat}(hl:cur.length=i*3)(hj:j<i)(ht:cur.take (j*3)=X)(a b c:Value):(((cur.set (j*3) a).set (j*3+1) b).set (j*3+2) c).take ((j+1)*3)=X++[a,b,c]:=by
 rw[←ht]
 apply List.ext_getElem?
 intro q
 rcases jB q ((j+1)*3) with h1|h1
 ·rw[zo h1]
  rcases jB q (j*3) with h2|h2
  ·rw[zi (by rw[ju];omega),zo h2,jH (by omega),jH (by omega),jH (by omega)]
  ·rw[ze (by rw[ju];omega),ju,Nat.min_eq_left (by omega)]
   rcases(show q=j*3∨q=j*3+1∨q=j*3+2 by omega) with rfl|rfl|rfl
   ·rw[jH (by omega),jH (by omega),zl (by omega),zC]
    rfl
   ·rw[jH (by omega),zl (by rw[zc];omega),show j*3+1-j*3=1 by omega]
    rfl
   ·rw[zl (by rw[zc,zc];omega),show j*3+2-j*3=2 by omega]
    rfl
 ·rw[List.getElem?_take_eq_none h1,zb]
  rw[jl,ju]
  simp only[jD,zn]
  omega
theorem take_set_ge{cur X:List Value}{k j:Nat}(ht:cur.take k=X)(h:k≤j)(a:Value):(cur.set j a).take k=X:=by
 rw[←ht,List.take_set_of_le h]
set_option maxRecDepth 20000 in
set_option maxHeartbeats 3200000 in
theorem contains_neg{F G H J:Nat→Prop}{w:World}{R C K B:Option Addr}{nr cr n c e d m:Nat}{a:Int}{rows:List (List Vl)}{cols:List Int}{cs xs:List Vl}(hS:SoR rows)(hR:Sl rdRow F w (.slice R nr cr) rows)(hC:Ins G w (.slice C n c) cols)(hK:Sl rdVl H w (.slice K n e) cs)(hB:Sl rdVl J w (.slice B m d) xs)(hb:∀x∈cols,x<(m:Int))(hn:n≤1048576)(hm:m≤1048576)(hr:∀x∈rows,x.length≤1048576)(hnr:nr≤1048576) :
  Calls Tryz.prog 116 #[.agg #[.int .i64 a,.slice R nr cr,.slice C n c,.slice K n e],.slice B m d] w (Ret (fun y _=>y=.bool (hasR rows (imgR cols cs xs))) w):=by
 have hml:=hB.cap.1;have hkl:=hK.cap.1
 obtain⟨C',c',e',-,hcl⟩:=hC
 injection e' with e1 e2 e3
 subst e1
 have HB:=zO hB;have HML:=zO hml;have HCL:=zO hcl;have HN:=zO e2;have HBD:=zO hb;have HK:=zO hK;have HKL:=zO hkl
 have kb:=Bk.new w 220 [.int .i64 a,.slice R nr cr,.slice C n c,.slice K n e]
 change Bk (w.alloc (.cells #[.int .i64 a,.slice R nr cr,.slice C n c,.slice K n e] 220)) _ _ _ at kb
 have hx:Ext w (w.alloc (.cells #[.int .i64 a,.slice R nr cr,.slice C n c,.slice K n e] 220)):=(Ext.refl w).alloc _
 have HSE:=zO (fun (V:World) (hV:Ext w V) (P:Option Addr) (k:Nat) (Q:Nat→Prop) (l:List Vl) (hl:Sl rdVl Q V (.slice P n k) l)=>relsearch_any (a:=a) hS (hR.ext hV) hl hn hr hnr)
 obtain⟨i0,hi0,hz0,hz1,hz2⟩:=info_parts info_val
 obtain⟨z,hz⟩:∃z,z=hasR rows (imgR cols cs xs):=⟨_,rfl⟩
 rw[←hz]
 have HZ:=zO hz
 clear hz hB hml hcl e2 e3 hb hK hkl hS hR hr
 go_enter Tryz.func116,Tryz.ntmps116
 go_upto_region 1 with fail
 generalize (w.alloc (.cells #[.int .i64 a,.slice R nr cr,.slice C n c,.slice K n e] 220))=w1 at *
 obtain⟨w2,hrun,hown,hgrow⟩:=run_make_full (P:=Tryz.prog) w1 w1.heap.size 74 51 i0 (.agg #[.int .i64 0,.int .i64 0,.string ⟨#[]⟩]) 3 Tryz.underlying74 hi0 hz0 hz1 .i64 .i64 n (by rw[hz2];omega) (by simp only[maxLen];omega) (jq _)
 have HOWN:=zO hown;have HGR:=zO hgrow
 have hbx:=kb.lt
 have k2:=kb.cell (i:=2) (by simp)
 simp only[ja,je]at k2
 have HX:=zO hx;have HKB:=zO kb
 have hs1:=hx.size
 clear hi0 hz0 hz1 hz2 hown hgrow kb hx
 go_upto_region 2 with fail
 obtain⟨g,hg⟩:∃g,g=w1.heap.size:=⟨_,rfl⟩
 have hgb:g<w2.heap.size:=by
  rcases HOWN.out.2 with ⟨h0,-⟩|⟨g',cap',cur,e,hb,hc,-⟩
  ·cases h0
  ·injection e with e1
   injection e1 with e1
   injection e1 with e1
   have:=(jT.1 hc).1
   omega
 rw[←hg]at HOWN
 have hX2:Ext w1 w2:=(Ext.refl w1).grown HGR.out (fun k hk=>by cases hk)
 have HX2:=zO (HX.out.trans hX2);have HKB2:=zO (HKB.out.ext hX2)
 have HOWN2:Hid (w2.ownsRow g 51 3 (.slice (some ⟨g,0,none⟩) n n) n (madeCells (Value.cells (.agg #[.int .i64 0,.int .i64 0,.string ⟨#[]⟩])) (n*3)).toList):=HOWN
 rw[←hg]
 have hgw:w.heap.size<g:=by omega
 replace k2:=hX2.cell k2
 clear hX2 HOWN HGR hg hrun
 generalize (madeCells (Value.cells (.agg #[.int .i64 0,.int .i64 0,.string ⟨#[]⟩])) (n*3)).toList=cur0 at HOWN2
 go_wp2_with fail
 clear k2
 go_loopw [17] (fun t wr=>∃(j:Nat) (cur:List Value),j≤n∧t=.int .i64 (j:Int)∧Hid (wr.ownsRow g 51 3 (.slice (some ⟨g,0,none⟩) n n) n cur)∧Hid (cur.take (j*3)=vcells ((imgR cols cs xs).take j))∧Hid (Fr (fun b=>b=g) w2 wr)) (fun t _=>n-(intOf t).toNat)
 case atStart=>exact⟨0,cur0,jn _,rfl,HOWN2,zO (by simp[vcells]),zO (Fr.refl _ _)⟩
 case round =>
  obtain⟨j,cur,hj,rfl,HOW,HTK,HFR⟩:=hrel
  obtain⟨W,rfl⟩:∃W:World,W=wr:=⟨_,rfl⟩
  have hxw:Ext w W:=HFR.out.new HX2.out (fun b hb=>by omega)
  have HXW:=zO hxw
  have HKW:=zO (HKB2.out.fr HFR.out (by omega))
  by_cases hlt:j<n
  ·have i1:(0:Int)≤(j:Int):=by omega
   have i2:(j:Int)<(n:Int):=by omega
   have hjc:j<cols.length:=by have:=HN.out;omega
   have hjk:j<cs.length:=by have:=HKL.out;omega
   obtain⟨ad,rfl,-,c0⟩:=HCL.out.int hjc
   obtain⟨kd,rfl,-,v0,v1,v2⟩:=HK.out.vl hjk
   replace c0:=hxw.cell c0;replace v0:=hxw.cell v0;replace v1:=hxw.cell v1;replace v2:=hxw.cell v2
   have htk:(imgR cols cs xs).take (j+1)=(imgR cols cs xs).take j++[if 0≤cols[j] then xs.getD cols[j].toNat zv else cs[j]]:=by
    rw[jj (by simp only[imgR,List.length_zipWith];omega)]
    simp only[imgR,List.getElem_zipWith]
   have hbd:=HBD.out _ (jg hjc)
   obtain⟨x,hx⟩:∃x,x=cols[j]:=⟨_,rfl⟩
   obtain⟨v,hv⟩:∃v,v=cs[j]:=⟨_,rfl⟩
   rw[←hx]at c0 htk hbd
   rw[←hv]at v0 v1 v2 htk
   obtain⟨vk,vi,vs⟩:=v
   simp only at v0 v1 v2
   have k3:=HKW.out.cell (i:=3) (by simp)
   simp only[ja,je]at k3
   obtain⟨⟨o0,p0⟩,f0⟩:=own_cellS HOW.out (i:=j*3) (by omega)
   obtain⟨⟨o1,p1⟩,f1⟩:=own_cellS HOW.out (i:=j*3+1) (by omega)
   obtain⟨⟨o2,p2⟩,f2⟩:=own_cellS HOW.out (i:=j*3+2) (by omega)
   have ho1:=own_setc HOW.out (i:=j*3) (by omega) (.int .i64 vk)
   have ho2:=own_setc ho1 (i:=j*3+1) (by omega) (.int .i64 vi)
   have ho3:=own_setc ho2 (i:=j*3+2) (by omega) (.string vs)
   have hf3:Fr (fun b=>b=g) W (((W.setCell ⟨g,j*3,none⟩ (.int .i64 vk)).setCell ⟨g,j*3+1,none⟩ (.int .i64 vi)).setCell ⟨g,j*3+2,none⟩ (.string vs)):=(((Fr.refl (fun b=>b=g) W).setCell (p:=⟨g,j*3,none⟩) (.inl rfl) (.int .i64 vk)).setCell (p:=⟨g,j*3+1,none⟩) (.inl rfl) (.int .i64 vi)).setCell (p:=⟨g,j*3+2,none⟩) (.inl rfl) (.string vs)
   have HO3:=zO ho3;have HF3:=zO hf3
   have hcl:cur.length=n*3:=HOW.out.1
   have HT3:=zO (take_set3 hcl hlt HTK.out (.int .i64 vk) (.int .i64 vi) (.string vs))
   have HT4:Hid ((((cur.set (j*3) (.int .i64 vk)).set (j*3+1) (.int .i64 vi)).set (j*3+2) (.string vs)).take (j*3)=vcells ((imgR cols cs xs).take j)):=zO (take_set_ge (take_set_ge (take_set_ge HTK.out (jq _) _) (by omega) _) (by omega) _)
   have HCL3:Hid ((((cur.set (j*3) (.int .i64 vk)).set (j*3+1) (.int .i64 vi)).set (j*3+2) (.string vs)).length=n*3):=zO (by simp only[zc];exact hcl)
   have HTE:=zO htk
   clear hx hv ho1 ho2 ho3 hf3 hcl htk hjc hjk
   generalize ((cur.set (j*3) (.int .i64 vk)).set (j*3+1) (.int .i64 vi)).set (j*3+2) (.string vs)=cur3 at *
   go_upto_region 6 with fail
   clear c0 v0 v1 v2 k3 o0 p0 f0 o1 p1 f1 o2 p2 f2
   generalize (((W.setCell ⟨g,j*3,none⟩ (.int .i64 vk)).setCell ⟨g,j*3+1,none⟩ (.int .i64 vi)).setCell ⟨g,j*3+2,none⟩ (.string vs))=W3 at *
   by_cases hx0:x<0
   ·have g1:decide ((0:Int)≤x)=false:=decide_eq_false (by omega)
    have HTF:Hid (cur3.take ((j+1)*3)=vcells ((imgR cols cs xs).take (j+1))):=zO (by
     rw[HT3.out,HTE.out,if_neg (by omega),vcells_app2];rfl)
    clear hx0 hxw
    go_wp2_with fail
    go_roundw
    case rel=>exact⟨j+1,cur3,by omega,by go_num,HO3,HTF,zO (HFR.out.trans HF3.out)⟩
    case measure=>simp[intOf];omega
   ·obtain⟨q,rfl⟩:∃q:Nat,x=(q:Int):=⟨x.toNat,by omega⟩
    have g1:decide ((0:Int)≤(q:Int))=true:=decide_eq_true (by omega)
    have q1:(0:Int)≤(q:Int):=by omega
    have q2:(q:Int)<(m:Int):=by omega
    have hqx:q<xs.length:=by have:=HML.out;omega
    obtain⟨bd,rfl,-,b0,b1,b2⟩:=HB.out.vl hqx
    have hne:(bd.add (q*3)).block≠g:=by
     have h1:(bd.add (q*3)).block<w.heap.size:=cell_lt b0
     omega
    replace b0:=HF3.out.cell (hxw.cell b0) hne;replace b1:=HF3.out.cell (hxw.cell b1) hne;replace b2:=HF3.out.cell (hxw.cell b2) hne
    have hgd:xs.getD q zv=xs[q]:=by simp[jk hqx]
    obtain⟨y,hy⟩:∃y,y=xs[q]:=⟨_,rfl⟩
    rw[←hy]at b0 b1 b2 hgd
    obtain⟨yk,yi,ys⟩:=y
    simp only at b0 b1 b2
    obtain⟨⟨o0,p0⟩,f0⟩:=own_cellS HO3.out (i:=j*3) (by omega)
    obtain⟨⟨o1,p1⟩,f1⟩:=own_cellS HO3.out (i:=j*3+1) (by omega)
    obtain⟨⟨o2,p2⟩,f2⟩:=own_cellS HO3.out (i:=j*3+2) (by omega)
    have ho1:=own_setc HO3.out (i:=j*3) (by omega) (.int .i64 yk)
    have ho2:=own_setc ho1 (i:=j*3+1) (by omega) (.int .i64 yi)
    have ho3:=own_setc ho2 (i:=j*3+2) (by omega) (.string ys)
    have hf4:Fr (fun b=>b=g) W3 (((W3.setCell ⟨g,j*3,none⟩ (.int .i64 yk)).setCell ⟨g,j*3+1,none⟩ (.int .i64 yi)).setCell ⟨g,j*3+2,none⟩ (.string ys)):=(((Fr.refl (fun b=>b=g) W3).setCell (p:=⟨g,j*3,none⟩) (.inl rfl) (.int .i64 yk)).setCell (p:=⟨g,j*3+1,none⟩) (.inl rfl) (.int .i64 yi)).setCell (p:=⟨g,j*3+2,none⟩) (.inl rfl) (.string ys)
    have HO4:=zO ho3;have HF4:=zO (HFR.out.trans (HF3.out.trans hf4))
    have HTF:Hid ((((cur3.set (j*3) (.int .i64 yk)).set (j*3+1) (.int .i64 yi)).set (j*3+2) (.string ys)).take ((j+1)*3)=vcells ((imgR cols cs xs).take (j+1))):=zO (by
     rw[take_set3 HCL3.out hlt HT4.out,HTE.out,if_pos q1,vcells_app2,jO,hgd];rfl)
    clear hx0 hxw hbd hqx hgd hy ho1 ho2 ho3 hf4 hne
    go_wp2_with fail
    go_roundw
    case rel=>exact⟨j+1,_,by omega,by go_num,HO4,HTF,HF4⟩
    case measure=>simp[intOf];omega
  ·obtain rfl:j=n:=by omega
   have hdj:¬(j:Int)<(j:Int):=by omega
   have hll:(imgR cols cs xs).length=j:=by
    have h1:=HN.out;have h2:=HKL.out
    simp only[imgR,List.length_zipWith];omega
   have HRES:Hid (Sl rdVl (fun k=>w.heap.size≤k) W (.slice (some ⟨g,0,none⟩) j j) (imgR cols cs xs)):=zO (by
    have h1:=HTK.out
    rw[jo (by have:=HOW.out.1;omega),jo (by omega)]at h1
    have h2:=HOW.out
    rw[h1]at h2
    exact(own_vls h2).mono (by decide) (fun k _ hk=>by omega))
   have hsr:=HSE.out W hxw _ _ _ _ HRES.out
   unfold SrPost at hsr
   rw[←HZ.out]at hsr
   have HSR:=zO hsr
   have k0:=HKW.out.cell (i:=0) (by simp);have k1:=HKW.out.cell (i:=1) (by simp)
   simp only[ja,je]at k0 k1
   clear hll hsr hxw
   go_wp2_with fail
   refine HSR.out.mono ?_
   rintro e w3 ⟨he3,rfl⟩
   have HX3:=zO (HXW.out.trans he3)
   clear k0 k1 he3
   go_wp2_with fail
   go_ret
   exact Ret.mk HX3.out rfl
end Go.Proofs.YtplldnnnhgnbjaaGreatDoor
namespace Go.Proofs.YtplldnnnhgnbjaaGreatDoor
open Go.RowKit Go.Maps
def numN(vars:List ByteArray)(s:ByteArray):Int:=if s=⟨#[]⟩ then -1 else if s∈vars then (posN vars s:Int) else 0
structure NsT where
 bound:List Nat
 key:List Nat
 fresh:List Nat
 frm:List Nat
def nsStep(B:List Nat)(s:NsT)(v:Int)(j:Nat):NsT :=
 if v<0 then s else if v.toNat∈B then ⟨s.bound++[v.toNat],s.key++[j],s.fresh,s.frm⟩ else if v.toNat∈s.fresh then s else ⟨s.bound,s.key,s.fresh++[v.toNat],s.frm++[j]⟩
def nsAt(B:List Nat)(nv:List Int):Nat→NsT
 | 0=>⟨[],[],[],[]⟩
 | j+1=>nsStep B (nsAt B nv j) (nv.getD j (-1)) j
def numsN(vars:List ByteArray)(ts:List Tm):List Int:=ts.map (fun t=>numN vars t.var)
def nsOf(vars:List ByteArray)(B:List Nat)(ts:List Tm):NsT:=nsAt B (numsN vars ts) ts.length
structure NsOk(B:List Nat)(nv:List Int)(j:Nat)(s:NsT):Prop where
 l1:s.bound.length=s.key.length
 l2:s.fresh.length=s.frm.length
 nd:s.fresh.Nodup
 bd:∀v i,(v,i)∈s.bound.zip s.key↔i<j∧nv[i]?=some (v:Int)∧v∈B
 fr:∀v c,(v,c)∈s.fresh.zip s.frm↔c<j∧nv[c]?=some (v:Int)∧v ∉ B∧∀i<c,nv[i]?≠some (v:Int)
theorem mem_zip_left:∀{l m:List Nat} {v:Nat},l.length=m.length→v∈l→∃c,(v,c)∈l.zip m
 | a::l,b::m,v,hl,hv=>by
  rcases jC.1 hv with rfl|hv
  ·exact⟨b,by simp⟩
  ·obtain⟨c,hc⟩:=mem_zip_left (l:=l) (m:=m) (by simpa using hl) hv
   exact⟨c,by rw[List.zip_cons_cons];exact jr _ hc⟩
 | a::l,[],v,hl,hv=>by simp at hl
theorem NsOk.mem{B:List Nat}{nv:List Int}{j:Nat}{s:NsT}(h:NsOk B nv j s){v:Nat}:v∈s.fresh↔v ∉ B∧∃c,c<j∧nv[c]?=some (v:Int):=by
 constructor
 ·intro hv
  obtain⟨c,hc⟩:=mem_zip_left h.l2 hv
  obtain⟨h1,h2,h3,-⟩:=(h.fr v c).1 hc
  exact⟨h3,c,h1,h2⟩
 ·rintro⟨h1,c,h2,h3⟩
  have key:∀c,c<j→nv[c]?=some (v:Int)→v∈s.fresh:=by
   intro c
   induction c using Nat.strongRecOn with
   | ind c ih =>
    intro k1 k2
    by_cases he:∃i,i<c∧nv[i]?=some (v:Int)
    ·obtain⟨i,i1,i2⟩:=he
     exact ih i i1 (by omega) i2
    ·exact(List.of_mem_zip ((h.fr v c).2 ⟨k1,k2,h1,fun i hi e=>he ⟨i,hi,e⟩⟩)).1
  exact key c h2 h3
theorem zip_app{l m:List Nat}{a b:Nat}(h:l.length=m.length):(l++[a]).zip (m++[b])=l.zip m++[(a,b)]:=by rw[List.zip_append h];rfl
theorem nsAt_ok(B:List Nat)(nv:List Int):∀j,j≤nv.length→NsOk B nv j (nsAt B nv j)
 | 0,_=>⟨rfl,rfl,List.nodup_nil,fun v i=>by simp[nsAt],fun v c=>by simp[nsAt]⟩
 | j+1,hj=>by
  have ih:=nsAt_ok B nv j (by omega)
  have hjl:j<nv.length:=by omega
  have hg:nv.getD j (-1)=nv[j]:=by rw[jF,jk hjl];rfl
  have hq:nv[j]?=some nv[j]:=jk hjl
  show NsOk B nv (j+1) (nsStep B (nsAt B nv j) (nv.getD j (-1)) j)
  rw[hg]
  generalize nsAt B nv j=s at ih
  generalize nv[j]=x at hq
  unfold nsStep
  have hlt:∀i,i<j+1↔i<j∨i=j:=fun i=>by omega
  by_cases h0:x<0
  ·rw[if_pos h0]
   have hno:∀v:Nat,nv[j]?≠some (v:Int):=fun v e=>by
    rw[hq]at e
    injection e with e
    omega
   refine⟨ih.l1,ih.l2,ih.nd,fun v i=>?_,fun v c=>?_⟩
   ·rw[ih.bd,hlt]
    constructor
    ·rintro⟨h1,h2⟩;exact⟨.inl h1,h2⟩
    ·rintro⟨h1|rfl,h2⟩
     ·exact⟨h1,h2⟩
     ·exact absurd h2.1 (hno v)
   ·rw[ih.fr,hlt]
    constructor
    ·rintro⟨h1,h2⟩;exact⟨.inl h1,h2⟩
    ·rintro⟨h1|rfl,h2⟩
     ·exact⟨h1,h2⟩
     ·exact absurd h2.1 (hno v)
  ·rw[if_neg h0]
   obtain⟨u,rfl⟩:∃u:Nat,x=(u:Int):=⟨x.toNat,by omega⟩
   rw[jO]
   have hone:∀v:Nat,nv[j]?=some (v:Int)↔v=u:=fun v=>by
    rw[hq]
    constructor
    ·intro e;injection e with e;omega
    ·rintro rfl;rfl
   by_cases h1:u∈B
   ·rw[if_pos h1]
    refine⟨by simp[ih.l1],ih.l2,ih.nd,fun v i=>?_,fun v c=>?_⟩
    ·show (v,i)∈(s.bound++[u]).zip (s.key++[j])↔_
     rw[zip_app ih.l1,jp,ih.bd,hlt,jt,Prod.mk.injEq]
     constructor
     ·rintro(⟨k1,k2⟩|⟨rfl,rfl⟩)
      ·exact⟨.inl k1,k2⟩
      ·exact⟨.inr rfl,(hone v).2 rfl,h1⟩
     ·rintro⟨k1|rfl,k2⟩
      ·exact .inl ⟨k1,k2⟩
      ·exact .inr ⟨(hone v).1 k2.1,rfl⟩
    ·show (v,c)∈s.fresh.zip s.frm↔_
     rw[ih.fr,hlt]
     constructor
     ·rintro⟨k1,k2⟩;exact⟨.inl k1,k2⟩
     ·rintro⟨k1|rfl,k2⟩
      ·exact⟨k1,k2⟩
      ·rw[(hone v).1 k2.1]at k2
       exact absurd h1 k2.2.1
   ·rw[if_neg h1]
    by_cases h2:u∈s.fresh
    ·rw[if_pos h2]
     obtain⟨-,c0,hc1,hc2⟩:=ih.mem.1 h2
     refine⟨ih.l1,ih.l2,ih.nd,fun v i=>?_,fun v c=>?_⟩
     ·rw[ih.bd,hlt]
      constructor
      ·rintro⟨k1,k2⟩;exact⟨.inl k1,k2⟩
      ·rintro⟨k1|rfl,k2⟩
       ·exact⟨k1,k2⟩
       ·rw[(hone v).1 k2.1]at k2
        exact absurd k2.2 h1
     ·rw[ih.fr,hlt]
      constructor
      ·rintro⟨k1,k2⟩;exact⟨.inl k1,k2⟩
      ·rintro⟨k1|rfl,k2⟩
       ·exact⟨k1,k2⟩
       ·rw[(hone v).1 k2.1]at k2
        exact absurd hc2 (k2.2.2 c0 hc1)
    ·rw[if_neg h2]
     have hnone:∀i,i<j→nv[i]?≠some (u:Int):=fun i hi e=>h2 (ih.mem.2 ⟨h1,i,hi,e⟩)
     refine⟨ih.l1,by simp[ih.l2],?_,fun v i=>?_,fun v c=>?_⟩
     ·rw[List.nodup_append]
      exact⟨ih.nd,by simp,fun a ha b hb e=>by
       rw[jt]at hb
       subst hb
       subst e
       exact h2 ha⟩
     ·show (v,i)∈s.bound.zip s.key↔_
      rw[ih.bd,hlt]
      constructor
      ·rintro⟨k1,k2⟩;exact⟨.inl k1,k2⟩
      ·rintro⟨k1|rfl,k2⟩
       ·exact⟨k1,k2⟩
       ·rw[(hone v).1 k2.1]at k2
        exact absurd k2.2 h1
     ·show (v,c)∈(s.fresh++[u]).zip (s.frm++[j])↔_
      rw[zip_app ih.l2,jp,ih.fr,hlt,jt,Prod.mk.injEq]
      constructor
      ·rintro(⟨k1,k2⟩|⟨rfl,rfl⟩)
       ·exact⟨.inl k1,k2⟩
       ·exact⟨.inr rfl,(hone v).2 rfl,h1,hnone⟩
      ·rintro⟨k1|rfl,k2⟩
       ·exact .inl ⟨k1,k2⟩
       ·exact .inr ⟨(hone v).1 k2.1,rfl⟩
theorem nsOf_ok(vars:List ByteArray)(B:List Nat)(ts:List Tm):NsOk B (numsN vars ts) ts.length (nsOf vars B ts):=nsAt_ok B _ _ (by simp[numsN])
def frmOf(s:NsT)(v:Nat):Option Nat:=((s.fresh.zip s.frm).find? (fun p=>decide (p.1=v))).map Prod.snd
theorem nd_zip:∀{l m:List Nat},l.Nodup→∀{v c d:Nat},(v,c)∈l.zip m→(v,d)∈l.zip m→c=d
 | [],_,_,_,_,_,h,_=>by simp at h
 | _::_,[],_,_,_,_,h,_=>by simp at h
 | a::l,b::m,hn,v,c,d,h1,h2=>by
  rw[zM]at hn
  rw[List.zip_cons_cons]at h1 h2
  rcases jC.1 h1 with e1|e1 <;> rcases jC.1 h2 with e2|e2
  ·injection e1 with _ e1;injection e2 with _ e2;omega
  ·injection e1 with e1 _;exact absurd (List.of_mem_zip e2).1 (e1 ▸ hn.1)
  ·injection e2 with e2 _;exact absurd (List.of_mem_zip e1).1 (e2 ▸ hn.1)
  ·exact nd_zip hn.2 e1 e2
theorem frmOf_some{s:NsT}(hn:s.fresh.Nodup){v c:Nat}:frmOf s v=some c↔(v,c)∈s.fresh.zip s.frm:=by
 unfold frmOf
 rw[Option.map_eq_some_iff]
 constructor
 ·rintro⟨⟨a,b⟩,h1,rfl⟩
  have h2:=List.find?_some h1
  simp only[decide_eq_true_eq]at h2
  subst h2
  exact List.mem_of_find?_eq_some h1
 ·intro h
  cases hf:(s.fresh.zip s.frm).find? (fun p=>decide (p.1=v)) with
  | none=>exact absurd (decide_eq_true rfl) (List.find?_eq_none.1 hf (v,c) h)
  | some p =>
   have h2:=List.find?_some hf
   simp only[decide_eq_true_eq]at h2
   have h3:=List.mem_of_find?_eq_some hf
   obtain⟨a,b⟩:=p
   simp only at h2
   subst h2
   exact⟨(a,b),rfl,nd_zip hn h3 h⟩
theorem frmOf_none{s:NsT}(hl:s.fresh.length=s.frm.length){v:Nat}:frmOf s v=none↔v ∉ s.fresh:=by
 unfold frmOf
 rw[Option.map_eq_none_iff,List.find?_eq_none]
 constructor
 ·intro h hv
  obtain⟨c,hc⟩:=mem_zip_left hl hv
  exact absurd (decide_eq_true rfl) (h (v,c) hc)
 ·intro h p hp
  simp only[decide_eq_true_eq]
  rintro rfl
  exact h (List.of_mem_zip (a:=p.1) (b:=p.2) hp).1
def mtC(vars:List ByteArray)(s:NsT)(x:List Vl)(t:Tm)(j:Nat):Bool:=if t.var=⟨#[]⟩ then decide (x.getD j zv=t.vl) else match frmOf s (numN vars t.var).toNat with|none=>true|some c=>decide (x.getD j zv=x.getD c zv)
def holdV(v:Vl)(c:Cd):Bool:=holdI c.op (cmpV v ⟨c.kind,c.int,c.str⟩)
def cdsAt(vars:List ByteArray)(cds:List Cd)(v:Nat):List Cd:=cds.filter (fun c=>decide (numN vars c.var=(v:Int)))
abbrev zt:Tm:=⟨⟨#[]⟩,0,0,⟨#[]⟩⟩
def mtB(vars:List ByteArray)(ts:List Tm)(cds:List Cd)(s:NsT)(x:List Vl):Bool :=
 (List.range ts.length).all (fun j=>mtC vars s x (ts.getD j zt) j) && (s.fresh.zip s.frm).all (fun p=>(cdsAt vars cds p.1).all (holdV (x.getD p.2 zv)))
def rowsD(M:Dm)(s:ByteArray):List (List Vl):=((M s).map (fun x=>x.rel.rows)).getD []
def stpOf(vars:List ByteArray)(M:Dm)(cds:List Cd)(B:List Nat)(a:At)(bad:List Vl→Bool):Stp :=
 ⟨(rowsD M a.rel).filter (mtB vars a.terms cds (nsOf vars B a.terms)),(nsOf vars B a.terms).key,(nsOf vars B a.terms).bound,(nsOf vars B a.terms).fresh,(nsOf vars B a.terms).frm,bad⟩
def rowOf(vars:List ByteArray)(y:List Vl)(ts:List Tm):List Vl:=ts.map (fun t=>if t.var=⟨#[]⟩ then t.vl else y.getD (posN vars t.var) zv)
theorem pick_zip{c z:List Vl}:∀{k b:List Nat},b.length=k.length→(pickN c k=pickN z b↔∀v i,(v,i)∈b.zip k→c.getD i zv=z.getD v zv)
 | [],[],_=>by simp[pickN]
 | [],_::_,h=>by simp at h
 | _::_,[],h=>by simp at h
 | i::k,v::b,h=>by
  have ih:=pick_zip (c:=c) (z:=z) (k:=k) (b:=b) (by simpa using h)
  unfold pickN at ih ⊢
  rw[zf,zf,List.cons.injEq,ih,List.zip_cons_cons]
  constructor
  ·rintro⟨h1,h2⟩ v' i' hm
   rcases jC.1 hm with e|hm
   ·injection e with e1 e2;subst e1;subst e2;exact h1
   ·exact h2 v' i' hm
  ·intro h1
   exact⟨h1 v i (by simp),fun v' i' hm=>h1 v' i' (jr _ hm)⟩
theorem nd_inj{α : Type}{l:List α}(h:l.Nodup){i j:Nat}(hi:i<l.length)(hj:j<l.length)(e:l[i]=l[j]):i=j:=by
 have hp:=zk.1 (show l.Pairwise (·≠·) from h)
 rcases Nat.lt_trichotomy i j with h1|h1|h1
 ·exact absurd e (hp i j hi hj h1)
 ·exact h1
 ·exact absurd e.symm (hp j i hj hi h1)
theorem nums_at{vars:List ByteArray}{ts:List Tm}{j:Nat}(hj:j<ts.length):(numsN vars ts)[j]?=some (numN vars ts[j].var):=by unfold numsN;rw[zG,jk hj];rfl
theorem rowOf_len{vars:List ByteArray}{y:List Vl}{ts:List Tm}:(rowOf vars y ts).length=ts.length:=by simp[rowOf]
theorem rowOf_get{vars:List ByteArray}{y:List Vl}{ts:List Tm}{k:Nat}(hk:k<ts.length):(rowOf vars y ts).getD k zv=if ts[k].var=⟨#[]⟩ then ts[k].vl else y.getD (posN vars ts[k].var) zv:=by
 unfold rowOf
 rw[jF,zG,jk hk]
 rfl
theorem getD_at{α : Type}{l:List α}{d : α}{k:Nat}(hk:k<l.length):l.getD k d=l[k]:=by rw[jF,jk hk];rfl
theorem num_var{vars:List ByteArray}{s:ByteArray}(h0:s≠⟨#[]⟩)(h1:s∈vars):numN vars s=(posN vars s:Int):=by unfold numN;rw[if_neg h0,if_pos h1]
theorem num_nat{vars:List ByteArray}{s:ByteArray}{v:Nat}(hc:s≠⟨#[]⟩→s∈vars)(h:numN vars s=(v:Int)):s≠⟨#[]⟩∧s∈vars∧posN vars s=v:=by
 by_cases h0:s=⟨#[]⟩
 ·unfold numN at h
  rw[if_pos h0]at h
  omega
 ·rw[num_var h0 (hc h0)]at h
  exact⟨h0,hc h0,by omega⟩
section
variable {vars:List ByteArray} {B:List Nat} {ts:List Tm} {cds:List Cd} {x z:List Vl}
theorem bd_at(hc:∀t∈ts,t.var≠⟨#[]⟩→t.var∈vars){v i:Nat}:(v,i)∈(nsOf vars B ts).bound.zip (nsOf vars B ts).key↔v∈B∧∃hi:i<ts.length,ts[i].var≠⟨#[]⟩∧posN vars ts[i].var=v:=by
 rw[(nsOf_ok vars B ts).bd]
 constructor
 ·rintro⟨h1,h2,h3⟩
  rw[nums_at h1]at h2
  injection h2 with h2
  obtain⟨k1,-,k3⟩:=num_nat (hc _ (jg h1)) h2
  exact⟨h3,h1,k1,k3⟩
 ·rintro⟨h3,h1,k1,rfl⟩
  exact⟨h1,by rw[nums_at h1,num_var k1 (hc _ (jg h1) k1)],h3⟩
theorem fr_at(hc:∀t∈ts,t.var≠⟨#[]⟩→t.var∈vars){v i:Nat}(h:(v,i)∈(nsOf vars B ts).fresh.zip (nsOf vars B ts).frm):v ∉ B∧∃hi:i<ts.length,ts[i].var≠⟨#[]⟩∧posN vars ts[i].var=v:=by
 obtain⟨h1,h2,h3,-⟩:=((nsOf_ok vars B ts).fr v i).1 h
 rw[nums_at h1]at h2
 injection h2 with h2
 obtain⟨k1,-,k3⟩:=num_nat (hc _ (jg h1)) h2
 exact⟨h3,h1,k1,k3⟩
theorem fresh_iff(hc:∀t∈ts,t.var≠⟨#[]⟩→t.var∈vars){v:Nat}:v∈(nsOf vars B ts).fresh↔v ∉ B∧∃t∈ts,t.var≠⟨#[]⟩∧posN vars t.var=v:=by
 rw[(nsOf_ok vars B ts).mem]
 constructor
 ·rintro⟨h3,i,h1,h2⟩
  rw[nums_at h1]at h2
  injection h2 with h2
  obtain⟨k1,-,k3⟩:=num_nat (hc _ (jg h1)) h2
  exact⟨h3,_,jg h1,k1,k3⟩
 ·rintro⟨h3,t,ht,k1,rfl⟩
  obtain⟨i,hi,rfl⟩:=jv ht
  exact⟨h3,i,hi,by rw[nums_at hi,num_var k1 (hc _ (jg hi) k1)]⟩
theorem row_eq(hc:∀t∈ts,t.var≠⟨#[]⟩→t.var∈vars)(hl:x.length=ts.length)(hm:(List.range ts.length).all (fun j=>mtC vars (nsOf vars B ts) x (ts.getD j zt) j)=true)(h1:∀v i,(v,i)∈(nsOf vars B ts).bound.zip (nsOf vars B ts).key→x.getD i zv=z.getD v zv)(h2:∀v i,(v,i)∈(nsOf vars B ts).fresh.zip (nsOf vars B ts).frm→x.getD i zv=z.getD v zv):x=rowOf vars z ts:=by
 refine jY (by rw[rowOf_len,hl]) (fun k hk hk2=>?_)
 have hkt:k<ts.length:=by omega
 rw[←getD_at (d:=zv) hk,←getD_at (d:=zv) hk2,rowOf_get hkt]
 have h3:=jz.1 hm k (by simpa using hkt)
 simp only[getD_at hkt]at h3
 unfold mtC at h3
 by_cases h0:ts[k].var=⟨#[]⟩
 ·rw[if_pos h0]at h3 ⊢
  simpa using h3
 ·rw[if_neg h0]at h3 ⊢
  have hmem:=hc _ (jg hkt) h0
  rw[num_var h0 hmem,jO]at h3
  by_cases hB:posN vars ts[k].var∈B
  ·exact h1 _ k ((bd_at hc).2 ⟨hB,hkt,h0,rfl⟩)
  ·have hf:posN vars ts[k].var∈(nsOf vars B ts).fresh:=(fresh_iff hc).2 ⟨hB,_,jg hkt,h0,rfl⟩
   obtain⟨c,hcz⟩:=mem_zip_left (nsOf_ok vars B ts).l2 hf
   rw[(frmOf_some (nsOf_ok vars B ts).nd).2 hcz]at h3
   simp only[decide_eq_true_eq]at h3
   rw[h3]
   exact h2 _ _ hcz
theorem row_two{y:List Vl}(hc:∀t∈ts,t.var≠⟨#[]⟩→t.var∈vars)(hx:x.length=ts.length)(hy:y.length=ts.length)(hm:(List.range ts.length).all (fun j=>mtC vars (nsOf vars B ts) x (ts.getD j zt) j)=true)(hn:(List.range ts.length).all (fun j=>mtC vars (nsOf vars B ts) y (ts.getD j zt) j)=true)(h1:∀i∈(nsOf vars B ts).key,x.getD i zv=y.getD i zv)(h2:∀i∈(nsOf vars B ts).frm,x.getD i zv=y.getD i zv):x=y:=by
 refine jY (by omega) (fun k hk hk2=>?_)
 have hkt:k<ts.length:=by omega
 rw[←getD_at (d:=zv) hk,←getD_at (d:=zv) hk2]
 have h3:=jz.1 hm k (by simpa using hkt)
 have h4:=jz.1 hn k (by simpa using hkt)
 simp only[getD_at hkt]at h3 h4
 unfold mtC at h3 h4
 by_cases h0:ts[k].var=⟨#[]⟩
 ·rw[if_pos h0]at h3 h4
  simp only[decide_eq_true_eq]at h3 h4
  rw[h3,h4]
 ·rw[if_neg h0]at h3 h4
  have hmem:=hc _ (jg hkt) h0
  rw[num_var h0 hmem,jO]at h3 h4
  by_cases hB:posN vars ts[k].var∈B
  ·exact h1 k (List.of_mem_zip ((bd_at (B:=B) hc).2 ⟨hB,hkt,h0,rfl⟩)).2
  ·have hf:posN vars ts[k].var∈(nsOf vars B ts).fresh:=(fresh_iff hc).2 ⟨hB,_,jg hkt,h0,rfl⟩
   obtain⟨c,hcz⟩:=mem_zip_left (nsOf_ok vars B ts).l2 hf
   rw[(frmOf_some (nsOf_ok vars B ts).nd).2 hcz]at h3 h4
   simp only[decide_eq_true_eq]at h3 h4
   rw[h3,h4]
   exact h2 c (List.of_mem_zip hcz).2
theorem stp_sat{M:Dm}{a:At}{bad:List Vl→Bool}(hc:∀t∈a.terms,t.var≠⟨#[]⟩→t.var∈vars)(hr:∀x∈rowsD M a.rel,x.length=a.terms.length) :
  stSat (stpOf vars M cds B a bad) z↔rowOf vars z a.terms∈rowsD M a.rel∧(∀v∈(nsOf vars B a.terms).fresh,∀c∈cdsAt vars cds v,holdV (z.getD v zv) c=true)∧bad z=false:=by
 unfold stSat stpOf
 have ho:=nsOf_ok vars B a.terms
 simp only
 constructor
 ·rintro⟨⟨c,hcm,h1,h2⟩,h3⟩
  obtain⟨m1,m2⟩:=jA.1 hcm
  unfold mtB at m2
  rw[Bool.and_eq_true]at m2
  have k1:=(pick_zip (b:=(nsOf vars B a.terms).bound) (k:=(nsOf vars B a.terms).key) ho.l1).1 h1
  have k2:=(pick_zip (b:=(nsOf vars B a.terms).fresh) (k:=(nsOf vars B a.terms).frm) ho.l2).1 h2.symm
  have he:=row_eq (z:=z) hc (hr c m1) m2.1 k1 k2
  refine⟨he ▸ m1,fun v hv d hd=>?_,h3⟩
  obtain⟨i,hi⟩:=mem_zip_left ho.l2 hv
  have h4:=jz.1 m2.2 (v,i) hi
  have h5:=jz.1 h4 d hd
  rw[←k2 v i hi]
  exact h5
 ·rintro⟨h1,h2,h3⟩
  have k1:∀v i,(v,i)∈(nsOf vars B a.terms).bound.zip (nsOf vars B a.terms).key→(rowOf vars z a.terms).getD i zv=z.getD v zv:=fun v i hi=>by
   obtain⟨-,hil,h0,rfl⟩:=(bd_at hc).1 hi
   rw[rowOf_get hil,if_neg h0]
  have k2:∀v i,(v,i)∈(nsOf vars B a.terms).fresh.zip (nsOf vars B a.terms).frm→(rowOf vars z a.terms).getD i zv=z.getD v zv:=fun v i hi=>by
   obtain⟨-,hil,h0,rfl⟩:=fr_at hc hi
   rw[rowOf_get hil,if_neg h0]
  refine⟨⟨rowOf vars z a.terms,jA.2 ⟨h1,?_⟩,(pick_zip ho.l1).2 k1,((pick_zip ho.l2).2 k2).symm⟩,h3⟩
  unfold mtB
  rw[Bool.and_eq_true]
  refine⟨jz.2 (fun j hj=>?_),jz.2 (fun p hp=>jz.2 (fun d hd=>?_))⟩
  ·have hjt:j<a.terms.length:=by simpa using hj
   simp only[getD_at hjt]
   unfold mtC
   by_cases h0:a.terms[j].var=⟨#[]⟩
   ·rw[if_pos h0,rowOf_get hjt,if_pos h0]
    simp
   ·rw[if_neg h0,num_var h0 (hc _ (jg hjt) h0),jO]
    cases hf:frmOf (nsOf vars B a.terms) (posN vars a.terms[j].var) with
    | none=>rfl
    | some c =>
     have hcz:=(frmOf_some ho.nd).1 hf
     simp only[decide_eq_true_eq]
     rw[k2 _ _ hcz,rowOf_get hjt,if_neg h0]
  ·obtain⟨v,i⟩:=p
   simp only at hd ⊢
   rw[k2 v i hp]
   exact h2 v (List.of_mem_zip hp).1 d hd
theorem stp_ok{M:Dm}{a:At}{bad:List Vl→Bool}(hc:∀t∈a.terms,t.var≠⟨#[]⟩→t.var∈vars)(hr:∀x∈rowsD M a.rel,x.length=a.terms.length)(hnd:(rowsD M a.rel).Nodup)(hb:∀y z,agr (B++(nsOf vars B a.terms).fresh) y z→bad y=bad z):StOk vars.length B (stpOf vars M cds B a bad) where
 len:=(nsOf_ok vars B a.terms).l2
 nd:=(nsOf_ok vars B a.terms).nd
 new:=fun i hi=>by
  obtain⟨h1,t,ht,h2,rfl⟩:=(fresh_iff hc).1 hi
  exact⟨h1,pos_lt (hc t ht h2)⟩
 bd:=fun i hi=>by
  obtain⟨c,hcz⟩:=mem_zip_left (nsOf_ok vars B a.terms).l1 hi
  exact((bd_at hc).1 hcz).1
 rows:=hnd.sublist List.filter_sublist
 det:=fun c hcm d hdm h1 h2=>by
  have ho:=nsOf_ok vars B a.terms
  obtain⟨c1,c2⟩:=jA.1 hcm
  obtain⟨d1,d2⟩:=jA.1 hdm
  unfold mtB at c2 d2
  rw[Bool.and_eq_true]at c2 d2
  unfold pickN at h1 h2
  exact row_two hc (hr c c1) (hr d d1) c2.1 d2.1 (fun i hi=>List.map_inj_left.1 h1 i hi) (fun i hi=>List.map_inj_left.1 h2 i hi)
 bad:=hb
end
def stepsL(vars:List ByteArray)(M:Dm)(cds:List Cd)(bad:Nat→List Vl→Bool):List At→List Nat→Nat→List Stp
 | [],_,_=>[]
 | a::l,B,k=>stpOf vars M cds B a (bad (k+1))::stepsL vars M cds bad l (B++(nsOf vars B a.terms).fresh) (k+1)
def bndL(vars:List ByteArray):List At→List Nat→List Nat
 | [],B=>B
 | a::l,B=>bndL vars l (B++(nsOf vars B a.terms).fresh)
def bdL(vars:List ByteArray):List At→List Nat→Nat→(Nat→Nat)→Nat→Nat
 | [],_,_,bd=>bd
 | a::l,B,k,bd=>bdL vars l (B++(nsOf vars B a.terms).fresh) (k+1) (fun v=>if v∈(nsOf vars B a.terms).fresh then k+1 else bd v)
def lastN(bd:Nat→Nat):List Int→Nat→Nat
 | [],m=>m
 | v::l,m=>lastN bd l (if v<0 then m else max m (bd v.toNat))
theorem lastN_le(bd:Nat→Nat):∀(l:List Int) (m:Nat),m≤lastN bd l m∧∀v∈l,0≤v→bd v.toNat≤lastN bd l m
 | [],m=>⟨jq _,by simp⟩
 | v::l,m=>by
  unfold lastN
  obtain⟨h1,h2⟩:=lastN_le bd l (if v<0 then m else max m (bd v.toNat))
  have h0:m≤(if v<0 then m else max m (bd v.toNat)):=by split <;> omega
  refine⟨js h0 h1,fun x hx h3=>?_⟩
  rcases jC.1 hx with rfl|hx
  ·refine js ?_ h1
   rw[if_neg (by omega)]
   omega
  ·exact h2 x hx h3
theorem lastN_at(bd:Nat→Nat):∀(l:List Int) (m:Nat),lastN bd l m=m∨∃v∈l,0≤v∧lastN bd l m=bd v.toNat
 | [],m=>.inl rfl
 | v::l,m=>by
  unfold lastN
  rcases lastN_at bd l (if v<0 then m else max m (bd v.toNat)) with h|⟨x,hx,h1,h2⟩
  ·rw[h]
   by_cases h0:v<0
   ·rw[if_pos h0];exact .inl rfl
   ·rw[if_neg h0]
    rcases Nat.le_total m (bd v.toNat) with h3|h3
    ·exact .inr ⟨v,by simp,by omega,by omega⟩
    ·exact .inl (by omega)
  ·exact .inr ⟨x,jr _ hx,h1,h2⟩
def BdOk(B:List Nat)(k:Nat)(bd:Nat→Nat):Prop:=∀v,(v∈B↔0<bd v)∧bd v≤k
theorem BdOk.more{B fresh:List Nat}{k:Nat}{bd:Nat→Nat}(h:BdOk B k bd):BdOk (B++fresh) (k+1) (fun v=>if v∈fresh then k+1 else bd v):=fun v=>by
 obtain⟨h1,h2⟩:=h v
 rw[jp,h1]
 by_cases hv:v∈fresh
 ·simp[hv]
 ·simp only[hv,or_false,if_false]
  exact⟨trivial,by omega⟩
theorem bdL_ok{vars:List ByteArray}:∀(l:List At) (B:List Nat) (k:Nat) (bd:Nat→Nat),BdOk B k bd→BdOk (bndL vars l B) (k+l.length) (bdL vars l B k bd)∧∀v,(0<bd v→bdL vars l B k bd v=bd v)∧(bd v=0→bdL vars l B k bd v=0∨k<bdL vars l B k bd v)
 | [],B,k,bd,h=>⟨h,fun v=>⟨fun _=>rfl,fun e=>.inl e⟩⟩
 | a::l,B,k,bd,h=>by
  have h2:=h.more (fresh:=(nsOf vars B a.terms).fresh)
  obtain⟨i1,i2⟩:=bdL_ok (vars:=vars) l _ _ _ h2
  refine⟨by rw[jD,show k+(l.length+1)=k+1+l.length by omega];exact i1,fun v=>?_⟩
  obtain⟨j1,j2⟩:=i2 v
  have hnew:v∈(nsOf vars B a.terms).fresh→bd v=0:=fun hv=>by
   have h3:=((nsOf_ok vars B a.terms).mem.1 hv).1
   rw[(h v).1]at h3
   omega
  constructor
  ·intro h3
   have hv:v ∉ (nsOf vars B a.terms).fresh:=fun hv=>by have:=hnew hv;omega
   have:=j1 (by rw[if_neg hv];exact h3)
   rw[if_neg hv]at this
   exact this
  ·intro h3
   by_cases hv:v∈(nsOf vars B a.terms).fresh
   ·have:=j1 (by rw[if_pos hv];omega)
    rw[if_pos hv]at this
    right
    show k<bdL vars l _ _ _ v
    omega
   ·rcases j2 (by rw[if_neg hv];exact h3) with h4|h4
    ·exact .inl h4
    ·right
     show k<bdL vars l _ _ _ v
     omega
theorem steps_ok{vars:List ByteArray}{M:Dm}{cds:List Cd}{bad:Nat→List Vl→Bool}{bdF:Nat→Nat}(hF:∀v,v<vars.length→0<bdF v)(hbad:∀k y z,(∀v,v<vars.length→bdF v≤k→y.getD v zv=z.getD v zv)→bad k y=bad k z) :
  ∀(l:List At) (B:List Nat) (k:Nat) (bd:Nat→Nat),BdOk B k bd→bdL vars l B k bd=bdF→(∀a∈l,∀t∈a.terms,t.var≠⟨#[]⟩→t.var∈vars)→(∀a∈l,∀x∈rowsD M a.rel,x.length=a.terms.length)→(∀a∈l,(rowsD M a.rel).Nodup) →
   StsOk vars.length B (stepsL vars M cds bad l B k)
 | [],B,k,bd,h,he,_,_,_=>fun i hi=>by
  have h1:bd=bdF:=he
  rw[(h i).1,h1]
  exact hF i hi
 | a::l,B,k,bd,h,he,hc,hr,hn=>by
  have h2:=h.more (fresh:=(nsOf vars B a.terms).fresh)
  refine⟨stp_ok (hc a (by simp)) (hr a (by simp)) (hn a (by simp)) (fun y z hyz=>hbad (k+1) y z (fun v hv hk=>hyz v ?_)),steps_ok hF hbad l _ (k+1) _ h2 he (fun b hb=>hc b (jr _ hb)) (fun b hb=>hr b (jr _ hb)) (fun b hb=>hn b (jr _ hb))⟩
  rw[(h2 v).1]
  have h3:=(bdL_ok (vars:=vars) l _ _ _ h2).2 v
  have h4:bdL vars l (B++(nsOf vars B a.terms).fresh) (k+1) (fun v=>if v∈(nsOf vars B a.terms).fresh then k+1 else bd v)=bdF:=he
  rw[h4]at h3
  have h5:=hF v hv
  rcases zH (if v∈(nsOf vars B a.terms).fresh then k+1 else bd v) with h6|h6
  ·have:=h3.2 h6
   omega
  ·exact h6
theorem steps_sat{vars:List ByteArray}{M:Dm}{cds:List Cd}{bad:Nat→List Vl→Bool}{z:List Vl} :
  ∀(l:List At) (B:List Nat) (k:Nat),(∀a∈l,∀t∈a.terms,t.var≠⟨#[]⟩→t.var∈vars)→(∀a∈l,∀x∈rowsD M a.rel,x.length=a.terms.length) →
   ((∀s∈stepsL vars M cds bad l B k,stSat s z)↔(∀a∈l,rowOf vars z a.terms∈rowsD M a.rel)∧(∀v∈bndL vars l B,v ∉ B→∀c∈cdsAt vars cds v,holdV (z.getD v zv) c=true)∧∀j,k<j→j≤k+l.length→bad j z=false)
 | [],B,k,_,_=>by
  simp only[stepsL,bndL,zz,false_imp_iff,implies_true,zn,true_and,true_iff]
  exact⟨fun v h1 h2=>absurd h1 h2,fun j h1 h2=>by omega⟩
 | a::l,B,k,hc,hr=>by
  have ih:=steps_sat (vars:=vars) (M:=M) (cds:=cds) (bad:=bad) (z:=z) l (B++(nsOf vars B a.terms).fresh) (k+1) (fun b hb=>hc b (jr _ hb)) (fun b hb=>hr b (jr _ hb))
  have hnew:∀v,v∈(nsOf vars B a.terms).fresh→v ∉ B:=fun v hv=>((nsOf_ok vars B a.terms).mem.1 hv).1
  have hsub:∀(l:List At) (B:List Nat) (v:Nat),v∈B→v∈bndL vars l B:=by
   intro l
   induction l with
   | nil=>exact fun B v h=>h
   | cons a l ih=>exact fun B v h=>ih _ v (jJ _ h)
  show (∀s∈stpOf vars M cds B a (bad (k+1))::stepsL vars M cds bad l (B++(nsOf vars B a.terms).fresh) (k+1),stSat s z)↔(∀b∈a::l,_)∧(∀v∈bndL vars l (B++(nsOf vars B a.terms).fresh),_)∧∀j,k<j→j≤k+(l.length+1)→_
  rw[List.forall_mem_cons,List.forall_mem_cons,ih,stp_sat (hc a (by simp)) (hr a (by simp))]
  constructor
  ·rintro⟨⟨h1,h2,h3⟩,h4,h5,h6⟩
   refine⟨⟨h1,h4⟩,fun v hv hnB=>?_,fun j hj1 hj2=>?_⟩
   ·by_cases hf:v∈(nsOf vars B a.terms).fresh
    ·exact h2 v hf
    ·exact h5 v hv (fun hm=>by
      rcases jp.1 hm with hm|hm
      ·exact hnB hm
      ·exact hf hm)
   ·rcases Nat.eq_or_lt_of_le (show k+1≤j by omega) with rfl|hj
    ·exact h3
    ·exact h6 j hj (by omega)
  ·rintro⟨⟨h1,h4⟩,h5,h6⟩
   exact⟨⟨h1,fun v hv=>h5 v (hsub l _ v (jR _ hv)) (hnew v hv),h6 (k+1) (by omega) (by omega)⟩,h4,fun v hv hn=>h5 v hv (fun hm=>hn (jJ _ hm)),fun j hj1 hj2=>h6 j (by omega) (by omega)⟩
def satM(M:Dm)(vars:List ByteArray)(r:Rl)(y:List Vl):Prop :=
 (∀a∈r.ats,hasR (rowsD M a.rel) (rowOf vars y a.terms) = !a.neg)∧∀c∈r.cds,c.var≠⟨#[]⟩∧holdV (y.getD (posN vars c.var) zv) c=true
def posL(r:Rl):List At:=r.ats.filter (fun a=>!a.neg)
def negL(r:Rl):List At:=r.ats.filter (fun a=>a.neg)
def bdR(vars:List ByteArray)(r:Rl):Nat→Nat:=bdL vars (posL r) [] 0 (fun _=>0)
def lastA(vars:List ByteArray)(r:Rl)(a:At):Nat:=lastN (bdR vars r) (numsN vars a.terms) 0
def negK(vars:List ByteArray)(r:Rl)(k:Nat):List At:=(negL r).filter (fun a=>decide (lastA vars r a=k))
def badK(M:Dm)(vars:List ByteArray)(r:Rl)(k:Nat)(y:List Vl):Bool:=(negK vars r k).any (fun a=>hasR (rowsD M a.rel) (rowOf vars y a.terms))
def planL(M:Dm)(vars:List ByteArray)(r:Rl):List Stp:=stepsL vars M r.cds (badK M vars r) (posL r) [] 0
def firstB(M:Dm)(vars:List ByteArray)(r:Rl)(y:List Vl):Bool:=badK M vars r 0 y || r.cds.any (fun c=>decide (c.var=⟨#[]⟩))
structure SafeR(vars:List ByteArray)(r:Rl):Prop where
 at':∀a∈r.ats,∀t∈a.terms,t.var≠⟨#[]⟩→t.var∈vars
 cd:∀c∈r.cds,c.var≠⟨#[]⟩→c.var∈vars
 ne:⟨#[]⟩ ∉ vars
 nd:vars.Nodup
 bd:∀s∈vars,∃a∈posL r,∃t∈a.terms,t.var=s
theorem bnd_mem{vars:List ByteArray}:∀(l:List At) (B:List Nat),(∀a∈l,∀t∈a.terms,t.var≠⟨#[]⟩→t.var∈vars)→∀v,v∈bndL vars l B↔v∈B∨∃a∈l,∃t∈a.terms,t.var≠⟨#[]⟩∧posN vars t.var=v
 | [],B,_,v=>by simp[bndL]
 | a::l,B,hc,v=>by
  show v∈bndL vars l _↔_
  rw[bnd_mem l _ (fun b hb=>hc b (jr _ hb)),jp,fresh_iff (hc a (by simp))]
  constructor
  ·rintro((h|⟨-,t,ht,h⟩)|⟨b,hb,h⟩)
   ·exact .inl h
   ·exact .inr ⟨a,by simp,t,ht,h⟩
   ·exact .inr ⟨b,jr _ hb,h⟩
  ·rintro(h|⟨b,hb,t,ht,h⟩)
   ·exact .inl (.inl h)
   ·by_cases hB:v∈B
    ·exact .inl (.inl hB)
    ·rcases jC.1 hb with rfl|hb
     ·exact .inl (.inr ⟨hB,t,ht,h⟩)
     ·exact .inr ⟨b,hb,t,ht,h⟩
theorem rowOf_agr{vars:List ByteArray}{ts:List Tm}{y z:List Vl}(h:∀t∈ts,t.var≠⟨#[]⟩→y.getD (posN vars t.var) zv=z.getD (posN vars t.var) zv):rowOf vars y ts=rowOf vars z ts:=by
 unfold rowOf
 refine jU (fun t ht=>?_)
 by_cases h0:t.var=⟨#[]⟩
 ·rw[if_pos h0,if_pos h0]
 ·rw[if_neg h0,if_neg h0,h t ht h0]
section
variable {M:Dm} {vars:List ByteArray} {r:Rl}
theorem posL_mem{a:At}(h:a∈posL r):a∈r.ats∧a.neg=false:=by
 obtain⟨h1,h2⟩:=jA.1 h
 exact⟨h1,by simpa using h2⟩
theorem bdR_pos(hs:SafeR vars r):∀v,v<vars.length→0<bdR vars r v∧bdR vars r v≤(posL r).length:=fun v hv=>by
 have h0:BdOk ([]:List Nat) 0 (fun _=>0):=fun v=>by simp
 have h:=(bdL_ok (vars:=vars) (posL r) [] 0 (fun _=>0) h0).1 v
 obtain⟨a,ha,t,ht,e⟩:=hs.bd _ (jg hv)
 have hne:t.var≠⟨#[]⟩:=fun e2=>hs.ne (by rw[←e2,e];exact jg hv)
 refine⟨h.1.1 ((bnd_mem _ _ (fun b hb=>hs.at' b (posL_mem hb).1) v).2 (.inr ⟨a,ha,t,ht,hne,?_⟩)),by have h2:=h.2;rw[jW]at h2;exact h2⟩
 have hm:vars[v]∈vars:=jg hv
 rw[e]
 exact nd_inj hs.nd (pos_lt hm) hv (pos_at hm)
theorem lastA_var(hs:SafeR vars r){a:At}(ha:a∈r.ats){t:Tm}(ht:t∈a.terms)(h0:t.var≠⟨#[]⟩) : 0<bdR vars r (posN vars t.var)∧bdR vars r (posN vars t.var)≤lastA vars r a:=by
 have hm:=hs.at' a ha t ht h0
 refine⟨(bdR_pos hs _ (pos_lt hm)).1,?_⟩
 have h1:=(lastN_le (bdR vars r) (numsN vars a.terms) 0).2 (numN vars t.var) (jE.2 ⟨t,ht,rfl⟩) (by rw[num_var h0 hm];omega)
 rw[num_var h0 hm,jO]at h1
 exact h1
theorem lastA_le(hs:SafeR vars r){a:At}(ha:a∈r.ats):lastA vars r a≤(posL r).length:=by
 unfold lastA
 rcases lastN_at (bdR vars r) (numsN vars a.terms) 0 with h|⟨v,hv,h1,h2⟩
 ·rw[h];omega
 ·rw[h2]
  obtain⟨t,ht,rfl⟩:=jE.1 hv
  have h0:t.var≠⟨#[]⟩:=fun e=>by
   unfold numN at h1
   rw[if_pos e]at h1
   omega
  rw[num_var h0 (hs.at' a ha t ht h0),jO]
  exact(bdR_pos hs _ (pos_lt (hs.at' a ha t ht h0))).2
theorem badK_agr(hs:SafeR vars r)(k:Nat)(y z:List Vl)(h:∀v,v<vars.length→bdR vars r v≤k→y.getD v zv=z.getD v zv):badK M vars r k y=badK M vars r k z:=by
 unfold badK
 rw[Bool.eq_iff_iff,jL,jL]
 have key:∀a∈negK vars r k,rowOf vars y a.terms=rowOf vars z a.terms:=fun a ha=>by
  obtain⟨h1,h2⟩:=jA.1 ha
  have h3:=(jA.1 h1).1
  simp only[decide_eq_true_eq]at h2
  exact rowOf_agr (fun t ht h0=>h _ (pos_lt (hs.at' a h3 t ht h0)) (by rw[←h2];exact(lastA_var hs h3 ht h0).2))
 exact⟨fun ⟨a,ha,h1⟩=>⟨a,ha,by rw[←key a ha];exact h1⟩,fun ⟨a,ha,h1⟩=>⟨a,ha,by rw[key a ha];exact h1⟩⟩
theorem plan_all(hs:SafeR vars r)(hr:∀a∈r.ats,∀x∈rowsD M a.rel,x.length=a.terms.length)(hn:∀a∈r.ats,(rowsD M a.rel).Nodup){y:List Vl}(hy:y.length=vars.length)(hf:firstB M vars r y=false) :
  (visS (planL M vars r) y).1.Nodup∧∀z,z∈(visS (planL M vars r) y).1↔z.length=vars.length∧satM M vars r z:=by
 have h0:BdOk ([]:List Nat) 0 (fun _=>0):=fun v=>by simp
 have hpm:∀a∈posL r,a∈r.ats:=fun a ha=>(posL_mem ha).1
 have hst:=steps_ok (M:=M) (cds:=r.cds) (bad:=badK M vars r) (fun v hv=>(bdR_pos hs v hv).1) (fun k y z h=>badK_agr hs k y z h) (posL r) [] 0 (fun _=>0) h0 rfl (fun a ha=>hs.at' a (hpm a ha)) (fun a ha=>hr a (hpm a ha)) (fun a ha=>hn a (hpm a ha))
 obtain⟨-,h2,h3⟩:=visS_all (n:=vars.length) (planL M vars r) [] y hst (by simp) hy
 refine⟨h2,fun z=>?_⟩
 rw[h3 z]
 unfold planL
 rw[steps_sat (posL r) [] 0 (fun a ha=>hs.at' a (hpm a ha)) (fun a ha=>hr a (hpm a ha))]
 have hb0:badK M vars r 0 z=badK M vars r 0 y:=badK_agr hs 0 z y (fun v hv hk=>by have:=(bdR_pos hs v hv).1;omega)
 unfold firstB at hf
 rw[Bool.or_eq_false_iff]at hf
 have hcn:∀c∈r.cds,c.var≠⟨#[]⟩:=fun c hc e=>by
  have:=List.any_eq_false.1 hf.2 c hc
  simp[e]at this
 have hbad:(∀j,0<j→j≤0+(posL r).length→badK M vars r j z=false)↔∀a∈r.ats,a.neg=true→hasR (rowsD M a.rel) (rowOf vars z a.terms)=false:=by
  constructor
  ·intro h a ha hng
   have hmem:a∈negK vars r (lastA vars r a):=jA.2 ⟨jA.2 ⟨ha,hng⟩,by simp⟩
   have hall:badK M vars r (lastA vars r a) z=false:=by
    rcases zH (lastA vars r a) with e|e
    ·rw[e,hb0];exact hf.1
    ·exact h _ e (by have:=lastA_le hs ha;omega)
   have:=List.any_eq_false.1 hall a hmem
   simpa using this
  ·intro h j _ _
   unfold badK
   rw[List.any_eq_false]
   intro a ha
   obtain⟨h1,-⟩:=jA.1 ha
   obtain⟨h4,h5⟩:=jA.1 h1
   rw[h a h4 h5]
   simp
 rw[hbad]
 unfold satM
 constructor
 ·rintro⟨k1,-,k2,k3,k4⟩
  refine⟨k1,fun a ha=>?_,fun c hc=>⟨hcn c hc,?_⟩⟩
  ·rcases hng:a.neg with _|_
   ·exact hasR_iff.2 (k2 a (jA.2 ⟨ha,by simp[hng]⟩))
   ·exact k4 a ha hng
  ·have hm:=hs.cd c hc (hcn c hc)
   obtain⟨a,ha,t,ht,e⟩:=hs.bd _ hm
   exact k3 (posN vars c.var) ((bnd_mem _ _ (fun b hb=>hs.at' b (hpm b hb)) _).2 (.inr ⟨a,ha,t,ht,by rw[e];exact hcn c hc,by rw[e]⟩)) (by simp) c (jA.2 ⟨hc,by simp[num_var (hcn c hc) hm]⟩)
 ·rintro⟨k1,k2,k3⟩
  refine⟨k1,fun i hi=>by simp at hi,fun a ha=>?_,fun v _ _ c hc=>?_,fun a ha hng=>?_⟩
  ·have:=k2 a (hpm a ha)
   rw[(posL_mem ha).2]at this
   exact hasR_iff.1 this
  ·obtain⟨h1,h2⟩:=jA.1 hc
   simp only[decide_eq_true_eq]at h2
   obtain⟨-,-,e⟩:=num_nat (fun h=>hs.cd c h1 h) h2
   have:=(k3 c h1).2
   rw[e]at this
   exact this
  ·rw[k2 a ha,hng]
   rfl
theorem first_none(hs:SafeR vars r){y:List Vl}(hf:firstB M vars r y=true)(z:List Vl):¬satM M vars r z:=by
 rintro⟨k1,k2⟩
 unfold firstB at hf
 rw[Bool.or_eq_true]at hf
 rcases hf with hf|hf
 ·rw[badK_agr hs 0 y z (fun v hv hk=>by have:=(bdR_pos hs v hv).1;omega)]at hf
  obtain⟨a,ha,h1⟩:=jL.1 hf
  obtain⟨h2,-⟩:=jA.1 ha
  obtain⟨h3,h4⟩:=jA.1 h2
  have:=k1 a h3
  rw[h1,h4]at this
  cases this
 ·obtain⟨c,hc,h1⟩:=jL.1 hf
  exact(k2 c hc).1 (by simpa using h1)
end
end Go.Proofs.YtplldnnnhgnbjaaGreatDoor
namespace Go.Proofs.YtplldnnnhgnbjaaGreatDoor
open Go.RowKit Go.Maps
def qD(a b:List Vl)(c:Int)(ds:Bool):Int:=if ds=true then -(cmpV (a.getD c.toNat zv) (b.getD c.toNat zv)) else cmpV (a.getD c.toNat zv) (b.getD c.toNat zv)
def cmpQ(a b:List Vl):List (Int×Bool)→Int
 | []=>0
 | x::l=>if qD a b x.1 x.2=0 then cmpQ a b l else qD a b x.1 x.2
theorem cmpI_range(x y:Int):Lib.compareInt x y = -1∨Lib.compareInt x y=0∨Lib.compareInt x y=1:=by
 unfold Lib.compareInt
 split
 ·exact .inl rfl
 ·split
  ·exact .inr (.inr rfl)
  ·exact .inr (.inl rfl)
theorem cmpB_range:∀x y:List UInt8,Lib.compareBytes x y = -1∨Lib.compareBytes x y=0∨Lib.compareBytes x y=1
 | [],[]=>.inr (.inl rfl)
 | [],_::_=>.inl rfl
 | _::_,[]=>.inr (.inr rfl)
 | a::la,b::lb=>by
  unfold Lib.compareBytes
  split
  ·exact .inl rfl
  ·split
   ·exact .inr (.inr rfl)
   ·exact cmpB_range la lb
theorem cmpS_range(x y:ByteArray):strC x y = -1∨strC x y=0∨strC x y=1:=cmpB_range _ _
theorem cmpV_range(a b:Vl):cmpV a b = -1∨cmpV a b=0∨cmpV a b=1:=by
 unfold cmpV
 split
 ·exact cmpI_range _ _
 ·split
  ·exact cmpI_range _ _
  ·exact cmpS_range _ _
set_option maxRecDepth 20000 in
set_option maxHeartbeats 1600000 in
theorem cmpq_any{F G H K:Nat→Prop}{w:World}{A B C D:Option Addr}{n m p c1 c2 c3 c4 g h:Nat}{xs ys:List Vl}{cols:List Int}{ks:List Ky}(hA:Sl rdVl F w (.slice A n c1) xs)(hB:Sl rdVl G w (.slice B m c2) ys)(hC:Ins H w (.slice C p c3) cols)(hK:Sl rdKy K w (.slice D p c4) ks)(g1:Bk w g 63 [.slice C p c3])(g2:Bk w h 26 [.slice D p c4])(hc:∀x∈cols,0≤x∧x<(n:Int)∧x<(m:Int))(hp:p≤1000000) :
    Calls Tryz.prog 126 #[.slice A n c1,.slice B m c2,.pointer (some ⟨g,0,none⟩),.pointer (some ⟨h,0,none⟩)] w (fun e w'=>e=.returned (.int .i64 (cmpQ xs ys (cols.zip (ks.map Ky.desc))))∧Gr w w'):=by
  have HXN:=zO hA.cap.1;have HYN:=zO hB.cap.1;have HKN:=zO hK.cap.1
  obtain⟨C',c',e,-,hcl⟩:=hC
  injection e with e1 e2 e3
  subst e1
  have HA:=zO hA;have HB:=zO hB;have HCL:=zO hcl;have HCN:=zO e2;have HK:=zO hK;have HC:=zO hc
  obtain⟨z,hz⟩:∃z,z=cmpQ xs ys (cols.zip (ks.map Ky.desc)):=⟨_,rfl⟩
  rw[←hz]
  have HZ:Hid (z=cmpQ xs ys ((cols.zip (ks.map Ky.desc)).drop 0)):=zO (by simpa using hz)
  have HZL:Hid ((cols.zip (ks.map Ky.desc)).length=p):=zO (by rw[zr,jm,←HKN.out,←e2];omega)
  have r1:=g1.cell (i:=0) (by simp);have r2:=g2.cell (i:=0) (by simp)
  simp only[ja]at r1 r2
  clear hA hB hcl e2 e3 hK hc hz
  go_enter Tryz.func126,Tryz.ntmps126
  go_wp2_with fail
  go_loopw [12] (fun t wr=>∃i:Nat,i≤p∧t=.int .i64 (i:Int)∧Hid (z=cmpQ xs ys ((cols.zip (ks.map Ky.desc)).drop i))∧Gr w wr) (fun t _=>p-(intOf t).toNat)
  case atStart=>exact⟨0,jn _,rfl,HZ,Gr.refl _⟩
  case round =>
    obtain⟨i,hi,rfl,HE,hgr⟩:=hrel
    obtain⟨W,rfl⟩:∃W:World,W=wr:=⟨_,rfl⟩
    have HG:=zO hgr
    by_cases hlt:i<p
    · have i1:(0:Int)≤(i:Int):=by omega
      have i2:(i:Int)<(p:Int):=by omega
      have hic:i<cols.length:=by have:=HCN.out;omega
      have hik:i<ks.length:=by have:=HKN.out;omega
      obtain⟨ac,rfl,-,c0⟩:=HCL.out.int hic
      obtain⟨ak,rfl,-,-,k1⟩:=HK.out.ky hik
      have hdr:(cols.zip (ks.map Ky.desc)).drop i=(cols[i],ks[i].desc)::(cols.zip (ks.map Ky.desc)).drop (i+1):=by
        rw[zj (by rw[HZL.out];exact hlt)]
        simp
      obtain⟨q0,q1,q2⟩:=HC.out _ (jg hic)
      obtain⟨x,hx⟩:∃x,x=cols[i]:=⟨_,rfl⟩
      obtain⟨ds,hds⟩:∃x,x=ks[i].desc:=⟨_,rfl⟩
      rw[←hx]at c0 hdr q0 q1 q2
      rw[←hds]at k1 hdr
      obtain⟨u,rfl⟩:∃u:Nat,x=(u:Int):=⟨x.toNat,by omega⟩
      have hux:u<xs.length:=by have:=HXN.out;omega
      have huy:u<ys.length:=by have:=HYN.out;omega
      obtain⟨ad,rfl,-,a0,a1,a2⟩:=HA.out.vl hux
      obtain⟨bd,rfl,-,b0,b1,b2⟩:=HB.out.vl huy
      replace a0:=hgr.cell a0;replace a1:=hgr.cell a1;replace a2:=hgr.cell a2;replace b0:=hgr.cell b0;replace b1:=hgr.cell b1;replace b2:=hgr.cell b2
      replace c0:=hgr.cell c0;replace k1:=hgr.cell k1
      have r3:=hgr.cell r2
      have HST:=zO (show z=(if qD xs ys (u:Int) ds=0 then cmpQ xs ys ((cols.zip (ks.map Ky.desc)).drop (i+1)) else qD xs ys (u:Int) ds) from by rw[HE.out,hdr];rfl)
      have HQD:Hid (qD xs ys (u:Int) ds=if ds=true then -(cmpV xs[u] ys[u]) else cmpV xs[u] ys[u]):=zO (by
        unfold qD
        rw[jO,jF,jF,jk hux,jk huy]
        rfl)
      have HV:=zO (fun (V:World)=>vcomp_any xs[u] ys[u] V)
      obtain⟨xv,hxv⟩:∃x,x=xs[u]:=⟨_,rfl⟩
      obtain⟨yv,hyv⟩:∃y,y=ys[u]:=⟨_,rfl⟩
      rw[←hxv]at a0 a1 a2 HQD HV
      rw[←hyv]at b0 b1 b2 HQD HV
      obtain⟨xk,xn,xs'⟩:=xv
      obtain⟨yk,yn,ys'⟩:=yv
      simp only at a0 a1 a2 b0 b1 b2 HV
      clear hxv hyv hdr hx hds hgr hux huy hic hik
      go_upto_region 4 with fail
      go_region_held3 (fun V=>Gr W V∧V.cell? (ad.add (u*3))=some (.int .i64 xk)∧V.cell? ⟨(ad.add (u*3)).block,(ad.add (u*3)).off+1,none⟩=some (.int .i64 xn)∧V.cell? ⟨(ad.add (u*3)).block,(ad.add (u*3)).off+2,none⟩=some (.string xs')∧V.cell? (bd.add (u*3))=some (.int .i64 yk)∧V.cell? ⟨(bd.add (u*3)).block,(bd.add (u*3)).off+1,none⟩=some (.int .i64 yn)∧V.cell? ⟨(bd.add (u*3)).block,(bd.add (u*3)).off+2,none⟩=some (.string ys'))
        ((refine(fun he=>⟨he,Gr.cell he a0,Gr.cell he a1,Gr.cell he a2,Gr.cell he b0,Gr.cell he b1,Gr.cell he b2⟩) ?_;repeat (first|exact Gr.refl _|exact(Gr.refl _).drew|refine Gr.drew ?_|refine Gr.trans ?_ (by assumption))))
        (first
          | (go_at_call 127;(with_reducible refine(HV.out _).mono ?_);rintro e wi ⟨rfl,hei⟩))
      have hfin:=And.left (b:=_∧_) (by assumption)
      obtain⟨X,rfl⟩:∃X:World,X=wi:=⟨_,rfl⟩
      have HX:=zO (HG.out.trans hfin)
      replace r3:=hfin.cell r3;replace k1:=hfin.cell k1
      have hrg:=cmpV_range ⟨xk,xn,xs'⟩ ⟨yk,yn,ys'⟩
      obtain⟨q,hq⟩:∃q,q=cmpV ⟨xk,xn,xs'⟩ ⟨yk,yn,ys'⟩:=⟨_,rfl⟩
      rw[←hq]at HQD hrg ⊢
      clear hfin hei a0 a1 a2 b0 b1 b2 hq c0
      rcases hrg with rfl|rfl|rfl <;> cases ds
      all_goals
        have HS:=HST.out
        rw[HQD.out]at HS
        simp only[if_true,if_false,reduceIte,Bool.false_eq_true]at HS
        have HS2:=zO HS
        clear HS
        go_wp2_with fail
        first
          | (go_roundw
             case rel=>exact⟨i+1,by omega,by go_num,zO (by simpa using HS2.out),HX.out⟩
             case measure=>simp[intOf];omega)
          | (go_ret
             exact⟨by rw[HS2.out];rfl,HX.out⟩)
    · obtain rfl:i=p:=by omega
      have hdi:¬(i:Int)<(i:Int):=by omega
      have HQ:Hid (z=0):=zO (by rw[HE.out,zu (by rw[HZL.out];exact jq _)];rfl)
      go_wp2_with fail
      go_ret
      exact⟨by rw[HQ.out];rfl,HG.out⟩
end Go.Proofs.YtplldnnnhgnbjaaGreatDoor
