/- packed -/
import Derived.Test.YtplldnnnhgnbjaaGreatDoorMr06
namespace Go.Proofs.YtplldnnnhgnbjaaGreatDoor
open Go.RowKit Go.Maps
def hasV (l:List Tm) (s:ByteArray):Bool:=decide (s ≠ ⟨#[]⟩) && l.any (fun t=>decide (t.var=s))
def hasF (l:List Tm):ByteArray→Option Value:=fun s=>if hasV l s=true then some (.bool true) else none
theorem hasV_iff {l:List Tm} {s:ByteArray}:hasV l s=true ↔ s ≠ ⟨#[]⟩∧∃ t ∈ l,t.var=s:=by
 unfold hasV
 rw [Bool.and_eq_true,decide_eq_true_iff,List.any_eq_true]
 simp
theorem hasF_nil:hasF []=fun _=>none:=by
 funext s
 unfold hasF
 rw [if_neg (fun h=>by obtain ⟨-,t,h,-⟩:=hasV_iff.1 h;simp at h)]
theorem hasF_skip {l:List Tm} {t:Tm} (h:t.var=⟨#[]⟩):hasF (l ++ [t])=hasF l:=by
 funext s
 unfold hasF
 have e:hasV (l ++ [t]) s=hasV l s:=bool_iff (by
  rw [hasV_iff,hasV_iff]
  constructor
  ·rintro ⟨h1,u,hu,rfl⟩
   rcases List.mem_append.1 hu with hu | hu
   ·exact ⟨h1,u,hu,rfl⟩
   ·rw [List.mem_singleton.1 hu] at h1
    exact absurd h h1
  ·rintro ⟨h1,u,hu,rfl⟩
   exact ⟨h1,u,List.mem_append_left _ hu,rfl⟩)
 rw [e]
theorem hasF_add {l:List Tm} {t:Tm} (h:¬ t.var=⟨#[]⟩):updV (hasF l) t.var (some (.bool true))=hasF (l ++ [t]):=by
 funext s
 unfold updV hasF
 by_cases hs:s=t.var
 ·rw [if_pos hs,if_pos (hasV_iff.2 ⟨by rw [hs];exact h,t,by simp,hs.symm⟩)]
 ·rw [if_neg hs]
  have e:hasV (l ++ [t]) s=hasV l s:=bool_iff (by
   rw [hasV_iff,hasV_iff]
   constructor
   ·rintro ⟨h1,u,hu,rfl⟩
    rcases List.mem_append.1 hu with hu | hu
    ·exact ⟨h1,u,hu,rfl⟩
    ·rw [List.mem_singleton.1 hu] at hs
     exact absurd rfl hs
   ·rintro ⟨h1,u,hu,rfl⟩
    exact ⟨h1,u,List.mem_append_left _ hu,rfl⟩)
  rw [e]
def MapPost (w:World) (f:ByteArray→Option Value) (M:Nat) (e:Ending) (w':World):Prop:=∃ b m,e = .returned (.map (some b))∧Ext w w'∧w.heap.size≤b∧m≤M∧MapV w' b m f
theorem MapV.made_le (w:World):MapV (w.alloc (.map #[] 0)) w.heap.size 0 (hasF []):=by rw [hasF_nil];exact MapV.made w
set_option maxRecDepth 20000 in
set_option maxHeartbeats 1600000 in
theorem variables_any {F:Nat→Prop} {w:World} {v:Value} {a:At} (hT:Ts F w v a.terms) (hz:TmZ a.terms) (hl:a.terms.length≤1048576) :
  Calls Tryz.prog 210 #[.agg #[.bool a.neg,.string a.rel,v]] w (MapPost w (hasF a.terms) 1048576):=by
 obtain ⟨ng,rl,ts⟩:=a
 simp only at hT hz hl ⊢
 obtain ⟨A,c,rfl,hc,hcl⟩:=hT
 obtain ⟨n,hn⟩:∃ n,n=ts.length:=⟨_,rfl⟩
 rw [← hn] at hc hl ⊢
 have HN:=Lib.hid hn;have HCL:=Lib.hid hcl;have HZ:=Lib.hid hz
 have hmm:=@run_makeMap Tryz.prog
 clear hn hcl hz
 go_enter Tryz.func210,Tryz.ntmps210
 go_wp2_with fail
 have hx:Ext w ((w.alloc (.cells #[.bool ng,.string rl,.slice A n c] 49)).alloc (.map #[] 0)):=((Ext.refl w).alloc _).alloc _
 have hm1:=MapV.made_le (w.alloc (.cells #[.bool ng,.string rl,.slice A n c] 49))
 rw [show (w.alloc (.cells #[.bool ng,.string rl,.slice A n c] 49)).heap.size=w.heap.size + 1 by simp] at hm1
 generalize ((w.alloc (.cells #[.bool ng,.string rl,.slice A n c] 49)).alloc (.map #[] 0))=w1 at *
 have HM1:=Lib.hid hm1
 clear hm1 hmm
 go_loopw [10] (fun t wr=>∃ i m:Nat,i≤n∧m≤i∧t = .int .i64 (i:Int)∧MapV wr (w.heap.size + 1) m (hasF (ts.take i))∧Ext w wr) (fun t _=>n - (intOf t).toNat)
 case atStart=>exact ⟨0,0,Nat.zero_le _,Nat.le_refl _,rfl,HM1.out,hx⟩
 case round =>
  obtain ⟨i,m,hi,hmi,rfl,hM,hxr⟩:=hrel
  obtain ⟨W,rfl⟩:∃ W:World,W=wr:=⟨_,rfl⟩
  have HX:=Lib.hid hxr;have HMM:=Lib.hid hM
  clear hM
  by_cases hlt:i < n
  ·have i1:(0:Int)≤(i:Int):=by omega
   have i2:(i:Int) < (n:Int):=by omega
   have hit:i < ts.length:=by have:=HN.out;omega
   obtain ⟨ad,rfl,-,d0,d1,d2,d3⟩:=HCL.out.term hit
   replace d0:=HX.out.cell d0;replace d1:=HX.out.cell d1;replace d2:=HX.out.cell d2;replace d3:=HX.out.cell d3
   have hzt:=(HZ.out _ (List.getElem_mem hit)).1
   have htk:=List.take_succ_eq_append_getElem hit
   obtain ⟨x,hx⟩:∃ x,x=ts[i]:=⟨_,rfl⟩
   rw [← hx] at d0 d1 d2 d3 hzt htk
   have HTK:=Lib.hid htk
   have hW:w.heap.size≤W.heap.size:=hxr.size
   clear htk hx hxr
   by_cases hv:x.var=⟨#[]⟩
   ·have hve:=var_eq hv
    have HS:=Lib.hid (hasF_skip (l:=ts.take i) hv)
    clear hv
    go_wp2_with fail
    go_roundw
    case rel=>exact ⟨i + 1,m,by omega,by omega,by go_num,by rw [HTK.out,HS.out];exact HMM.out.ext ((Ext.refl W).alloc _),HX.out.alloc _⟩
    case measure=>simp [intOf];omega
   ·have hve:=var_ne hv
    have HS:=Lib.hid (hasF_add (l:=ts.take i) hv)
    clear hv
    go_wp2_with (first
     | (refine wpList_update_V rfl _ _ _ 121 4 rfl Tryz.underlying121 (w.heap.size + 1) m (hasF (ts.take i)) rfl (HMM.out.ext ((Ext.refl W).alloc _)) (by simp only [maxLen];omega) x.var (.bool true) rfl hzt rfl ?_;intro w5 hm5 hg5;have HM5:=Lib.hid hm5;have HG5:=Lib.hid hg5;clear hm5 hg5))
    go_roundw
    case rel=>exact ⟨i + 1,m + 1,by omega,by omega,by go_num,by rw [HTK.out,← HS.out];exact HM5.out,(HX.out.alloc _).grown HG5.out (fun k e=>by injection e with e;omega)⟩
    case measure=>simp [intOf];omega
  ·obtain rfl:i=n:=by omega
   have hdi:¬ (i:Int) < (i:Int):=by omega
   have et:ts.take i=ts:=by rw [HN.out];exact List.take_length
   rw [et] at HMM
   clear et
   go_wp2_with fail
   go_ret
   exact ⟨w.heap.size + 1,m,rfl,HX.out,by omega,by omega,HMM.out⟩
theorem posT_take {xs:List At} {i:Nat} (hi:i < xs.length):posT (xs.take (i + 1))=posT (xs.take i) ++ (if xs[i].neg=true then [] else xs[i].terms):=by
 rw [List.take_succ_eq_append_getElem hi]
 unfold posT
 rw [List.flatMap_append]
 simp
set_option maxRecDepth 20000 in
set_option maxHeartbeats 1600000 in
theorem positive_any {F:Nat→Prop} {w:World} {va:Value} {C:Option Addr} {nc cc:Nat} {xs:List At} (hA:Ats F w va xs) (hz:∀ a ∈ xs,TmZ a.terms) (hl1:xs.length≤524288) (hl2:(allT xs).length≤524288) :
  Calls Tryz.prog 208 #[.agg #[va,.slice C nc cc]] w (MapPost w (hasF (posT xs)) 1048576):=by
 obtain ⟨A,c,rfl,hc,hat⟩:=hA.at'
 obtain ⟨n,hn⟩:∃ n,n=xs.length:=⟨_,rfl⟩
 rw [← hn] at hc hl1 ⊢
 have HN:=Lib.hid hn;have HAT:=Lib.hid hat;have HZ:=Lib.hid hz;have HL2:=Lib.hid hl2
 have hmm:=@run_makeMap Tryz.prog
 clear hn hat hz hA hl2
 go_enter Tryz.func208,Tryz.ntmps208
 go_wp2_with fail
 have hx:Ext w ((w.alloc (.cells #[.slice A n c,.slice C nc cc] 46)).alloc (.map #[] 0)):=((Ext.refl w).alloc _).alloc _
 have hm1:=MapV.made_le (w.alloc (.cells #[.slice A n c,.slice C nc cc] 46))
 rw [show (w.alloc (.cells #[.slice A n c,.slice C nc cc] 46)).heap.size=w.heap.size + 1 by simp] at hm1
 generalize ((w.alloc (.cells #[.slice A n c,.slice C nc cc] 46)).alloc (.map #[] 0))=w1 at *
 have HM1:=Lib.hid hm1
 clear hm1 hmm
 go_loopw [12] (fun t wr=>∃ i m:Nat,i≤n∧m≤(allT (xs.take i)).length∧t = .int .i64 (i:Int)∧MapV wr (w.heap.size + 1) m (hasF (posT (xs.take i)))∧Ext w wr) (fun t _=>n - (intOf t).toNat)
 case atStart=>exact ⟨0,0,Nat.zero_le _,Nat.zero_le _,rfl,HM1.out,hx⟩
 case round =>
  obtain ⟨i,m0,hi,hm0,rfl,hM,hxr⟩:=hrel
  obtain ⟨W,rfl⟩:∃ W:World,W=wr:=⟨_,rfl⟩
  have HX:=Lib.hid hxr;have HMM:=Lib.hid hM;have HM0:=Lib.hid hm0
  clear hM hm0
  by_cases hlt:i < n
  ·have i1:(0:Int)≤(i:Int):=by omega
   have i2:(i:Int) < (n:Int):=by omega
   have hix:i < xs.length:=by have:=HN.out;omega
   obtain ⟨ad,Bt,dt,rfl,-,c0,c1,c2,hd,hcl⟩:=HAT.out i hix
   replace c0:=HX.out.cell c0;replace c1:=HX.out.cell c1;replace c2:=HX.out.cell c2
   have hzx:=HZ.out _ (List.getElem_mem hix)
   have htk:=posT_take hix
   have htl:=terms_le hix
   have hal:=allT_le (xs:=xs) (i + 1)
   rw [allT_take hix,List.length_append] at hal
   have HAT2:=Lib.hid (allT_take hix)
   obtain ⟨⟨ng,rl,ts⟩,ha⟩:∃ a,a=xs[i]:=⟨_,rfl⟩
   rw [← ha] at c0 c1 c2 hd hcl hzx htk htl hal HAT2
   simp only at c0 c1 c2 hd hcl hzx htk htl hal HAT2
   obtain ⟨nt,hnt⟩:∃ k,k=ts.length:=⟨_,rfl⟩
   rw [← hnt] at c2 hd htl hal
   have hnt2:nt≤524288:=by have:=HL2.out;omega
   have HAL:=Lib.hid hal
   have HTK:=Lib.hid htk;have HNT:=Lib.hid hnt;have HCL:=Lib.hid hcl;have HZX:=Lib.hid hzx
   clear htk hnt hcl hzx ha htl hal hxr
   go_wp2_with fail
   have kx:=Bk.new W 49 [.bool ng,.string rl,.slice Bt nt dt]
   change Bk (W.alloc (.cells #[.bool ng,.string rl,.slice Bt nt dt] 49)) _ _ _ at kx
   have hx1:Ext W (W.alloc (.cells #[.bool ng,.string rl,.slice Bt nt dt] 49)):=(Ext.refl W).alloc _
   have hW1:W.heap.size < (W.alloc (.cells #[.bool ng,.string rl,.slice Bt nt dt] 49)).heap.size:=kx.lt
   generalize (W.alloc (.cells #[.bool ng,.string rl,.slice Bt nt dt] 49))=W1 at *
   have HKX:=Lib.hid kx
   have HX1:=Lib.hid (HX.out.trans hx1)
   have HMM1:=Lib.hid (HMM.out.ext hx1)
   clear kx hx1 c0 c1 c2
   go_loopw [19] (fun t wr=>∃ j m:Nat,j≤nt∧m≤m0 + j∧t = .int .i64 (j:Int)∧MapV wr (w.heap.size + 1) m (hasF (posT (xs.take i) ++ (if ng=true then [] else ts.take j)))∧Ext w wr∧Bk wr W.heap.size 49 [.bool ng,.string rl,.slice Bt nt dt]) (fun t _=>nt - (intOf t).toNat)
   case atStart=>exact ⟨0,m0,Nat.zero_le _,Nat.le_refl _,rfl,by have h:=HMM1.out;rw [← List.append_nil (posT _)] at h;simpa using h,HX1.out,HKX.out⟩
   case round =>
    obtain ⟨j,m,hj,hm,rfl,hM,hxj,hbk⟩:=hrel
    have HXJ:=Lib.hid hxj;have HMJ:=Lib.hid hM;have HBK:=Lib.hid hbk
    have g0:=hbk.cell (i:=0) (by simp)
    simp only [List.getElem_cons_zero] at g0
    have hW:w.heap.size≤wr.heap.size:=hxj.size
    have hmb:m < 1048576:=by have:=HAL.out;have:=HL2.out;have:=HM0.out;omega
    have hbne:W.heap.size ≠ w.heap.size + 1:=hM.ne hbk
    have hbl:W.heap.size < wr.heap.size:=hbk.lt
    clear hM hxj hbk
    by_cases hjt:j < nt
    ·have j1:(0:Int)≤(j:Int):=by omega
     have j2:(j:Int) < (nt:Int):=by omega
     have hjl:j < ts.length:=by have:=HNT.out;omega
     obtain ⟨adt,rfl,-,d0,d1,d2,d3⟩:=HCL.out.term hjl
     replace d0:=HXJ.out.cell d0;replace d1:=HXJ.out.cell d1;replace d2:=HXJ.out.cell d2;replace d3:=HXJ.out.cell d3
     have hzt:=(HZX.out _ (List.getElem_mem hjl)).1
     have htk:=List.take_succ_eq_append_getElem hjl
     obtain ⟨x,hx⟩:∃ x,x=ts[j]:=⟨_,rfl⟩
     rw [← hx] at d0 d1 d2 d3 hzt htk
     have HTKJ:=Lib.hid htk
     clear htk hx
     rcases ng with _ | _
     ·by_cases hv:x.var=⟨#[]⟩
      ·have hve:=var_eq hv
       have HS:=Lib.hid (hasF_skip (l:=posT (xs.take i) ++ ts.take j) hv)
       clear hv
       go_wp2_with fail
       go_roundw
       case rel=>exact ⟨j + 1,m,by omega,by omega,by go_num,by have h:=HMJ.out.ext ((Ext.refl wr).alloc (.cells #[.string x.var,.int .i64 x.kind,.int .i64 x.int,.string x.str] 132));rw [if_neg (by decide)] at h ⊢;rw [HTKJ.out,← List.append_assoc,HS.out];exact h,HXJ.out.alloc _,HBK.out.alloc _⟩
       case measure=>simp [intOf];omega
      ·have hve:=var_ne hv
       have HS:=Lib.hid (hasF_add (l:=posT (xs.take i) ++ ts.take j) hv)
       clear hv
       have HMF:Hid (MapV wr (w.heap.size + 1) m (hasF (posT (xs.take i) ++ ts.take j))):=Lib.hid (by have h:=HMJ.out;rw [if_neg (by decide)] at h;exact h)
       go_wp2_with (first
        | (refine wpList_update_V rfl _ _ _ 121 4 rfl Tryz.underlying121 (w.heap.size + 1) m (hasF (posT (xs.take i) ++ ts.take j)) rfl (HMF.out.ext ((Ext.refl wr).alloc _)) (by simp only [maxLen];omega) x.var (.bool true) rfl hzt rfl ?_;intro w5 hm5 hg5;have HM5:=Lib.hid hm5;have HG5:=Lib.hid hg5;clear hm5 hg5))
       go_roundw
       case rel=>exact ⟨j + 1,m + 1,by omega,by omega,by go_num,by rw [if_neg (by decide),HTKJ.out,← List.append_assoc,← HS.out];exact HM5.out,(HXJ.out.alloc _).grown HG5.out (fun k e=>by injection e with e;omega),(HBK.out.alloc _).fr (grown_fr HG5.out) (fun e=>by injection e with e;omega)⟩
       case measure=>simp [intOf];omega
     ·go_wp2_with fail
      go_roundw
      case rel=>exact ⟨j + 1,m,by omega,by omega,by go_num,by have h:=HMJ.out.ext ((Ext.refl wr).alloc (.cells #[.string x.var,.int .i64 x.kind,.int .i64 x.int,.string x.str] 132));rw [if_pos rfl] at h;exact h,HXJ.out.alloc _,HBK.out.alloc _⟩
      case measure=>simp [intOf];omega
    ·obtain rfl:j=nt:=by omega
     have hdj:¬ (j:Int) < (j:Int):=by omega
     have et:ts.take j=ts:=by rw [HNT.out];exact List.take_length
     rw [et] at HMJ
     clear et g0
     go_wp2_with fail
     go_roundw
     case rel=>exact ⟨i + 1,m,by omega,by rw [HAT2.out,List.length_append,← HNT.out];have:=HM0.out;omega,by go_num,by rw [HTK.out];exact HMJ.out,HXJ.out⟩
     case measure=>simp [intOf];omega
  ·obtain rfl:i=n:=by omega
   have hdi:¬ (i:Int) < (i:Int):=by omega
   have et:xs.take i=xs:=by rw [HN.out];exact List.take_length
   rw [et] at HMM HM0
   clear et
   go_wp2_with fail
   go_ret
   exact ⟨w.heap.size + 1,m0,rfl,HX.out,by omega,by have:=HM0.out;have:=HL2.out;omega,HMM.out⟩
end Go.Proofs.YtplldnnnhgnbjaaGreatDoor
