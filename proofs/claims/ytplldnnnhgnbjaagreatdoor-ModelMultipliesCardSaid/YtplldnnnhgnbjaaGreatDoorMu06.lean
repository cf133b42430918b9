/- packed -/
import Derived.Test.YtplldnnnhgnbjaaGreatDoorMu05
import Derived.Lib.AppendZerosOnto
namespace Go.Proofs.YtplldnnnhgnbjaaGreatDoor
open Go.RowKit Go.Maps
def hasV(l:List Tm)(s:ByteArray):Bool:=decide (s≠⟨#[]⟩) && l.any (fun t=>decide (t.var=s))
def hasF(l:List Tm):ByteArray→Option Value:=fun s=>if hasV l s=true then some (.bool true) else none
theorem hasV_iff{l:List Tm}{s:ByteArray}:hasV l s=true↔s≠⟨#[]⟩∧∃t∈l,t.var=s:=by
 unfold hasV
 rw[Bool.and_eq_true,decide_eq_true_iff,jL]
 simp
theorem hasF_nil:hasF []=fun _=>none:=by
 funext s
 unfold hasF
 rw[if_neg (fun h=>by obtain⟨-,t,h,-⟩:=hasV_iff.1 h;simp at h)]
theorem hasF_skip{l:List Tm}{t:Tm}(h:t.var=⟨#[]⟩):hasF (l++[t])=hasF l:=by
 funext s
 unfold hasF
 have e:hasV (l++[t]) s=hasV l s:=bool_iff (by
  rw[hasV_iff,hasV_iff]
  constructor
  ·rintro⟨h1,u,hu,rfl⟩
   rcases jp.1 hu with hu|hu
   ·exact⟨h1,u,hu,rfl⟩
   ·rw[jt.1 hu]at h1
    exact absurd h h1
  ·rintro⟨h1,u,hu,rfl⟩
   exact⟨h1,u,jJ _ hu,rfl⟩)
 rw[e]
theorem hasF_add{l:List Tm}{t:Tm}(h:¬t.var=⟨#[]⟩):updV (hasF l) t.var (some (.bool true))=hasF (l++[t]):=by
 funext s
 unfold updV hasF
 by_cases hs:s=t.var
 ·rw[if_pos hs,if_pos (hasV_iff.2 ⟨by rw[hs];exact h,t,by simp,hs.symm⟩)]
 ·rw[if_neg hs]
  have e:hasV (l++[t]) s=hasV l s:=bool_iff (by
   rw[hasV_iff,hasV_iff]
   constructor
   ·rintro⟨h1,u,hu,rfl⟩
    rcases jp.1 hu with hu|hu
    ·exact⟨h1,u,hu,rfl⟩
    ·rw[jt.1 hu]at hs
     exact absurd rfl hs
   ·rintro⟨h1,u,hu,rfl⟩
    exact⟨h1,u,jJ _ hu,rfl⟩)
  rw[e]
def MapPost(w:World)(f:ByteArray→Option Value)(M:Nat)(e:Ending)(w':World):Prop:=∃b m,e=.returned (.map (some b))∧Ext w w'∧w.heap.size≤b∧m≤M∧MapV w' b m f
theorem MapV.made_le(w:World):MapV (w.alloc (.map #[] 0)) w.heap.size 0 (hasF []):=by rw[hasF_nil];exact MapV.made w
set_option maxRecDepth 20000 in
set_option maxHeartbeats 1600000 in
theorem variables_any{F:Nat→Prop}{w:World}{v:Value}{a:At}(hT:Ts F w v a.terms)(hz:TmZ a.terms)(hl:a.terms.length≤1048576) :
  Calls Tryz.prog 210 #[.agg #[.bool a.neg,.string a.rel,v]] w (MapPost w (hasF a.terms) 1048576):=by
 obtain⟨ng,rl,ts⟩:=a
 simp only at hT hz hl ⊢
 obtain⟨A,c,rfl,hc,hcl⟩:=hT
 obtain⟨n,hn⟩:∃n,n=ts.length:=⟨_,rfl⟩
 rw[←hn]at hc hl ⊢
 have HN:=zO hn;have HCL:=zO hcl;have HZ:=zO hz
 have hmm:=@run_makeMap Tryz.prog
 clear hn hcl hz
 go_enter Tryz.func210,Tryz.ntmps210
 go_wp2_with fail
 have hx:Ext w ((w.alloc (.cells #[.bool ng,.string rl,.slice A n c] 49)).alloc (.map #[] 0)):=((Ext.refl w).alloc _).alloc _
 have hm1:=MapV.made_le (w.alloc (.cells #[.bool ng,.string rl,.slice A n c] 49))
 rw[show (w.alloc (.cells #[.bool ng,.string rl,.slice A n c] 49)).heap.size=w.heap.size+1 by simp]at hm1
 generalize ((w.alloc (.cells #[.bool ng,.string rl,.slice A n c] 49)).alloc (.map #[] 0))=w1 at *
 have HM1:=zO hm1
 clear hm1 hmm
 go_loopw [10] (fun t wr=>∃i m:Nat,i≤n∧m≤i∧t=.int .i64 (i:Int)∧MapV wr (w.heap.size+1) m (hasF (ts.take i))∧Ext w wr) (fun t _=>n-(intOf t).toNat)
 case atStart=>exact⟨0,0,jn _,jq _,rfl,HM1.out,hx⟩
 case round =>
  obtain⟨i,m,hi,hmi,rfl,hM,hxr⟩:=hrel
  obtain⟨W,rfl⟩:∃W:World,W=wr:=⟨_,rfl⟩
  have HX:=zO hxr;have HMM:=zO hM
  clear hM
  by_cases hlt:i<n
  ·have i1:(0:Int)≤(i:Int):=by omega
   have i2:(i:Int)<(n:Int):=by omega
   have hit:i<ts.length:=by have:=HN.out;omega
   obtain⟨ad,rfl,-,d0,d1,d2,d3⟩:=HCL.out.term hit
   replace d0:=HX.out.cell d0;replace d1:=HX.out.cell d1;replace d2:=HX.out.cell d2;replace d3:=HX.out.cell d3
   have hzt:=(HZ.out _ (jg hit)).1
   have htk:=jj hit
   obtain⟨x,hx⟩:∃x,x=ts[i]:=⟨_,rfl⟩
   rw[←hx]at d0 d1 d2 d3 hzt htk
   have HTK:=zO htk
   have hW:w.heap.size≤W.heap.size:=hxr.size
   clear htk hx hxr
   by_cases hv:x.var=⟨#[]⟩
   ·have hve:=var_eq hv
    have HS:=zO (hasF_skip (l:=ts.take i) hv)
    clear hv
    go_wp2_with fail
    go_roundw
    case rel=>exact⟨i+1,m,by omega,by omega,by go_num,by rw[HTK.out,HS.out];exact HMM.out.ext ((Ext.refl W).alloc _),HX.out.alloc _⟩
    case measure=>simp[intOf];omega
   ·have hve:=var_ne hv
    have HS:=zO (hasF_add (l:=ts.take i) hv)
    clear hv
    go_wp2_with (first
     | (refine wpList_update_V rfl _ _ _ 121 4 rfl Tryz.underlying121 (w.heap.size+1) m (hasF (ts.take i)) rfl (HMM.out.ext ((Ext.refl W).alloc _)) (by simp only[maxLen];omega) x.var (.bool true) rfl hzt rfl ?_;intro w5 hm5 hg5;have HM5:=zO hm5;have HG5:=zO hg5;clear hm5 hg5))
    go_roundw
    case rel=>exact⟨i+1,m+1,by omega,by omega,by go_num,by rw[HTK.out,←HS.out];exact HM5.out,(HX.out.alloc _).grown HG5.out (fun k e=>by injection e with e;omega)⟩
    case measure=>simp[intOf];omega
  ·obtain rfl:i=n:=by omega
   have hdi:¬(i:Int)<(i:Int):=by omega
   have et:ts.take i=ts:=by rw[HN.out];exact jV
   rw[et]at HMM
   clear et
   go_wp2_with fail
   go_ret
   exact⟨w.heap.size+1,m,rfl,HX.out,by omega,by omega,HMM.out⟩
theorem posT_take{xs:List At}{i:Nat}(hi:i<xs.length):posT (xs.take (i+1))=posT (xs.take i)++(if xs[i].neg=true then [] else xs[i].terms):=by
 rw[jj hi]
 unfold posT
 rw[zx]
 simp
set_option maxRecDepth 20000 in
set_option maxHeartbeats 1600000 in
theorem positive_any{F:Nat→Prop}{w:World}{va:Value}{C:Option Addr}{nc cc:Nat}{xs:List At}(hA:Ats F w va xs)(hz:∀a∈xs,TmZ a.terms)(hl1:xs.length≤524288)(hl2:(allT xs).length≤524288) :
  Calls Tryz.prog 208 #[.agg #[va,.slice C nc cc]] w (MapPost w (hasF (posT xs)) 1048576):=by
 obtain⟨A,c,rfl,hc,hat⟩:=hA.at'
 obtain⟨n,hn⟩:∃n,n=xs.length:=⟨_,rfl⟩
 rw[←hn]at hc hl1 ⊢
 have HN:=zO hn;have HAT:=zO hat;have HZ:=zO hz;have HL2:=zO hl2
 have hmm:=@run_makeMap Tryz.prog
 clear hn hat hz hA hl2
 go_enter Tryz.func208,Tryz.ntmps208
 go_wp2_with fail
 have hx:Ext w ((w.alloc (.cells #[.slice A n c,.slice C nc cc] 46)).alloc (.map #[] 0)):=((Ext.refl w).alloc _).alloc _
 have hm1:=MapV.made_le (w.alloc (.cells #[.slice A n c,.slice C nc cc] 46))
 rw[show (w.alloc (.cells #[.slice A n c,.slice C nc cc] 46)).heap.size=w.heap.size+1 by simp]at hm1
 generalize ((w.alloc (.cells #[.slice A n c,.slice C nc cc] 46)).alloc (.map #[] 0))=w1 at *
 have HM1:=zO hm1
 clear hm1 hmm
 go_loopw [12] (fun t wr=>∃i m:Nat,i≤n∧m≤(allT (xs.take i)).length∧t=.int .i64 (i:Int)∧MapV wr (w.heap.size+1) m (hasF (posT (xs.take i)))∧Ext w wr) (fun t _=>n-(intOf t).toNat)
 case atStart=>exact⟨0,0,jn _,jn _,rfl,HM1.out,hx⟩
 case round =>
  obtain⟨i,m0,hi,hm0,rfl,hM,hxr⟩:=hrel
  obtain⟨W,rfl⟩:∃W:World,W=wr:=⟨_,rfl⟩
  have HX:=zO hxr;have HMM:=zO hM;have HM0:=zO hm0
  clear hM hm0
  by_cases hlt:i<n
  ·have i1:(0:Int)≤(i:Int):=by omega
   have i2:(i:Int)<(n:Int):=by omega
   have hix:i<xs.length:=by have:=HN.out;omega
   obtain⟨ad,Bt,dt,rfl,-,c0,c1,c2,hd,hcl⟩:=HAT.out i hix
   replace c0:=HX.out.cell c0;replace c1:=HX.out.cell c1;replace c2:=HX.out.cell c2
   have hzx:=HZ.out _ (jg hix)
   have htk:=posT_take hix
   have htl:=terms_le hix
   have hal:=allT_le (xs:=xs) (i+1)
   rw[allT_take hix,jl]at hal
   have HAT2:=zO (allT_take hix)
   obtain⟨⟨ng,rl,ts⟩,ha⟩:∃a,a=xs[i]:=⟨_,rfl⟩
   rw[←ha]at c0 c1 c2 hd hcl hzx htk htl hal HAT2
   simp only at c0 c1 c2 hd hcl hzx htk htl hal HAT2
   obtain⟨nt,hnt⟩:∃k,k=ts.length:=⟨_,rfl⟩
   rw[←hnt]at c2 hd htl hal
   have hnt2:nt≤524288:=by have:=HL2.out;omega
   have HAL:=zO hal
   have HTK:=zO htk;have HNT:=zO hnt;have HCL:=zO hcl;have HZX:=zO hzx
   clear htk hnt hcl hzx ha htl hal hxr
   go_wp2_with fail
   have kx:=Bk.new W 49 [.bool ng,.string rl,.slice Bt nt dt]
   change Bk (W.alloc (.cells #[.bool ng,.string rl,.slice Bt nt dt] 49)) _ _ _ at kx
   have hx1:Ext W (W.alloc (.cells #[.bool ng,.string rl,.slice Bt nt dt] 49)):=(Ext.refl W).alloc _
   have hW1:W.heap.size<(W.alloc (.cells #[.bool ng,.string rl,.slice Bt nt dt] 49)).heap.size:=kx.lt
   generalize (W.alloc (.cells #[.bool ng,.string rl,.slice Bt nt dt] 49))=W1 at *
   have HKX:=zO kx
   have HX1:=zO (HX.out.trans hx1)
   have HMM1:=zO (HMM.out.ext hx1)
   clear kx hx1 c0 c1 c2
   go_loopw [19] (fun t wr=>∃j m:Nat,j≤nt∧m≤m0+j∧t=.int .i64 (j:Int)∧MapV wr (w.heap.size+1) m (hasF (posT (xs.take i)++(if ng=true then [] else ts.take j)))∧Ext w wr∧Bk wr W.heap.size 49 [.bool ng,.string rl,.slice Bt nt dt]) (fun t _=>nt-(intOf t).toNat)
   case atStart=>exact⟨0,m0,jn _,jq _,rfl,by have h:=HMM1.out;rw[←zL (posT _)]at h;simpa using h,HX1.out,HKX.out⟩
   case round =>
    obtain⟨j,m,hj,hm,rfl,hM,hxj,hbk⟩:=hrel
    have HXJ:=zO hxj;have HMJ:=zO hM;have HBK:=zO hbk
    have g0:=hbk.cell (i:=0) (by simp)
    simp only[ja]at g0
    have hW:w.heap.size≤wr.heap.size:=hxj.size
    have hmb:m<1048576:=by have:=HAL.out;have:=HL2.out;have:=HM0.out;omega
    have hbne:W.heap.size≠w.heap.size+1:=hM.ne hbk
    have hbl:W.heap.size<wr.heap.size:=hbk.lt
    clear hM hxj hbk
    by_cases hjt:j<nt
    ·have j1:(0:Int)≤(j:Int):=by omega
     have j2:(j:Int)<(nt:Int):=by omega
     have hjl:j<ts.length:=by have:=HNT.out;omega
     obtain⟨adt,rfl,-,d0,d1,d2,d3⟩:=HCL.out.term hjl
     replace d0:=HXJ.out.cell d0;replace d1:=HXJ.out.cell d1;replace d2:=HXJ.out.cell d2;replace d3:=HXJ.out.cell d3
     have hzt:=(HZX.out _ (jg hjl)).1
     have htk:=jj hjl
     obtain⟨x,hx⟩:∃x,x=ts[j]:=⟨_,rfl⟩
     rw[←hx]at d0 d1 d2 d3 hzt htk
     have HTKJ:=zO htk
     clear htk hx
     rcases ng with _|_
     ·by_cases hv:x.var=⟨#[]⟩
      ·have hve:=var_eq hv
       have HS:=zO (hasF_skip (l:=posT (xs.take i)++ts.take j) hv)
       clear hv
       go_wp2_with fail
       go_roundw
       case rel=>exact⟨j+1,m,by omega,by omega,by go_num,by have h:=HMJ.out.ext ((Ext.refl wr).alloc (.cells #[.string x.var,.int .i64 x.kind,.int .i64 x.int,.string x.str] 132));rw[if_neg (by decide)]at h ⊢;rw[HTKJ.out,←zq,HS.out];exact h,HXJ.out.alloc _,HBK.out.alloc _⟩
       case measure=>simp[intOf];omega
      ·have hve:=var_ne hv
       have HS:=zO (hasF_add (l:=posT (xs.take i)++ts.take j) hv)
       clear hv
       have HMF:Hid (MapV wr (w.heap.size+1) m (hasF (posT (xs.take i)++ts.take j))):=zO (by have h:=HMJ.out;rw[if_neg (by decide)]at h;exact h)
       go_wp2_with (first
        | (refine wpList_update_V rfl _ _ _ 121 4 rfl Tryz.underlying121 (w.heap.size+1) m (hasF (posT (xs.take i)++ts.take j)) rfl (HMF.out.ext ((Ext.refl wr).alloc _)) (by simp only[maxLen];omega) x.var (.bool true) rfl hzt rfl ?_;intro w5 hm5 hg5;have HM5:=zO hm5;have HG5:=zO hg5;clear hm5 hg5))
       go_roundw
       case rel=>exact⟨j+1,m+1,by omega,by omega,by go_num,by rw[if_neg (by decide),HTKJ.out,←zq,←HS.out];exact HM5.out,(HXJ.out.alloc _).grown HG5.out (fun k e=>by injection e with e;omega),(HBK.out.alloc _).fr (grown_fr HG5.out) (fun e=>by injection e with e;omega)⟩
       case measure=>simp[intOf];omega
     ·go_wp2_with fail
      go_roundw
      case rel=>exact⟨j+1,m,by omega,by omega,by go_num,by have h:=HMJ.out.ext ((Ext.refl wr).alloc (.cells #[.string x.var,.int .i64 x.kind,.int .i64 x.int,.string x.str] 132));rw[if_pos rfl]at h;exact h,HXJ.out.alloc _,HBK.out.alloc _⟩
      case measure=>simp[intOf];omega
    ·obtain rfl:j=nt:=by omega
     have hdj:¬(j:Int)<(j:Int):=by omega
     have et:ts.take j=ts:=by rw[HNT.out];exact jV
     rw[et]at HMJ
     clear et g0
     go_wp2_with fail
     go_roundw
     case rel=>exact⟨i+1,m,by omega,by rw[HAT2.out,jl,←HNT.out];have:=HM0.out;omega,by go_num,by rw[HTK.out];exact HMJ.out,HXJ.out⟩
     case measure=>simp[intOf];omega
  ·obtain rfl:i=n:=by omega
   have hdi:¬(i:Int)<(i:Int):=by omega
   have et:xs.take i=xs:=by rw[HN.out];exact jV
   rw[et]at HMM HM0
   clear et
   go_wp2_with fail
   go_ret
   exact⟨w.heap.size+1,m0,rfl,HX.out,by omega,by have:=HM0.out;have:=HL2.out;omega,HMM.out⟩
end Go.Proofs.YtplldnnnhgnbjaaGreatDoor
namespace Go.Proofs.YtplldnnnhgnbjaaGreatDoor
open Go.RowKit Go.Maps
def IdxPost(l:List ByteArray)(s:ByteArray)(w:World)(e:Ending)(w':World):Prop:=∃r:Int,e=.returned (.int .i64 r)∧((r<0∧s ∉ l)∨(0≤r∧s∈l))∧w=w'
theorem toList_inj'{a b:ByteArray}(h:a.toList=b.toList):a=b:=by
 rw[ByteArray.toList_eq,ByteArray.toList_eq]at h
 exact Go.WideShapes.bytes_inj h
set_option maxRecDepth 20000 in
set_option maxHeartbeats 800000 in
theorem index_str{F:Nat→Prop}{w:World}{v:Value}{l:List ByteArray}{s:ByteArray}(h:Strs F w v l)(hl:l.length≤maxLen) :
    Calls Tryz.prog 59 #[v,.string s] w (IdxPost l s w):=by
  unfold maxLen at hl
  obtain⟨A,c,rfl,hc,hat⟩:=h
  obtain⟨n,hn⟩:∃n,n=l.length:=⟨_,rfl⟩
  rw[←hn]at hc hl ⊢
  have HN:=zO hn;have HAT:=zO hat
  clear hn hat
  go_enter Tryz.func59,Tryz.ntmps59
  go_wp2_with fail
  go_loopw [8] (fun q wr=>∃i:Nat,i≤n∧q=.int .i64 (i:Int)∧(∀j (h:j<l.length),j<i→l[j]≠s)∧wr=w) (fun q _=>n-(intOf q).toNat)
  case atStart=>exact⟨0,jn _,rfl,fun _ _ h=>absurd h (by omega),rfl⟩
  case round =>
    obtain⟨i,hi,rfl,hgo,rfl⟩:=hrel
    have HGO:=zO hgo
    clear hgo
    by_cases hlt:i<n
    · have i1:(0:Int)≤(i:Int):=by omega
      have i2:(i:Int)<(n:Int):=by omega
      have hix:i<l.length:=by have:=HN.out;omega
      obtain⟨ad,rfl,-,c0⟩:=HAT.out.str hix
      by_cases he:l[i]=s
      · have HR:Hid (s∈l):=zO (by rw[←he];exact jg hix)
        rw[he]at c0
        clear he
        go_wp2_with fail
        go_ret
        exact⟨i,rfl,.inr ⟨by omega,HR.out⟩,rfl⟩
      · have hne:¬s.toList=l[i].toList:=fun e=>he (toList_inj' e).symm
        obtain⟨x,hx⟩:∃x,x=l[i]:=⟨_,rfl⟩
        rw[←hx]at c0 hne
        have hne2:(s.toList == x.toList)=false:=by simp[hne]
        have HE:=zO he
        clear he hx
        go_wp2_with fail
        all_goals first
          | contradiction
          | (go_roundw
             case rel =>
               refine⟨i+1,by omega,by go_num,fun j hj hji=>?_,trivial⟩
               rcases jB j i with h|h
               · exact HGO.out j hj h
               · obtain rfl:j=i:=by omega
                 exact HE.out
             case measure=>simp[intOf];omega)
    · obtain rfl:i=n:=by omega
      have hdn:¬(i:Int)<(i:Int):=by omega
      have HR:Hid (s ∉ l):=zO (fun hm=>by
        obtain⟨j,hj,e⟩:=jv hm
        exact HGO.out j hj (by have:=HN.out;omega) e)
      go_wp2_with fail
      go_ret
      exact⟨-1,rfl,.inl ⟨by omega,HR.out⟩,rfl⟩
theorem contains_str{F:Nat→Prop}{w:World}{v:Value}{l:List ByteArray}{s:ByteArray}(h:Strs F w v l)(hl:l.length≤maxLen) :
  Calls Tryz.prog 206 #[v,.string s] w (fun e w'=>e=.returned (.bool (decide (s∈l)))∧w=w'):=by
 have H:=zO (index_str (s:=s) h hl)
 clear h hl
 go_enter Tryz.func206,Tryz.ntmps206
 go_wp2_with fail
 refine H.out.mono ?_
 rintro e w' ⟨r,rfl,hr,rfl⟩
 rcases hr with ⟨h1,h2⟩|⟨h1,h2⟩
 ·have h3:decide ((0:Int)≤r)=false:=by simp;omega
  have HR:=zO (decide_eq_false h2)
  clear h2
  go_wp2_with fail
  go_ret
  rw[HR.out]
  exact⟨rfl,rfl⟩
 ·have HR:=zO (decide_eq_true h2)
  clear h2
  go_wp2_with fail
  go_ret
  rw[HR.out]
  exact⟨rfl,rfl⟩
theorem Strs.take{F:Nat→Prop}{w:World}{A:Option Addr}{n c:Nat}{l:List ByteArray}(h:Strs F w (.slice A n c) l){i:Nat}(hi:i≤l.length):Strs F w (.slice A i c) (l.take i):=by
 obtain⟨A',c',e,hc,hcl⟩:=h
 injection e with e1 e2 e3
 subst e1 e3
 refine⟨A,c,by rw[ju,Nat.min_eq_left hi],by rw[ju];omega,?_⟩
 rcases hcl with hcl|⟨ad,h1,h2,h3⟩
 ·exact .inl (by rw[List.map_eq_nil_iff]at hcl ⊢;rw[hcl];simp)
 ·exact .inr ⟨ad,h1,h2,fun j hj=>by
   have hj2:j<l.length:=by simp at hj;omega
   rw[h3 j (by simpa using hj2)]
   simp⟩
set_option maxRecDepth 20000 in
set_option maxHeartbeats 800000 in
theorem checkHead_any{F:Nat→Prop}{w:World}{v:Value}{hd:List ByteArray}(h:Strs F w v hd)(hz:∀s∈hd,s.size≤maxLen) :
  Calls Tryz.prog 136 #[v] w (Ret (fun x _=>x=.int .i64 (headE hd)) w):=by
 have HS:=zO h
 obtain⟨A,c,rfl,hc,hat⟩:=h
 obtain⟨n,hn⟩:∃n,n=hd.length:=⟨_,rfl⟩
 rw[←hn]at hc HS ⊢
 have HN:=zO hn;have HAT:=zO hat;have HZ:=zO hz
 clear hn hat hz
 by_cases h6:¬n≤6
 ·have HE:=zO (show headE hd=12 from if_neg (by rw[←HN.out];exact h6))
  have h7:(6:Int)<(n:Int):=by omega
  rw[HE.out]
  go_enter Tryz.func136,Tryz.ntmps136
  go_wp2_with fail
  go_ret
  exact Ret.mk (Ext.refl w) rfl
 have h7:¬(6:Int)<(n:Int):=by omega
 have hEE:headE hd=_:=if_pos (by rw[←HN.out];omega)
 obtain⟨f,hf⟩:∃f:Nat→Int,f=(fun i=>if nameB (hd.getD i ⟨#[]⟩)=true then (if hd.getD i ⟨#[]⟩∈hd.take i then 8 else 0) else 7):=⟨_,rfl⟩
 rw[←hf,←HN.out]at hEE
 have HEE:=zO hEE;have HF:=zO hf
 clear hEE hf
 go_enter Tryz.func136,Tryz.ntmps136
 go_wp2_with fail
 go_loopw [10] (fun q wr=>∃i:Nat,i≤n∧q=.int .i64 (i:Int)∧Hid (∀j,j<i→f j=0)∧w=wr) (fun q _=>n-(intOf q).toNat)
 case atStart=>exact⟨0,jn _,rfl,zO (fun _ h=>absurd h (by omega)),rfl⟩
 case round =>
  obtain⟨i,hi,rfl,H,rfl⟩:=hrel
  by_cases hlt:i<n
  ·have i1:(0:Int)≤(i:Int):=by omega
   have i2:(i:Int)<(n:Int):=by omega
   have i3:(i:Int)≤(c:Int):=by omega
   have hix:i<hd.length:=by have:=HN.out;omega
   obtain⟨ad,rfl,-,c0⟩:=HAT.out.str hix
   have hzi:=HZ.out _ (jg hix)
   have hg:hd.getD i ⟨#[]⟩=hd[i]:=by simp[hix]
   have hfi:f i=if nameB hd[i]=true then (if hd[i]∈hd.take i then 8 else 0) else 7:=by rw[HF.out];simp only[hg]
   have hgo:f i=0→∀j,j<i+1→f j=0:=fun h j hj=>by
    rcases jB j i with h1|h1
    ·exact H.out j h1
    ·have:j=i:=by omega
     subst this;exact h
   have hst:∀m:Int,m≠0→f i=m→headE hd=m:=fun m hm h=>by rw[HEE.out,firstI_at hlt H.out (by rw[h];exact hm),h]
   have HC:=zO (contains_str (s:=hd[i]) (HS.out.take (i:=i) (by omega)) (by rw[ju];simp only[maxLen];omega))
   obtain⟨x,hx⟩:∃x,x=hd[i]:=⟨_,rfl⟩
   rw[←hx]at c0 hzi hfi HC
   have HFI:=zO hfi;have HGO:=zO hgo;have HST:=zO hst
   clear hg hfi hgo hst hx
   by_cases hnm:nameB x=true
   ·by_cases hin:x∈hd.take i
    ·have HQ:=zO (HST.out 8 (by decide) (by rw[HFI.out,if_pos hnm,if_pos hin]))
     have HNM:=zO hnm;have HIN:=zO (decide_eq_true hin)
     clear hnm hin
     go_wp2_with fail
     refine(valid_any x _ hzi).mono ?_
     rintro e w' ⟨rfl,rfl⟩
     rw[HNM.out]
     go_wp2_with fail
     refine HC.out.mono ?_
     rintro e w' ⟨rfl,rfl⟩
     rw[HIN.out]
     go_wp2_with fail
     go_ret
     exact Ret.mk (Ext.refl _) (ret_i HQ.out)
    ·have HG:=zO (HGO.out (by rw[HFI.out,if_pos hnm,if_neg hin]))
     have HNM:=zO hnm;have HIN:=zO (decide_eq_false hin)
     clear hnm hin
     go_wp2_with fail
     refine(valid_any x _ hzi).mono ?_
     rintro e w' ⟨rfl,rfl⟩
     rw[HNM.out]
     go_wp2_with fail
     refine HC.out.mono ?_
     rintro e w' ⟨rfl,rfl⟩
     rw[HIN.out]
     go_wp2_with fail
     go_roundw
     case rel=>exact⟨i+1,by omega,by go_num,HG,trivial⟩
     case measure=>simp[intOf];omega
   ·have HQ:=zO (HST.out 7 (by decide) (by rw[HFI.out,if_neg hnm]))
    rw[Bool.not_eq_true]at hnm
    have HNM:=zO hnm
    clear hnm
    go_wp2_with fail
    refine(valid_any x _ hzi).mono ?_
    rintro e w' ⟨rfl,rfl⟩
    rw[HNM.out]
    go_wp2_with fail
    go_ret
    exact Ret.mk (Ext.refl _) (ret_i HQ.out)
  ·obtain rfl:i=n:=by omega
   have hdi:¬(i:Int)<(i:Int):=by omega
   have HQ:Hid (headE hd=0):=zO (by rw[HEE.out];exact firstI_zero.2 H.out)
   go_wp2_with fail
   go_ret
   exact Ret.mk (Ext.refl _) (ret_i HQ.out)
set_option maxRecDepth 20000 in
set_option maxHeartbeats 800000 in
theorem checkAgg_any{w:World}{A B O:Option Addr}{na ca nb cb no co:Nat}{ag:Int}{av:ByteArray}(hz:av.size≤maxLen) :
  Calls Tryz.prog 137 #[.agg #[.slice A na ca,.int .i64 ag,.string av,.slice B nb cb,.slice O no co]] w (Ret (fun x _=>x=.int .i64 (aggE ag av)) w):=by
 by_cases h01:ag=0∨ag=1
 ·by_cases hv:av=⟨#[]⟩
  ·have HE:=zO (show aggE ag av=0 from (if_pos h01).trans (if_pos hv))
   have hve:=var_eq hv
   clear hv
   rcases h01 with rfl|rfl
   all_goals
    rw[HE.out]
    go_enter Tryz.func137,Tryz.ntmps137
    go_wp2_with fail
    go_ret
    exact Ret.mk ((Ext.refl w).alloc _) rfl
  ·have HE:=zO (show aggE ag av=1 from (if_pos h01).trans (if_neg hv))
   have hve:=var_ne hv
   clear hv
   rcases h01 with rfl|rfl
   all_goals
    rw[HE.out]
    go_enter Tryz.func137,Tryz.ntmps137
    go_wp2_with fail
    go_ret
    exact Ret.mk ((Ext.refl w).alloc _) rfl
 ·by_cases h24:ag=2∨ag=3∨ag=4
  ·by_cases hv:nameB av=true
   ·have HE:=zO (show aggE ag av=0 from (if_neg h01).trans ((if_pos h24).trans (if_pos hv)))
    have HV:=zO hv
    clear hv h01
    rcases h24 with rfl|rfl|rfl
    all_goals
     rw[HE.out]
     go_enter Tryz.func137,Tryz.ntmps137
     go_wp2_with fail
     refine(valid_any av _ hz).mono ?_
     rintro e w' ⟨rfl,rfl⟩
     rw[HV.out]
     go_wp2_with fail
     go_ret
     exact Ret.mk ((Ext.refl w).alloc _) rfl
   ·have HE:=zO (show aggE ag av=7 from (if_neg h01).trans ((if_pos h24).trans (if_neg hv)))
    rw[Bool.not_eq_true]at hv
    have HV:=zO hv
    clear hv h01
    rcases h24 with rfl|rfl|rfl
    all_goals
     rw[HE.out]
     go_enter Tryz.func137,Tryz.ntmps137
     go_wp2_with fail
     refine(valid_any av _ hz).mono ?_
     rintro e w' ⟨rfl,rfl⟩
     rw[HV.out]
     go_wp2_with fail
     go_ret
     exact Ret.mk ((Ext.refl w).alloc _) rfl
  ·have HE:=zO (show aggE ag av=2 from (if_neg h01).trans (if_neg h24))
   have k0:(ag == 0)=false:=beq_false_of_ne (fun e=>h01 (.inl e))
   have k1:(ag == 1)=false:=beq_false_of_ne (fun e=>h01 (.inr e))
   have k2:(ag == 2)=false:=beq_false_of_ne (fun e=>h24 (.inl e))
   have k3:(ag == 3)=false:=beq_false_of_ne (fun e=>h24 (.inr (.inl e)))
   have k4:(ag == 4)=false:=beq_false_of_ne (fun e=>h24 (.inr (.inr e)))
   clear h01 h24
   rw[HE.out]
   go_enter Tryz.func137,Tryz.ntmps137
   go_wp2_with fail
   go_ret
   exact Ret.mk ((Ext.refl w).alloc _) rfl
end Go.Proofs.YtplldnnnhgnbjaaGreatDoor
namespace Go.Proofs.YtplldnnnhgnbjaaGreatDoor
open Go.RowKit Go.Maps
theorem info_key:(Tryz.prog.info? 208).map (fun i=>(i.zero,i.size,i.bytes))=some (some (.agg #[.string ⟨#[]⟩,.bool false]),2,24):=by kernel_rfl
theorem info_int:(Tryz.prog.info? 3).map (fun i=>(i.zero,i.size,i.bytes))=some (some (.int .i64 0),1,8):=by kernel_rfl
theorem info_string:(Tryz.prog.info? 9).map (fun i=>(i.zero,i.size,i.bytes))=some (some (.string ⟨#[]⟩),1,16):=by kernel_rfl
set_option maxRecDepth 20000 in
set_option maxHeartbeats 1600000 in
theorem clone_keys{F:Nat→Prop}{w:World}{A:Option Addr}{n c:Nat}{xs:List Value}(hcl:Cl F w A xs)(hl:xs.length=n*2)(h1:∀u∈xs,u.oneCell'=true)(hn:n≤1048576) :
  Calls Tryz.prog 108 #[.slice A n c] w (Ret (fun x w'=>w'.ownsRow w.heap.size 208 2 x n xs) w):=by
 obtain⟨i0,hi0,hz0,hz1,hz2⟩:=info_parts info_key
 have HI0:=zO (And.intro hi0 (And.intro hz0 (And.intro hz1 hz2)));clear hi0 hz0 hz1 hz2
 have HCL:=zO hcl;have HL:=zO hl;have HO:=zO h1
 clear hl h1
 rcases A with _|ad
 ·have HX:Hid (n=0∧xs=[]):=zO (by
   rcases hcl with rfl|⟨ad,e,-⟩
   ·have:=HL.out;simp at this;exact⟨by omega,rfl⟩
   ·cases e)
  clear hcl
  have q22:∀(w:World) (n c n' c':Nat),(binOp .eql 26 (.slice none n c) (.slice none n' c')).run Tryz.prog w=.ok (.bool true) w:=fun w n c n' c'=>Lib.run_eql_slice_nil w _ _ none n c n' c' Tryz.underlying26
  go_enter Tryz.func108,Tryz.ntmps108
  go_wp2_with fail
  go_ret
  exact Ret.mk (Ext.refl _) (by rw[HX.out.1,HX.out.2];exact World.ownsRow_nil _ _ _ _)
 ·have q22:∀(w:World) (a:Addr) (n c n' c':Nat),(binOp .eql 26 (.slice (some a) n c) (.slice none n' c')).run Tryz.prog w=.ok (.bool false) w:=fun w a n c n' c'=>Lib.run_eql_slice_nil w _ _ (some a) n c n' c' Tryz.underlying26
  clear hcl
  go_enter Tryz.func108,Tryz.ntmps108
  go_wp2_with (first|(at_builtin;refine wpList_append_opt rfl _ _ 26 rfl w.heap.size 208 i0 (.agg #[.string ⟨#[]⟩,.bool false]) 2 24 Tryz.underlying26 HI0.out.1 HI0.out.2.1 HI0.out.2.2.1 HI0.out.2.2.2 rfl (by omega) (.slice (some ⟨w.heap.size,0,none⟩) 0 0) 0 [] rfl (World.ownsRow_made w #[] 0 (jq _) (jn _) rfl) (some ad) n c xs rfl HL.out ((HCL.out.ext ((Ext.refl w).alloc _)).news) HO.out (by simp only[maxLen];omega) (by omega) (by simp) ?_;intro v9 w9 hr9 hg9 hl9;rw[jW,jX]at hr9;obtain⟨A9,c9,rfl⟩:=own_slice hr9;have HR9:=zO hr9;have HE9:Hid (Ext w w9):=zO (((Ext.refl w).alloc _).grown hg9 (fun q hq=>by simp[Value.ownBlock]at hq;omega));clear hr9 hg9 hl9))
  go_ret
  exact Ret.mk HE9.out HR9.out
set_option maxRecDepth 20000 in
set_option maxHeartbeats 1600000 in
theorem clone_strs{F:Nat→Prop}{w:World}{A:Option Addr}{n c:Nat}{xs:List Value}(hcl:Cl F w A xs)(hl:xs.length=n*1)(h1:∀u∈xs,u.oneCell'=true)(hn:n≤1048576) :
  Calls Tryz.prog 107 #[.slice A n c] w (Ret (fun x w'=>w'.ownsRow w.heap.size 9 1 x n xs) w):=by
 obtain⟨i0,hi0,hz0,hz1,hz2⟩:=info_parts info_string
 have HI0:=zO (And.intro hi0 (And.intro hz0 (And.intro hz1 hz2)));clear hi0 hz0 hz1 hz2
 have HCL:=zO hcl;have HL:=zO hl;have HO:=zO h1
 clear hl h1
 rcases A with _|ad
 ·have HX:Hid (n=0∧xs=[]):=zO (by
   rcases hcl with rfl|⟨ad,e,-⟩
   ·have:=HL.out;simp at this;exact⟨by omega,rfl⟩
   ·cases e)
  clear hcl
  have q22:∀(w:World) (n c n' c':Nat),(binOp .eql 24 (.slice none n c) (.slice none n' c')).run Tryz.prog w=.ok (.bool true) w:=fun w n c n' c'=>Lib.run_eql_slice_nil w _ _ none n c n' c' Tryz.underlying24
  go_enter Tryz.func107,Tryz.ntmps107
  go_wp2_with fail
  go_ret
  exact Ret.mk (Ext.refl _) (by rw[HX.out.1,HX.out.2];exact World.ownsRow_nil _ _ _ _)
 ·have q22:∀(w:World) (a:Addr) (n c n' c':Nat),(binOp .eql 24 (.slice (some a) n c) (.slice none n' c')).run Tryz.prog w=.ok (.bool false) w:=fun w a n c n' c'=>Lib.run_eql_slice_nil w _ _ (some a) n c n' c' Tryz.underlying24
  clear hcl
  go_enter Tryz.func107,Tryz.ntmps107
  go_wp2_with (first|(at_builtin;refine wpList_append_opt rfl _ _ 24 rfl w.heap.size 9 i0 (.string ⟨#[]⟩) 1 16 Tryz.underlying24 HI0.out.1 HI0.out.2.1 HI0.out.2.2.1 HI0.out.2.2.2 rfl (by omega) (.slice (some ⟨w.heap.size,0,none⟩) 0 0) 0 [] rfl (World.ownsRow_made w #[] 0 (jq _) (jn _) rfl) (some ad) n c xs rfl HL.out ((HCL.out.ext ((Ext.refl w).alloc _)).news) HO.out (by simp only[maxLen];omega) (by omega) (by simp) ?_;intro v9 w9 hr9 hg9 hl9;rw[jW,jX]at hr9;obtain⟨A9,c9,rfl⟩:=own_slice hr9;have HR9:=zO hr9;have HE9:Hid (Ext w w9):=zO (((Ext.refl w).alloc _).grown hg9 (fun q hq=>by simp[Value.ownBlock]at hq;omega));clear hr9 hg9 hl9))
  go_ret
  exact Ret.mk HE9.out HR9.out
set_option maxRecDepth 20000 in
set_option maxHeartbeats 1600000 in
theorem clone_ints{F:Nat→Prop}{w:World}{A:Option Addr}{n c:Nat}{xs:List Value}(hcl:Cl F w A xs)(hl:xs.length=n*1)(h1:∀u∈xs,u.oneCell'=true)(hn:n≤1048576) :
  Calls Tryz.prog 85 #[.slice A n c] w (Ret (fun x w'=>w'.ownsRow w.heap.size 3 1 x n xs) w):=by
 obtain⟨i0,hi0,hz0,hz1,hz2⟩:=info_parts info_int
 have HI0:=zO (And.intro hi0 (And.intro hz0 (And.intro hz1 hz2)));clear hi0 hz0 hz1 hz2
 have HCL:=zO hcl;have HL:=zO hl;have HO:=zO h1
 clear hl h1
 rcases A with _|ad
 ·have HX:Hid (n=0∧xs=[]):=zO (by
   rcases hcl with rfl|⟨ad,e,-⟩
   ·have:=HL.out;simp at this;exact⟨by omega,rfl⟩
   ·cases e)
  clear hcl
  have q22:∀(w:World) (n c n' c':Nat),(binOp .eql 63 (.slice none n c) (.slice none n' c')).run Tryz.prog w=.ok (.bool true) w:=fun w n c n' c'=>Lib.run_eql_slice_nil w _ _ none n c n' c' Tryz.underlying63
  go_enter Tryz.func85,Tryz.ntmps85
  go_wp2_with fail
  go_ret
  exact Ret.mk (Ext.refl _) (by rw[HX.out.1,HX.out.2];exact World.ownsRow_nil _ _ _ _)
 ·have q22:∀(w:World) (a:Addr) (n c n' c':Nat),(binOp .eql 63 (.slice (some a) n c) (.slice none n' c')).run Tryz.prog w=.ok (.bool false) w:=fun w a n c n' c'=>Lib.run_eql_slice_nil w _ _ (some a) n c n' c' Tryz.underlying63
  clear hcl
  go_enter Tryz.func85,Tryz.ntmps85
  go_wp2_with (first|(at_builtin;refine wpList_append_opt rfl _ _ 63 rfl w.heap.size 3 i0 (.int .i64 0) 1 8 Tryz.underlying63 HI0.out.1 HI0.out.2.1 HI0.out.2.2.1 HI0.out.2.2.2 rfl (by omega) (.slice (some ⟨w.heap.size,0,none⟩) 0 0) 0 [] rfl (World.ownsRow_made w #[] 0 (jq _) (jn _) rfl) (some ad) n c xs rfl HL.out ((HCL.out.ext ((Ext.refl w).alloc _)).news) HO.out (by simp only[maxLen];omega) (by omega) (by simp) ?_;intro v9 w9 hr9 hg9 hl9;rw[jW,jX]at hr9;obtain⟨A9,c9,rfl⟩:=own_slice hr9;have HR9:=zO hr9;have HE9:Hid (Ext w w9):=zO (((Ext.refl w).alloc _).grown hg9 (fun q hq=>by simp[Value.ownBlock]at hq;omega));clear hr9 hg9 hl9))
  go_ret
  exact Ret.mk HE9.out HR9.out
end Go.Proofs.YtplldnnnhgnbjaaGreatDoor
namespace Go.Proofs.YtplldnnnhgnbjaaGreatDoor
open Go.RowKit Go.Maps
theorem zeroCells_one(z:Value)(hz:z.cells=#[z])(n:Nat):Builtin.zeroCells z.cells n=(List.replicate n z).toArray:=by
 rw[hz]
 apply Array.toList_inj.1
 refine jY (by simp[Builtin.zeroCells]) (fun i h1 h2=>?_)
 simp[Builtin.zeroCells,Nat.mod_one]
set_option maxRecDepth 20000 in
set_option maxHeartbeats 800000 in
theorem grow_nil{w:World}{n:Nat}(hn:n≤1048576) :
  Calls Tryz.prog 252 #[.slice none 0 0,.int .i64 (n:Int)] w (Ret (fun x w'=>w'.ownsRow w.heap.size 9 1 x 0 []) w):=by
 by_cases h0:n=0
 ·subst h0
  go_enter Tryz.func252,Tryz.ntmps252
  go_wp2_with fail
  go_ret
  exact Ret.mk (Ext.refl _) (World.ownsRow_nil _ _ _ _)
 have hp : 0<n:=by omega
 have hp1:(0:Int)<(n:Int):=by omega
 have hp2:¬(n:Int)<0:=by omega
 clear h0
 obtain⟨i0,hi0,hz0,hz1,hz2⟩:=info_parts info_string
 obtain⟨W1,G,ROW,hrz,hG,hGm,hRl,hW1⟩:∃(W1:World) (G:Nat) (ROW:List Value),(∀ty,(Builtin.append_ #[24,3] ty #[.slice none 0 0,.int .i64 (n:Int)]).run Tryz.prog w=.ok (.slice (some ⟨w.heap.size,0,none⟩) n G) W1)∧n≤G∧G≤maxLen∧ROW.length=G∧W1=w.drew.alloc (.cells ROW.toArray 9):=by
  refine⟨_,grownCap w n 0 9,List.replicate n (.string ⟨#[]⟩)++List.replicate (grownCap w n 0 9-n) (.string ⟨#[]⟩),fun ty=>?_,grownCap_ge w n 0 9,grownCap_le_maxLen w n 0 9 (by unfold maxLen;omega),?_,rfl⟩
  ·have h:=Lib.run_append_grow_zeros w 24 3 ty 9 i0 _ .i64 .i64 Tryz.underlying24 Tryz.underlying3 hi0 hz0 none 0 0 [] (by simp[Builtin.firstCells]) n hp (by omega) (by omega) (by omega) (by rw[hz2];omega) (by rw[hz2];exact growslice_fits (by omega) (by omega))
   rw[jW,zeroCells_one _ rfl,zeroCells_one _ rfl,List.append_toArray,List.append_toArray,jX]at h
   exact h
  ·have:=grownCap_ge w n 0 9
   simp;omega
 have hown:W1.ownsRow w.heap.size 9 1 (.slice (some ⟨w.heap.size,0,none⟩) 0 G) 0 []:=by
  rw[hW1]
  exact World.ownsRow_made w.drew ROW.toArray G (jq _) hGm (by simp[hRl])
 have hext:Ext w W1:=by rw[hW1];exact(Ext.refl w).drew.alloc _
 have HOWN:=zO hown;have HEXT:=zO hext
 have hG1:(0:Int)≤(G:Int):=by omega
 unfold maxLen at hGm
 have hG2:(G:Int)≤9223372036854775807:=by omega
 clear hW1 hRl hown hext
 go_enter Tryz.func252,Tryz.ntmps252
 go_wp2_with (first|(at_builtin;refine Lib.wpList_append_run _ rfl _ _ _ _ rfl _ _ rfl rfl _ _ (hrz _) ?_))
 go_ret
 exact Ret.mk HEXT.out HOWN.out
set_option maxRecDepth 20000 in
set_option maxHeartbeats 1600000 in
theorem concat2{F G:Nat→Prop}{w:World}{g:Nat}{A B:Option Addr}{na ca nb cb:Nat}{l m:List ByteArray}(kb:Bk w g 24 [.slice A na ca,.slice B nb cb])(hA:Strs F w (.slice A na ca) l)(hB:Strs G w (.slice B nb cb) m)(hs:l.length+m.length≤1048576) :
  Calls Tryz.prog 209 #[.slice (some ⟨g,0,none⟩) 2 2] w (Ret (fun x w'=>w'.ownsRow w.heap.size 9 1 x (l.length+m.length) (l.map Sv++m.map Sv)) w):=by
 obtain⟨A',c',e,hca,hcl⟩:=hA
 injection e with e1 e2 e3
 subst e1 e3
 obtain⟨B',d',e,hcb,hcm⟩:=hB
 injection e with e1 e4 e3
 subst e1 e3
 rw[←e2]at hca hs ⊢
 rw[←e4]at hcb hs ⊢
 have HE2:=zO e2;have HE4:=zO e4;have HCL:=zO hcl;have HCM:=zO hcm;have HKB:=zO kb
 have c0:=kb.cell (i:=0) (by simp);have c1:=kb.cell (i:=1) (by simp)
 simp only[ja,je]at c0 c1
 obtain⟨i0,hi0,hz0,hz1,hz2⟩:=info_parts info_string
 have HI0:=zO (And.intro hi0 (And.intro hz0 (And.intro hz1 hz2)));clear hi0 hz0 hz1 hz2
 have HL:Hid ((l.map Sv).length=na*1∧(m.map Sv).length=nb*1):=zO ⟨by simp;omega,by simp;omega⟩
 clear e2 e4 hcl hcm kb
 have k1:(0:Int)≤(na:Int):=by omega
 have k2:¬(na:Int)<0:=by omega
 have k3:¬(na:Int)+(nb:Int)<0:=by omega
 have hn:na+nb≤1048576:=hs
 go_enter Tryz.func209,Tryz.ntmps209
 go_wp2_with fail
 refine wp_loop_rounds 3 ?_
 rw[rounds_succ]
 go_wp2_with fail
 rw[rounds_succ]
 go_wp2_with fail
 rw[rounds_succ]
 go_wp2_with fail
 have hgrow:=grow_nil (w:=w) hn
 rw[show ((na+nb:Nat):Int)=(na:Int)+(nb:Int) by omega]at hgrow
 refine hgrow.mono ?_
 rintro e w1 ⟨v1,rfl,he,hown⟩
 obtain⟨A1,n1,rfl⟩:=own_slice hown
 replace c0:=he.cell c0;replace c1:=he.cell c1
 have HOWN:=zO hown;have HX:=zO he
 clear hgrow hown he
 go_wp2_with fail
 refine wp_loop_rounds 3 ?_
 rw[rounds_succ]
 go_wp2_with (first|(at_builtin;refine wpList_append_opt rfl _ _ 24 rfl w.heap.size 9 i0 (.string ⟨#[]⟩) 1 16 Tryz.underlying24 HI0.out.1 HI0.out.2.1 HI0.out.2.2.1 HI0.out.2.2.2 rfl (by omega) (.slice A1 0 n1) 0 [] rfl HOWN.out A na ca (l.map Sv) rfl HL.out.1 ((HCL.out.ext HX.out).news) (by simp[Value.oneCell']) (by simp only[maxLen];omega) (by omega) HX.out.size ?_;intro v9 w9 hr9 hg9 hl9;rw[jW,jX]at hr9;obtain⟨A9,c9,rfl⟩:=own_slice hr9;have HR9:=zO hr9;have hx9:Ext w w9:=HX.out.grown hg9 (fun q hq=>own_ge HOWN.out hq);have b0:=(HKB.out.ext hx9).cell (i:=0) (by simp);have b1:=(HKB.out.ext hx9).cell (i:=1) (by simp);simp only[ja,je]at b0 b1;have HX9:=zO hx9;clear hr9 hg9 hl9 hx9))
 rw[rounds_succ]
 go_wp2_with (first|(at_builtin;refine wpList_append_opt rfl _ _ 24 rfl w.heap.size 9 i0 (.string ⟨#[]⟩) 1 16 Tryz.underlying24 HI0.out.1 HI0.out.2.1 HI0.out.2.2.1 HI0.out.2.2.2 rfl (by omega) (.slice A9 na c9) na (l.map Sv) rfl HR9.out B nb cb (m.map Sv) rfl HL.out.2 ((HCM.out.ext HX9.out).news) (by simp[Value.oneCell']) (by simp only[maxLen];omega) (by omega) HX9.out.size ?_;intro v8 w8 hr8 hg8 hl8;obtain⟨A8,c8,rfl⟩:=own_slice hr8;have HR8:=zO hr8;have HX8:Hid (Ext w w8):=zO (HX9.out.grown hg8 (fun q hq=>own_ge HR9.out hq));clear hr8 hg8 hl8))
 rw[rounds_succ]
 go_wp2_with fail
 go_ret
 exact Ret.mk HX8.out HR8.out
end Go.Proofs.YtplldnnnhgnbjaaGreatDoor
