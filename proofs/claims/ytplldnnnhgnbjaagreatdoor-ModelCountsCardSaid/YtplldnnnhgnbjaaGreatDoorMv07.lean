/- packed -/
import Derived.Test.YtplldnnnhgnbjaaGreatDoorMv06
import Derived.Lib.AppendZerosOnto
set_option maxRecDepth 20000
set_option maxHeartbeats 1600000
namespace Go.Proofs.YtplldnnnhgnbjaaGreatDoor
open Go.RowKit Go.Maps
def dK(l:List Tm)(s:ByteArray):Bool:=decide (s≠⟨#[]⟩) && l.any (fun t=>decide (t.var=s))
def ei(l:List Tm):ByteArray→Option Value:=fun s=>if dK l s=true then some (.bool true) else none
theorem cU{l:List Tm}{s:ByteArray}:dK l s=true↔s≠⟨#[]⟩∧∃t∈l,t.var=s:=by
 unfold dK
 rw[Bool.and_eq_true,decide_eq_true_iff,jM]
 simp
theorem hasF_nil:ei []=fun _=>none:=by
 funext s
 unfold ei
 rw[if_neg (fun h=>by obtain⟨-,t,h,-⟩:=cU.1 h;simp at h)]
theorem oR{l:List Tm}{t:Tm}(h:t.var=⟨#[]⟩):ei (l++[t])=ei l:=by
 funext s
 unfold ei
 have e:dK (l++[t]) s=dK l s:=m9 (by
  rw[cU,cU]
  constructor
  ·rintro⟨h1,u,hu,rfl⟩
   rcases ju.1 hu with hu|hu
   ·exact⟨h1,u,hu,rfl⟩
   ·rw[jq.1 hu]at h1
    exact absurd h h1
  ·rintro⟨h1,u,hu,rfl⟩
   exact⟨h1,u,jP _ hu,rfl⟩)
 rw[e]
theorem qP{l:List Tm}{t:Tm}(h:¬t.var=⟨#[]⟩):cI (ei l) t.var (some (.bool true))=ei (l++[t]):=by
 funext s
 unfold cI ei
 by_cases hs:s=t.var
 ·rw[if_pos hs,if_pos (cU.2 ⟨by rw[hs];exact h,t,by simp,hs.symm⟩)]
 ·rw[if_neg hs]
  have e:dK (l++[t]) s=dK l s:=m9 (by
   rw[cU,cU]
   constructor
   ·rintro⟨h1,u,hu,rfl⟩
    rcases ju.1 hu with hu|hu
    ·exact⟨h1,u,hu,rfl⟩
    ·rw[jq.1 hu]at hs
     exact absurd rfl hs
   ·rintro⟨h1,u,hu,rfl⟩
    exact⟨h1,u,jP _ hu,rfl⟩)
  rw[e]
def MapPost(w:World)(f:ByteArray→Option Value)(M:Nat)(e:Ending)(w':World):Prop:=∃b m,e=.returned (.map (some b))∧Ext w w'∧w.heap.size≤b∧m≤M∧aI w' b m f
theorem aI.made_le(w:World):aI (w.alloc (.map #[] 0)) w.heap.size 0 (ei []):=by rw[hasF_nil];exact aI.made w
theorem iV{F:Nat→Prop}{w:World}{v:Value}{a:At}(hT:Ts F w v a.terms)(hz:TmZ a.terms)(hl:a.terms.length≤1048576) :
  Calls Tryz.prog 210 #[.agg #[.bool a.neg,.string a.rel,v]] w (MapPost w (ei a.terms) 1048576):=by
 obtain⟨ng,rl,ts⟩:=a
 simp only at hT hz hl ⊢
 obtain⟨A,c,rfl,hc,sq⟩:=hT
 obtain⟨n,hn⟩:=sd ts.length
 rw[←hn]at hc hl ⊢
 have HN:=zN hn;have sx:=zN sq;have HZ:=zN hz
 have sC:=@run_makeMap Tryz.prog
 clear hn sq hz
 go_enter Tryz.func210,Tryz.ntmps210
 go_wp2_with fail
 have hx:Ext w ((w.alloc (.cells #[.bool ng,.string rl,.slice A n c] 49)).alloc (.map #[] 0)):=((Ext.refl w).alloc _).alloc _
 have sh:=aI.made_le (w.alloc (.cells #[.bool ng,.string rl,.slice A n c] 49))
 rw[show (w.alloc (.cells #[.bool ng,.string rl,.slice A n c] 49)).heap.size=w.heap.size+1 by simp]at sh
 generalize ((w.alloc (.cells #[.bool ng,.string rl,.slice A n c] 49)).alloc (.map #[] 0))=w1 at *
 have sA:=zN sh
 clear sh sC
 go_loopw [10] (fun t wr=>∃i m:Nat,i≤n∧m≤i∧t=.int .i64 (i:Int)∧aI wr (w.heap.size+1) m (ei (ts.take i))∧Ext w wr) (fun t _=>n-(intOf t).toNat)
 case atStart=>exact⟨0,0,jn _,jo _,rfl,sA.out,hx⟩
 case round =>
  obtain⟨i,m,hi,sF,rfl,hM,sj⟩:=hrel
  obtain⟨W,rfl⟩:∃W:World,W=wr:=⟨_,rfl⟩
  have HX:=zN sj;have se:=zN hM
  clear hM
  by_cases hlt:i<n
  ·have i1:(0:Int)≤(i:Int):=by omega
   have i2:(i:Int)<(n:Int):=by omega
   have sg:i<ts.length:=by have:=HN.out;omega
   obtain⟨ad,rfl,-,d0,d1,d2,d3⟩:=sx.out.term sg
   replace d0:=HX.out.cell d0;replace d1:=HX.out.cell d1;replace d2:=HX.out.cell d2;replace d3:=HX.out.cell d3
   have sw:=(HZ.out _ (jf sg)).1
   have si:=jj sg
   obtain⟨x,hx⟩:=sd (ts[i])
   rw[←hx]at d0 d1 d2 d3 sw si
   have sp:=zN si
   have hW:w.heap.size≤W.heap.size:=sj.size
   clear si hx sj
   by_cases hv:x.var=⟨#[]⟩
   ·have sD:=gw hv
    have HS:=zN (oR (l:=ts.take i) hv)
    clear hv
    go_wp2_with fail
    go_roundw
    case rel=>exact⟨i+1,m,by omega,by omega,by go_num,by rw[sp.out,HS.out];exact se.out.ext ((Ext.refl W).alloc _),HX.out.alloc _⟩
    case measure=>simp[intOf];omega
   ·have sD:=gy hv
    have HS:=zN (qP (l:=ts.take i) hv)
    clear hv
    go_wp2_with (first
     | (refine aN rfl _ _ _ 121 4 rfl Tryz.underlying121 (w.heap.size+1) m (ei (ts.take i)) rfl (se.out.ext ((Ext.refl W).alloc _)) (by simp only[maxLen];omega) x.var (.bool true) rfl sw rfl ?_;intro w5 su sr;have sB:=zN su;have sy:=zN sr;clear su sr))
    go_roundw
    case rel=>exact⟨i+1,m+1,by omega,by omega,by go_num,by rw[sp.out,←HS.out];exact sB.out,(HX.out.alloc _).grown sy.out (fun k e=>by injection e with e;omega)⟩
    case measure=>simp[intOf];omega
  ·obtain rfl:i=n:=by omega
   have sE:¬(i:Int)<(i:Int):=by omega
   have et:ts.take i=ts:=by rw[HN.out];exact jT
   rw[et]at se
   clear et
   go_wp2_with fail
   go_ret
   exact⟨w.heap.size+1,m,rfl,HX.out,by omega,by omega,se.out⟩
theorem pk{xs:List At}{i:Nat}(hi:i<xs.length):de (xs.take (i+1))=de (xs.take i)++(if xs[i].neg=true then [] else xs[i].terms):=by
 rw[jj hi]
 unfold de
 rw[zz]
 simp
theorem p9{F:Nat→Prop}{w:World}{va:Value}{C:Option Addr}{nc cc:Nat}{xs:List At}(hA:Ats F w va xs)(hz:∀a∈xs,TmZ a.terms)(td:xs.length≤524288)(sM:(aY xs).length≤524288) :
  Calls Tryz.prog 208 #[.agg #[va,.slice C nc cc]] w (MapPost w (ei (de xs)) 1048576):=by
 obtain⟨A,c,rfl,hc,sK⟩:=hA.at'
 obtain⟨n,hn⟩:=sd xs.length
 rw[←hn]at hc td ⊢
 have HN:=zN hn;have sS:=zN sK;have HZ:=zN hz;have sB:=zN sM
 have te:=@run_makeMap Tryz.prog
 clear hn sK hz hA sM
 go_enter Tryz.func208,Tryz.ntmps208
 go_wp2_with fail
 have hx:Ext w ((w.alloc (.cells #[.slice A n c,.slice C nc cc] 46)).alloc (.map #[] 0)):=((Ext.refl w).alloc _).alloc _
 have sG:=aI.made_le (w.alloc (.cells #[.slice A n c,.slice C nc cc] 46))
 rw[show (w.alloc (.cells #[.slice A n c,.slice C nc cc] 46)).heap.size=w.heap.size+1 by simp]at sG
 generalize ((w.alloc (.cells #[.slice A n c,.slice C nc cc] 46)).alloc (.map #[] 0))=w1 at *
 have sV:=zN sG
 clear sG te
 go_loopw [12] (fun t wr=>∃i m:Nat,i≤n∧m≤(aY (xs.take i)).length∧t=.int .i64 (i:Int)∧aI wr (w.heap.size+1) m (ei (de (xs.take i)))∧Ext w wr) (fun t _=>n-(intOf t).toNat)
 case atStart=>exact⟨0,0,jn _,jn _,rfl,sV.out,hx⟩
 case round =>
  obtain⟨i,m0,hi,sN,rfl,hM,sP⟩:=hrel
  obtain⟨W,rfl⟩:∃W:World,W=wr:=⟨_,rfl⟩
  have HX:=zN sP;have sC:=zN hM;have su:=zN sN
  clear hM sN
  by_cases hlt:i<n
  ·have i1:(0:Int)≤(i:Int):=by omega
   have i2:(i:Int)<(n:Int):=by omega
   have sj:i<xs.length:=by have:=HN.out;omega
   obtain⟨ad,Bt,dt,rfl,-,c0,c1,c2,hd,sw⟩:=sS.out i sj
   replace c0:=HX.out.cell c0;replace c1:=HX.out.cell c1;replace c2:=HX.out.cell c2
   have sy:=HZ.out _ (jf sj)
   have sg:=pk sj
   have sx:=lw sj
   have si:=kT (xs:=xs) (i+1)
   rw[cK sj,jm]at si
   have sh:=zN (cK sj)
   obtain⟨⟨ng,rl,ts⟩,ha⟩:=sd (xs[i])
   rw[←ha]at c0 c1 c2 hd sw sy sg sx si sh
   simp only at c0 c1 c2 hd sw sy sg sx si sh
   obtain⟨nt,sH⟩:=sd ts.length
   rw[←sH]at c2 hd sx si
   have tf:nt≤524288:=by have:=sB.out;omega
   have sR:=zN si
   have sY:=zN sg;have sE:=zN sH;have sT:=zN sw;have ta:=zN sy
   clear sg sH sw sy ha sx si sP
   go_wp2_with fail
   have kx:=Bk.new W 49 [.bool ng,.string rl,.slice Bt nt dt]
   change Bk (W.alloc (.cells #[.bool ng,.string rl,.slice Bt nt dt] 49)) _ _ _ at kx
   have hx1:Ext W (W.alloc (.cells #[.bool ng,.string rl,.slice Bt nt dt] 49)):=(Ext.refl W).alloc _
   have tj:W.heap.size<(W.alloc (.cells #[.bool ng,.string rl,.slice Bt nt dt] 49)).heap.size:=kx.lt
   generalize (W.alloc (.cells #[.bool ng,.string rl,.slice Bt nt dt] 49))=W1 at *
   have sU:=zN kx
   have sZ:=zN (HX.out.trans hx1)
   have sD:=zN (sC.out.ext hx1)
   clear kx hx1 c0 c1 c2
   go_loopw [19] (fun t wr=>∃j m:Nat,j≤nt∧m≤m0+j∧t=.int .i64 (j:Int)∧aI wr (w.heap.size+1) m (ei (de (xs.take i)++(if ng=true then [] else ts.take j)))∧Ext w wr∧Bk wr W.heap.size 49 [.bool ng,.string rl,.slice Bt nt dt]) (fun t _=>nt-(intOf t).toNat)
   case atStart=>exact⟨0,m0,jn _,jo _,rfl,by have h:=sD.out;rw[←zG (de _)]at h;simpa using h,sZ.out,sU.out⟩
   case round =>
    obtain⟨j,m,hj,hm,rfl,hM,sI,sr⟩:=hrel
    have se:=zN sI;have sp:=zN hM;have sA:=zN sr
    have g0:=sr.c0
    have hW:w.heap.size≤wr.heap.size:=sI.size
    have tt:m<1048576:=by have:=sR.out;have:=sB.out;have:=su.out;omega
    have tc:W.heap.size≠w.heap.size+1:=hM.ne sr
    have tn:W.heap.size<wr.heap.size:=sr.lt
    clear hM sI sr
    by_cases hjt:j<nt
    ·have j1:(0:Int)≤(j:Int):=by omega
     have j2:(j:Int)<(nt:Int):=by omega
     have sF:j<ts.length:=by have:=sE.out;omega
     obtain⟨th,rfl,-,d0,d1,d2,d3⟩:=sT.out.term sF
     replace d0:=se.out.cell d0;replace d1:=se.out.cell d1;replace d2:=se.out.cell d2;replace d3:=se.out.cell d3
     have sQ:=(ta.out _ (jf sF)).1
     have sg:=jj sF
     obtain⟨x,hx⟩:=sd (ts[j])
     rw[←hx]at d0 d1 d2 d3 sQ sg
     have sq:=zN sg
     clear sg hx
     rcases ng with _|_
     ·by_cases hv:x.var=⟨#[]⟩
      ·have tg:=gw hv
       have HS:=zN (oR (l:=de (xs.take i)++ts.take j) hv)
       clear hv
       go_wp2_with fail
       go_roundw
       case rel=>exact⟨j+1,m,by omega,by omega,by go_num,by have h:=sp.out.ext ((Ext.refl wr).alloc (.cells #[.string x.var,.int .i64 x.kind,.int .i64 x.int,.string x.str] 132));rw[if_neg (by decide)]at h ⊢;rw[sq.out,←zh,HS.out];exact h,se.out.alloc _,sA.out.alloc _⟩
       case measure=>simp[intOf];omega
      ·have tg:=gy hv
       have HS:=zN (qP (l:=de (xs.take i)++ts.take j) hv)
       clear hv
       have sX:Hid (aI wr (w.heap.size+1) m (ei (de (xs.take i)++ts.take j))):=zN (by have h:=sp.out;rw[if_neg (by decide)]at h;exact h)
       go_wp2_with (first
        | (refine aN rfl _ _ _ 121 4 rfl Tryz.underlying121 (w.heap.size+1) m (ei (de (xs.take i)++ts.take j)) rfl (sX.out.ext ((Ext.refl wr).alloc _)) (by simp only[maxLen];omega) x.var (.bool true) rfl sQ rfl ?_;intro w5 sO sL;have sW:=zN sO;have sJ:=zN sL;clear sO sL))
       go_roundw
       case rel=>exact⟨j+1,m+1,by omega,by omega,by go_num,by rw[if_neg (by decide),sq.out,←zh,←HS.out];exact sW.out,(se.out.alloc _).grown sJ.out (fun k e=>by injection e with e;omega),(sA.out.alloc _).fr (am sJ.out) (fun e=>by injection e with e;omega)⟩
       case measure=>simp[intOf];omega
     ·go_wp2_with fail
      go_roundw
      case rel=>exact⟨j+1,m,by omega,by omega,by go_num,by have h:=sp.out.ext ((Ext.refl wr).alloc (.cells #[.string x.var,.int .i64 x.kind,.int .i64 x.int,.string x.str] 132));rw[if_pos rfl]at h;exact h,se.out.alloc _,sA.out.alloc _⟩
      case measure=>simp[intOf];omega
    ·obtain rfl:j=nt:=by omega
     have tq:¬(j:Int)<(j:Int):=by omega
     have et:ts.take j=ts:=by rw[sE.out];exact jT
     rw[et]at sp
     clear et g0
     go_wp2_with fail
     go_roundw
     case rel=>exact⟨i+1,m,by omega,by rw[sh.out,jm,←sE.out];have:=su.out;omega,by go_num,by rw[sY.out];exact sp.out,se.out⟩
     case measure=>simp[intOf];omega
  ·obtain rfl:i=n:=by omega
   have tp:¬(i:Int)<(i:Int):=by omega
   have et:xs.take i=xs:=by rw[HN.out];exact jT
   rw[et]at sC su
   clear et
   go_wp2_with fail
   go_ret
   exact⟨w.heap.size+1,m0,rfl,HX.out,by omega,by have:=su.out;have:=sB.out;omega,sC.out⟩
end Go.Proofs.YtplldnnnhgnbjaaGreatDoor
namespace Go.Proofs.YtplldnnnhgnbjaaGreatDoor
open Go.RowKit Go.Maps
def IdxPost(l:List ByteArray)(s:ByteArray)(w:World)(e:Ending)(w':World):Prop:=∃r:Int,e=.returned (.int .i64 r)∧((r<0∧s ∉ l)∨(0≤r∧s∈l))∧w=w'
theorem dX{a b:ByteArray}(h:a.toList=b.toList):a=b:=by
 rw[ByteArray.toList_eq,ByteArray.toList_eq]at h
 exact Go.WideShapes.bytes_inj h
theorem index_str{F:Nat→Prop}{w:World}{v:Value}{l:List ByteArray}{s:ByteArray}(h:Strs F w v l)(hl:l.length≤maxLen) :
    Calls Tryz.prog 59 #[v,.string s] w (IdxPost l s w):=by
  unfold maxLen at hl
  obtain⟨A,c,rfl,hc,sg⟩:=h
  obtain⟨n,hn⟩:=sd l.length
  rw[←hn]at hc hl ⊢
  have HN:=zN hn;have sp:=zN sg
  clear hn sg
  go_enter Tryz.func59,Tryz.ntmps59
  go_wp2_with fail
  go_loopw [8] (fun q wr=>∃i:Nat,i≤n∧q=.int .i64 (i:Int)∧(∀j (h:j<l.length),j<i→l[j]≠s)∧wr=w) (fun q _=>n-(intOf q).toNat)
  case atStart=>exact⟨0,jn _,rfl,fun _ _ h=>absurd h (by omega),rfl⟩
  case round =>
    obtain⟨i,hi,rfl,sh,rfl⟩:=hrel
    have se:=zN sh
    clear sh
    by_cases hlt:i<n
    · have i1:(0:Int)≤(i:Int):=by omega
      have i2:(i:Int)<(n:Int):=by omega
      have si:i<l.length:=by have:=HN.out;omega
      obtain⟨ad,rfl,-,c0⟩:=sp.out.str si
      by_cases he:l[i]=s
      · have HR:Hid (s∈l):=zN (by rw[←he];exact jf si)
        rw[he]at c0
        clear he
        go_wp2_with fail
        go_ret
        exact⟨i,rfl,.inr ⟨by omega,HR.out⟩,rfl⟩
      · have sj:¬s.toList=l[i].toList:=fun e=>he (dX e).symm
        obtain⟨x,hx⟩:=sd (l[i])
        rw[←hx]at c0 sj
        have sq:(s.toList == x.toList)=false:=by simp[sj]
        have HE:=zN he
        clear he hx
        go_wp2_with fail
        all_goals first
          | contradiction
          | (go_roundw
             case rel =>
               refine⟨i+1,by omega,by go_num,fun j hj su=>?_,trivial⟩
               rcases jz j i with h|h
               · exact se.out j hj h
               · obtain rfl:j=i:=by omega
                 exact HE.out
             case measure=>simp[intOf];omega)
    · obtain rfl:i=n:=by omega
      have sr:¬(i:Int)<(i:Int):=by omega
      have HR:Hid (s ∉ l):=zN (fun hm=>by
        obtain⟨j,hj,e⟩:=jx hm
        exact se.out j hj (by have:=HN.out;omega) e)
      go_wp2_with fail
      go_ret
      exact⟨-1,rfl,.inl ⟨by omega,HR.out⟩,rfl⟩
theorem kZ{F:Nat→Prop}{w:World}{v:Value}{l:List ByteArray}{s:ByteArray}(h:Strs F w v l)(hl:l.length≤maxLen) :
  Calls Tryz.prog 206 #[v,.string s] w (fun e w'=>e=.returned (.bool (decide (s∈l)))∧w=w'):=by
 have H:=zN (index_str (s:=s) h hl)
 clear h hl
 go_enter Tryz.func206,Tryz.ntmps206
 go_wp2_with fail
 refine H.out.mono ?_
 rintro e w' ⟨r,rfl,hr,rfl⟩
 rcases hr with ⟨h1,h2⟩|⟨h1,h2⟩
 ·have h3:decide ((0:Int)≤r)=false:=by simp;omega
  have HR:=zN (decide_eq_false h2)
  clear h2
  go_wp2_with fail
  go_ret
  rw[HR.out]
  exact⟨rfl,rfl⟩
 ·have HR:=zN (decide_eq_true h2)
  clear h2
  go_wp2_with fail
  go_ret
  rw[HR.out]
  exact⟨rfl,rfl⟩
theorem Strs.take{F:Nat→Prop}{w:World}{A:Option Addr}{n c:Nat}{l:List ByteArray}(h:Strs F w (.slice A n c) l){i:Nat}(hi:i≤l.length):Strs F w (.slice A i c) (l.take i):=by
 obtain⟨A',c',e,hc,se⟩:=h
 injection e with e1 e2 e3
 subst e1 e3
 refine⟨A,c,by rw[jt,Nat.min_eq_left hi],by rw[jt];omega,?_⟩
 rcases se with se|⟨ad,h1,h2,h3⟩
 ·exact .inl (by rw[List.map_eq_nil_iff]at se ⊢;rw[se];simp)
 ·exact .inr ⟨ad,h1,h2,fun j hj=>by
   have sg:j<l.length:=by simp at hj;omega
   rw[h3 j (by simpa using sg)]
   simp⟩
theorem iQ{F:Nat→Prop}{w:World}{v:Value}{hd:List ByteArray}(h:Strs F w v hd)(hz:∀s∈hd,s.size≤maxLen) :
  Calls Tryz.prog 136 #[v] w (Ret (fun x _=>x=.int .i64 (dr hd)) w):=by
 have HS:=zN h
 obtain⟨A,c,rfl,hc,sw⟩:=h
 obtain⟨n,hn⟩:=sd hd.length
 rw[←hn]at hc HS ⊢
 have HN:=zN hn;have sA:=zN sw;have HZ:=zN hz
 clear hn sw hz
 by_cases h6:¬n≤6
 ·have HE:=zN (show dr hd=12 from if_neg (by rw[←HN.out];exact h6))
  have h7:(6:Int)<(n:Int):=by omega
  rw[HE.out]
  go_enter Tryz.func136,Tryz.ntmps136
  go_wp2_with fail
  go_ret
  exact Ret.mk (Ext.refl w) rfl
 have h7:¬(6:Int)<(n:Int):=by omega
 have sj:dr hd=_:=if_pos (by rw[←HN.out];omega)
 obtain⟨f,hf⟩:∃f:Nat→Int,f=(fun i=>if cO (hd.getD i ⟨#[]⟩)=true then (if hd.getD i ⟨#[]⟩∈hd.take i then 8 else 0) else 7):=⟨_,rfl⟩
 rw[←hf,←HN.out]at sj
 have sr:=zN sj;have HF:=zN hf
 clear sj hf
 go_enter Tryz.func136,Tryz.ntmps136
 go_wp2_with fail
 go_loopw [10] (fun q wr=>∃i:Nat,i≤n∧q=.int .i64 (i:Int)∧Hid (∀j,j<i→f j=0)∧w=wr) (fun q _=>n-(intOf q).toNat)
 case atStart=>exact⟨0,jn _,rfl,zN (fun _ h=>absurd h (by omega)),rfl⟩
 case round =>
  obtain⟨i,hi,rfl,H,rfl⟩:=hrel
  by_cases hlt:i<n
  ·have i1:(0:Int)≤(i:Int):=by omega
   have i2:(i:Int)<(n:Int):=by omega
   have i3:(i:Int)≤(c:Int):=by omega
   have sq:i<hd.length:=by have:=HN.out;omega
   obtain⟨ad,rfl,-,c0⟩:=sA.out.str sq
   have sg:=HZ.out _ (jf sq)
   have hg:hd.getD i ⟨#[]⟩=hd[i]:=by simp[sq]
   have sp:f i=if cO hd[i]=true then (if hd[i]∈hd.take i then 8 else 0) else 7:=by rw[HF.out];simp only[hg]
   have sx:f i=0→∀j,j<i+1→f j=0:=fun h j hj=>by
    rcases jz j i with h1|h1
    ·exact H.out j h1
    ·have:j=i:=by omega
     subst this;exact h
   have sy:∀m:Int,m≠0→f i=m→dr hd=m:=fun m hm h=>by rw[sr.out,oN hlt H.out (by rw[h];exact hm),h]
   have HC:=zN (kZ (s:=hd[i]) (HS.out.take (i:=i) (by omega)) (by rw[jt];simp only[maxLen];omega))
   obtain⟨x,hx⟩:=sd (hd[i])
   rw[←hx]at c0 sg sp HC
   have sh:=zN sp;have sB:=zN sx;have su:=zN sy
   clear hg sp sx sy hx
   by_cases hnm:cO x=true
   ·by_cases hin:x∈hd.take i
    ·have HQ:=zN (su.out 8 (by decide) (by rw[sh.out,if_pos hnm,if_pos hin]))
     have se:=zN hnm;have si:=zN (decide_eq_true hin)
     clear hnm hin
     go_wp2_with fail
     refine(bz x _ sg).mono ?_
     rintro e w' ⟨rfl,rfl⟩
     rw[se.out]
     go_wp2_with fail
     refine HC.out.mono ?_
     rintro e w' ⟨rfl,rfl⟩
     rw[si.out]
     go_wp2_with fail
     go_ret
     exact Ret.mk (Ext.refl _) (bJ HQ.out)
    ·have HG:=zN (sB.out (by rw[sh.out,if_pos hnm,if_neg hin]))
     have se:=zN hnm;have si:=zN (decide_eq_false hin)
     clear hnm hin
     go_wp2_with fail
     refine(bz x _ sg).mono ?_
     rintro e w' ⟨rfl,rfl⟩
     rw[se.out]
     go_wp2_with fail
     refine HC.out.mono ?_
     rintro e w' ⟨rfl,rfl⟩
     rw[si.out]
     go_wp2_with fail
     go_roundw
     case rel=>exact⟨i+1,by omega,by go_num,HG,trivial⟩
     case measure=>simp[intOf];omega
   ·have HQ:=zN (su.out 7 (by decide) (by rw[sh.out,if_neg hnm]))
    rw[Bool.not_eq_true]at hnm
    have se:=zN hnm
    clear hnm
    go_wp2_with fail
    refine(bz x _ sg).mono ?_
    rintro e w' ⟨rfl,rfl⟩
    rw[se.out]
    go_wp2_with fail
    go_ret
    exact Ret.mk (Ext.refl _) (bJ HQ.out)
  ·obtain rfl:i=n:=by omega
   have sC:¬(i:Int)<(i:Int):=by omega
   have HQ:Hid (dr hd=0):=zN (by rw[sr.out];exact eV.2 H.out)
   go_wp2_with fail
   go_ret
   exact Ret.mk (Ext.refl _) (bJ HQ.out)
theorem kY{w:World}{A B O:Option Addr}{na ca nb cb no co:Nat}{ag:Int}{av:ByteArray}(hz:av.size≤maxLen) :
  Calls Tryz.prog 137 #[.agg #[.slice A na ca,.int .i64 ag,.string av,.slice B nb cb,.slice O no co]] w (Ret (fun x _=>x=.int .i64 (gD ag av)) w):=by
 by_cases h01:ag=0∨ag=1
 ·by_cases hv:av=⟨#[]⟩
  ·have HE:=zN (show gD ag av=0 from (if_pos h01).trans (if_pos hv))
   have se:=gw hv
   clear hv
   rcases h01 with rfl|rfl
   all_goals
    rw[HE.out]
    go_enter Tryz.func137,Tryz.ntmps137
    go_wp2_with fail
    go_ret
    exact Ret.mk ((Ext.refl w).alloc _) rfl
  ·have HE:=zN (show gD ag av=1 from (if_pos h01).trans (if_neg hv))
   have se:=gy hv
   clear hv
   rcases h01 with rfl|rfl
   all_goals
    rw[HE.out]
    go_enter Tryz.func137,Tryz.ntmps137
    go_wp2_with fail
    go_ret
    exact Ret.mk ((Ext.refl w).alloc _) rfl
 ·by_cases h24:ag=2∨ag=3∨ag=4
  ·by_cases hv:cO av=true
   ·have HE:=zN (show gD ag av=0 from (if_neg h01).trans ((if_pos h24).trans (if_pos hv)))
    have HV:=zN hv
    clear hv h01
    rcases h24 with rfl|rfl|rfl
    all_goals
     rw[HE.out]
     go_enter Tryz.func137,Tryz.ntmps137
     go_wp2_with fail
     refine(bz av _ hz).mono ?_
     rintro e w' ⟨rfl,rfl⟩
     rw[HV.out]
     go_wp2_with fail
     go_ret
     exact Ret.mk ((Ext.refl w).alloc _) rfl
   ·have HE:=zN (show gD ag av=7 from (if_neg h01).trans ((if_pos h24).trans (if_neg hv)))
    rw[Bool.not_eq_true]at hv
    have HV:=zN hv
    clear hv h01
    rcases h24 with rfl|rfl|rfl
    all_goals
     rw[HE.out]
     go_enter Tryz.func137,Tryz.ntmps137
     go_wp2_with fail
     refine(bz av _ hz).mono ?_
     rintro e w' ⟨rfl,rfl⟩
     rw[HV.out]
     go_wp2_with fail
     go_ret
     exact Ret.mk ((Ext.refl w).alloc _) rfl
  ·have HE:=zN (show gD ag av=2 from (if_neg h01).trans (if_neg h24))
   have k0:(ag == 0)=false:=beq_false_of_ne (fun e=>h01 (.inl e))
   have k1:(ag == 1)=false:=beq_false_of_ne (fun e=>h01 (.inr e))
   have k2:(ag == 2)=false:=beq_false_of_ne (fun e=>h24 (.inl e))
   have k3:(ag == 3)=false:=beq_false_of_ne (fun e=>h24 (.inr (.inl e)))
   have k4:(ag == 4)=false:=beq_false_of_ne (fun e=>h24 (.inr (.inr e)))
   clear h01 h24
   rw[HE.out]
   go_enter Tryz.func137,Tryz.ntmps137
   go_wp2_with fail
   go_ret
   exact Ret.mk ((Ext.refl w).alloc _) rfl
end Go.Proofs.YtplldnnnhgnbjaaGreatDoor
namespace Go.Proofs.YtplldnnnhgnbjaaGreatDoor
open Go.RowKit Go.Maps
theorem qV:(Tryz.prog.info? 208).map (fun i=>(i.zero,i.size,i.bytes))=some (some (.agg #[.string ⟨#[]⟩,.bool false]),2,24):=by kernel_rfl
theorem qU:(Tryz.prog.info? 3).map (fun i=>(i.zero,i.size,i.bytes))=some (some (.int .i64 0),1,8):=by kernel_rfl
theorem eW:(Tryz.prog.info? 9).map (fun i=>(i.zero,i.size,i.bytes))=some (some (.string ⟨#[]⟩),1,16):=by kernel_rfl
theorem clone_keys{F:Nat→Prop}{w:World}{A:Option Addr}{n c:Nat}{xs:List Value}(sg:Cl F w A xs)(hl:xs.length=n*2)(h1:∀u∈xs,u.oneCell'=true)(hn:n≤1048576) :
  Calls Tryz.prog 108 #[.slice A n c] w (Ret (fun x w'=>w'.ownsRow w.heap.size 208 2 x n xs) w):=by
 obtain⟨i0,sj,sp,sq,sr⟩:=info_parts qV
 have se:=zN (And.intro sj (And.intro sp (And.intro sq sr)));clear sj sp sq sr
 have su:=zN sg;have HL:=zN hl;have HO:=zN h1
 clear hl h1
 rcases A with _|ad
 ·have HX:Hid (n=0∧xs=[]):=zN (by
   rcases sg with rfl|⟨ad,e,-⟩
   ·have:=HL.out;simp at this;exact⟨by omega,rfl⟩
   ·cases e)
  clear sg
  have sA:∀(w:World) (n c n' c':Nat),(binOp .eql 26 (.slice none n c) (.slice none n' c')).run Tryz.prog w=.ok (.bool true) w:=fun w n c n' c'=>Lib.run_eql_slice_nil w _ _ none n c n' c' Tryz.underlying26
  go_enter Tryz.func108,Tryz.ntmps108
  go_wp2_with fail
  go_ret
  exact Ret.mk (Ext.refl _) (by rw[HX.out.1,HX.out.2];exact World.ownsRow_nil _ _ _ _)
 ·have sA:∀(w:World) (a:Addr) (n c n' c':Nat),(binOp .eql 26 (.slice (some a) n c) (.slice none n' c')).run Tryz.prog w=.ok (.bool false) w:=fun w a n c n' c'=>Lib.run_eql_slice_nil w _ _ (some a) n c n' c' Tryz.underlying26
  clear sg
  go_enter Tryz.func108,Tryz.ntmps108
  go_wp2_with (first|(at_builtin;refine aH rfl _ _ 26 rfl w.heap.size 208 i0 (.agg #[.string ⟨#[]⟩,.bool false]) 2 24 Tryz.underlying26 se.out.1 se.out.2.1 se.out.2.2.1 se.out.2.2.2 rfl (by omega) (.slice (some ⟨w.heap.size,0,none⟩) 0 0) 0 [] rfl (World.ownsRow_made w #[] 0 (jo _) (jn _) rfl) (some ad) n c xs rfl HL.out ((su.out.ext ((Ext.refl w).alloc _)).news) HO.out (by simp only[maxLen];omega) (by omega) (by simp) ?_;intro v9 w9 sh si sy;rw[jY,ze]at sh;obtain⟨A9,c9,rfl⟩:=af sh;have sx:=zN sh;have sw:Hid (Ext w w9):=zN (((Ext.refl w).alloc _).grown si (fun q hq=>by simp[Value.ownBlock]at hq;omega));clear sh si sy))
  go_ret
  exact Ret.mk sw.out sx.out
theorem clone_strs{F:Nat→Prop}{w:World}{A:Option Addr}{n c:Nat}{xs:List Value}(sg:Cl F w A xs)(hl:xs.length=n*1)(h1:∀u∈xs,u.oneCell'=true)(hn:n≤1048576) :
  Calls Tryz.prog 107 #[.slice A n c] w (Ret (fun x w'=>w'.ownsRow w.heap.size 9 1 x n xs) w):=by
 obtain⟨i0,sj,sp,sq,sr⟩:=info_parts eW
 have se:=zN (And.intro sj (And.intro sp (And.intro sq sr)));clear sj sp sq sr
 have su:=zN sg;have HL:=zN hl;have HO:=zN h1
 clear hl h1
 rcases A with _|ad
 ·have HX:Hid (n=0∧xs=[]):=zN (by
   rcases sg with rfl|⟨ad,e,-⟩
   ·have:=HL.out;simp at this;exact⟨by omega,rfl⟩
   ·cases e)
  clear sg
  have sA:∀(w:World) (n c n' c':Nat),(binOp .eql 24 (.slice none n c) (.slice none n' c')).run Tryz.prog w=.ok (.bool true) w:=fun w n c n' c'=>Lib.run_eql_slice_nil w _ _ none n c n' c' Tryz.underlying24
  go_enter Tryz.func107,Tryz.ntmps107
  go_wp2_with fail
  go_ret
  exact Ret.mk (Ext.refl _) (by rw[HX.out.1,HX.out.2];exact World.ownsRow_nil _ _ _ _)
 ·have sA:∀(w:World) (a:Addr) (n c n' c':Nat),(binOp .eql 24 (.slice (some a) n c) (.slice none n' c')).run Tryz.prog w=.ok (.bool false) w:=fun w a n c n' c'=>Lib.run_eql_slice_nil w _ _ (some a) n c n' c' Tryz.underlying24
  clear sg
  go_enter Tryz.func107,Tryz.ntmps107
  go_wp2_with (first|(at_builtin;refine aH rfl _ _ 24 rfl w.heap.size 9 i0 (.string ⟨#[]⟩) 1 16 Tryz.underlying24 se.out.1 se.out.2.1 se.out.2.2.1 se.out.2.2.2 rfl (by omega) (.slice (some ⟨w.heap.size,0,none⟩) 0 0) 0 [] rfl (World.ownsRow_made w #[] 0 (jo _) (jn _) rfl) (some ad) n c xs rfl HL.out ((su.out.ext ((Ext.refl w).alloc _)).news) HO.out (by simp only[maxLen];omega) (by omega) (by simp) ?_;intro v9 w9 sh si sy;rw[jY,ze]at sh;obtain⟨A9,c9,rfl⟩:=af sh;have sx:=zN sh;have sw:Hid (Ext w w9):=zN (((Ext.refl w).alloc _).grown si (fun q hq=>by simp[Value.ownBlock]at hq;omega));clear sh si sy))
  go_ret
  exact Ret.mk sw.out sx.out
theorem kg{F:Nat→Prop}{w:World}{A:Option Addr}{n c:Nat}{xs:List Value}(sg:Cl F w A xs)(hl:xs.length=n*1)(h1:∀u∈xs,u.oneCell'=true)(hn:n≤1048576) :
  Calls Tryz.prog 85 #[.slice A n c] w (Ret (fun x w'=>w'.ownsRow w.heap.size 3 1 x n xs) w):=by
 obtain⟨i0,sj,sp,sq,sr⟩:=info_parts qU
 have se:=zN (And.intro sj (And.intro sp (And.intro sq sr)));clear sj sp sq sr
 have su:=zN sg;have HL:=zN hl;have HO:=zN h1
 clear hl h1
 rcases A with _|ad
 ·have HX:Hid (n=0∧xs=[]):=zN (by
   rcases sg with rfl|⟨ad,e,-⟩
   ·have:=HL.out;simp at this;exact⟨by omega,rfl⟩
   ·cases e)
  clear sg
  have sA:∀(w:World) (n c n' c':Nat),(binOp .eql 63 (.slice none n c) (.slice none n' c')).run Tryz.prog w=.ok (.bool true) w:=fun w n c n' c'=>Lib.run_eql_slice_nil w _ _ none n c n' c' Tryz.underlying63
  go_enter Tryz.func85,Tryz.ntmps85
  go_wp2_with fail
  go_ret
  exact Ret.mk (Ext.refl _) (by rw[HX.out.1,HX.out.2];exact World.ownsRow_nil _ _ _ _)
 ·have sA:∀(w:World) (a:Addr) (n c n' c':Nat),(binOp .eql 63 (.slice (some a) n c) (.slice none n' c')).run Tryz.prog w=.ok (.bool false) w:=fun w a n c n' c'=>Lib.run_eql_slice_nil w _ _ (some a) n c n' c' Tryz.underlying63
  clear sg
  go_enter Tryz.func85,Tryz.ntmps85
  go_wp2_with (first|(at_builtin;refine aH rfl _ _ 63 rfl w.heap.size 3 i0 (.int .i64 0) 1 8 Tryz.underlying63 se.out.1 se.out.2.1 se.out.2.2.1 se.out.2.2.2 rfl (by omega) (.slice (some ⟨w.heap.size,0,none⟩) 0 0) 0 [] rfl (World.ownsRow_made w #[] 0 (jo _) (jn _) rfl) (some ad) n c xs rfl HL.out ((su.out.ext ((Ext.refl w).alloc _)).news) HO.out (by simp only[maxLen];omega) (by omega) (by simp) ?_;intro v9 w9 sh si sy;rw[jY,ze]at sh;obtain⟨A9,c9,rfl⟩:=af sh;have sx:=zN sh;have sw:Hid (Ext w w9):=zN (((Ext.refl w).alloc _).grown si (fun q hq=>by simp[Value.ownBlock]at hq;omega));clear sh si sy))
  go_ret
  exact Ret.mk sw.out sx.out
end Go.Proofs.YtplldnnnhgnbjaaGreatDoor
namespace Go.Proofs.YtplldnnnhgnbjaaGreatDoor
open Go.RowKit Go.Maps
theorem dU(z:Value)(hz:z.cells=#[z])(n:Nat):Builtin.zeroCells z.cells n=(List.replicate n z).toArray:=by
 rw[hz]
 apply Array.toList_inj.1
 refine zf (by simp[Builtin.zeroCells]) (fun i h1 h2=>?_)
 simp[Builtin.zeroCells,Nat.mod_one]
theorem grow_nil{w:World}{n:Nat}(hn:n≤1048576) :
  Calls Tryz.prog 252 #[.slice none 0 0,.int .i64 (n:Int)] w (Ret (fun x w'=>w'.ownsRow w.heap.size 9 1 x 0 []) w):=by
 by_cases h0:n=0
 ·subst h0
  go_enter Tryz.func252,Tryz.ntmps252
  go_wp2_with fail
  go_ret
  exact Ret.mk (Ext.refl _) (World.ownsRow_nil _ _ _ _)
 have hp : 0<n:=by omega
 have sC:(0:Int)<(n:Int):=by omega
 have sD:¬(n:Int)<0:=by omega
 clear h0
 obtain⟨i0,sw,sy,sE,su⟩:=info_parts eW
 obtain⟨W1,G,sh,sx,hG,sq,sr,sp⟩:∃(W1:World) (G:Nat) (sh:List Value),(∀ty,(Builtin.append_ #[24,3] ty #[.slice none 0 0,.int .i64 (n:Int)]).run Tryz.prog w=.ok (.slice (some ⟨w.heap.size,0,none⟩) n G) W1)∧n≤G∧G≤maxLen∧sh.length=G∧W1=w.drew.alloc (.cells sh.toArray 9):=by
  refine⟨_,grownCap w n 0 9,List.replicate n (.string ⟨#[]⟩)++List.replicate (grownCap w n 0 9-n) (.string ⟨#[]⟩),fun ty=>?_,grownCap_ge w n 0 9,grownCap_le_maxLen w n 0 9 (by unfold maxLen;omega),?_,rfl⟩
  ·have h:=Lib.run_append_grow_zeros w 24 3 ty 9 i0 _ .i64 .i64 Tryz.underlying24 Tryz.underlying3 sw sy none 0 0 [] (by simp[Builtin.firstCells]) n hp (by omega) (by omega) (by omega) (by rw[su];omega) (by rw[su];exact growslice_fits (by omega) (by omega))
   rw[jY,dU _ rfl,dU _ rfl,List.append_toArray,List.append_toArray,ze]at h
   exact h
  ·have:=grownCap_ge w n 0 9
   simp;omega
 have sg:W1.ownsRow w.heap.size 9 1 (.slice (some ⟨w.heap.size,0,none⟩) 0 G) 0 []:=by
  rw[sp]
  exact World.ownsRow_made w.drew sh.toArray G (jo _) sq (by simp[sr])
 have se:Ext w W1:=by rw[sp];exact(Ext.refl w).drew.alloc _
 have sj:=zN sg;have si:=zN se
 have sA:(0:Int)≤(G:Int):=by omega
 unfold maxLen at sq
 have sB:(G:Int)≤9223372036854775807:=by omega
 clear sp sr sg se
 go_enter Tryz.func252,Tryz.ntmps252
 go_wp2_with (first|(at_builtin;refine Lib.wpList_append_run _ rfl _ _ _ _ rfl _ _ rfl rfl _ _ (sx _) ?_))
 go_ret
 exact Ret.mk si.out sj.out
theorem concat2{F G:Nat→Prop}{w:World}{g:Nat}{A B:Option Addr}{na ca nb cb:Nat}{l m:List ByteArray}(kb:Bk w g 24 [.slice A na ca,.slice B nb cb])(hA:Strs F w (.slice A na ca) l)(hB:Strs G w (.slice B nb cb) m)(hs:l.length+m.length≤1048576) :
  Calls Tryz.prog 209 #[.slice (some ⟨g,0,none⟩) 2 2] w (Ret (fun x w'=>w'.ownsRow w.heap.size 9 1 x (l.length+m.length) (l.map Sv++m.map Sv)) w):=by
 obtain⟨A',c',e,sJ,sw⟩:=hA
 injection e with e1 e2 e3
 subst e1 e3
 obtain⟨B',d',e,sK,sx⟩:=hB
 injection e with e1 e4 e3
 subst e1 e3
 rw[←e2]at sJ hs ⊢
 rw[←e4]at sK hs ⊢
 have sN:=zN e2;have sO:=zN e4;have sF:=zN sw;have sG:=zN sx;have sr:=zN kb
 have c0:=kb.c0;have c1:=kb.c1
 obtain⟨i0,sB,sC,sD,sE⟩:=info_parts eW
 have sg:=zN (And.intro sB (And.intro sC (And.intro sD sE)));clear sB sC sD sE
 have HL:Hid ((l.map Sv).length=na*1∧(m.map Sv).length=nb*1):=zN ⟨by simp;omega,by simp;omega⟩
 clear e2 e4 sw sx kb
 have k1:(0:Int)≤(na:Int):=by omega
 have k2:¬(na:Int)<0:=by omega
 have k3:¬(na:Int)+(nb:Int)<0:=by omega
 have hn:na+nb≤1048576:=hs
 go_enter Tryz.func209,Tryz.ntmps209
 go_wp2_with fail
 refine wp_loop_rounds 3 ?_
 rw[rounds_succ]
 go_wp2_with fail
 rw[rounds_succ]
 go_wp2_with fail
 rw[rounds_succ]
 go_wp2_with fail
 have se:=grow_nil (w:=w) hn
 rw[show ((na+nb:Nat):Int)=(na:Int)+(nb:Int) by omega]at se
 refine se.mono ?_
 rintro e w1 ⟨v1,rfl,he,sh⟩
 obtain⟨A1,n1,rfl⟩:=af sh
 replace c0:=he.cell c0;replace c1:=he.cell c1
 have si:=zN sh;have HX:=zN he
 clear se sh he
 go_wp2_with fail
 refine wp_loop_rounds 3 ?_
 rw[rounds_succ]
 go_wp2_with (first|(at_builtin;refine aH rfl _ _ 24 rfl w.heap.size 9 i0 (.string ⟨#[]⟩) 1 16 Tryz.underlying24 sg.out.1 sg.out.2.1 sg.out.2.2.1 sg.out.2.2.2 rfl (by omega) (.slice A1 0 n1) 0 [] rfl si.out A na ca (l.map Sv) rfl HL.out.1 ((sF.out.ext HX.out).news) (by simp[Value.oneCell']) (by simp only[maxLen];omega) (by omega) HX.out.size ?_;intro v9 w9 sj sA sM;rw[jY,ze]at sj;obtain⟨A9,c9,rfl⟩:=af sj;have su:=zN sj;have hx9:Ext w w9:=HX.out.grown sA (fun q hq=>aw si.out hq);have b0:=(sr.out.ext hx9).c0;have b1:=(sr.out.ext hx9).c1;have sp:=zN hx9;clear sj sA sM hx9))
 rw[rounds_succ]
 go_wp2_with (first|(at_builtin;refine aH rfl _ _ 24 rfl w.heap.size 9 i0 (.string ⟨#[]⟩) 1 16 Tryz.underlying24 sg.out.1 sg.out.2.1 sg.out.2.2.1 sg.out.2.2.2 rfl (by omega) (.slice A9 na c9) na (l.map Sv) rfl su.out B nb cb (m.map Sv) rfl HL.out.2 ((sG.out.ext sp.out).news) (by simp[Value.oneCell']) (by simp only[maxLen];omega) (by omega) sp.out.size ?_;intro v8 w8 sq sy sL;obtain⟨A8,c8,rfl⟩:=af sq;have sH:=zN sq;have sI:Hid (Ext w w8):=zN (sp.out.grown sy (fun q hq=>aw su.out hq));clear sq sy sL))
 rw[rounds_succ]
 go_wp2_with fail
 go_ret
 exact Ret.mk sI.out sH.out
end Go.Proofs.YtplldnnnhgnbjaaGreatDoor
