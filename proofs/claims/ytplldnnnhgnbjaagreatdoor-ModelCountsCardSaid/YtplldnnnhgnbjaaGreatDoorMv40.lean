/- packed -/
import Derived.Test.YtplldnnnhgnbjaaGreatDoorMv39
namespace Go.Proofs.YtplldnnnhgnbjaaGreatDoor
open Go.RowKit Go.Maps
def eT(vs:List ByteArray)(s:ByteArray):List ByteArray:=if s∈vs then vs else vs++[s]
def iW(r:Rl):List ByteArray:=(r.cds.map Cd.var).foldl eT (bD (aY r.ats))
theorem qs(vs:List ByteArray)(s:ByteArray):(eT vs s).length≤vs.length+1:=by unfold eT;split <;> simp
theorem mI{l:List ByteArray}{s:ByteArray}:bW l s<0↔s ∉ l:=by
 unfold bW
 by_cases h:s∈l
 ·rw[if_pos h]
  constructor
  ·intro h2;omega
  ·intro h2;exact absurd h h2
 ·rw[if_neg h]
  simp[h]
theorem varsT_addW(l:List Tm)(t:Tm)(h:t.var≠⟨#[]⟩):bD (l++[t])=eT (bD l) t.var:=by
 rw[kM]
 unfold fR eT
 by_cases h2:t.var∈bD l
 ·rw[if_pos (.inr h2),if_pos h2]
 ·rw[if_neg (fun e=>e.elim h h2),if_neg h2]
theorem r9(l:List Tm)(t:Tm)(h:t.var=⟨#[]⟩):bD (l++[t])=bD l:=by
 rw[kM]
 unfold fR
 rw[if_pos (.inl h)]
theorem own_low{w:World}{b b' s n:Nat}{e:TypeId}{v:Value}{xs:List Value}(h:w.ownsRow b e s v n xs)(hb:b'≤b):w.ownsRow b' e s v n xs:=by
 obtain⟨h1,h2⟩:=h
 refine⟨h1,h2.imp_right ?_⟩
 rintro⟨g,cap,se,e,k1,k2⟩
 exact⟨g,cap,se,e,jr hb k1,k2⟩
set_option maxRecDepth 20000 in
set_option maxHeartbeats 6400000 in
theorem vars23{F G:Nat→Prop}{w:World}{sv vc:Value}{r:Rl}(hA:Ats F w sv r.ats)(hC:Sl eL G w vc r.cds)(hz:RlZ r)(h1:(aY r.ats).length≤100000)(h2:r.cds.length≤100000)(h3:r.ats.length≤100000) :
  Calls Tryz.prog 18 #[.agg #[sv,vc]] w (Ret (fun x w'=>w'.ownsRow w.heap.size 9 1 x (iW r).length ((iW r).map Sv)) w):=by
 obtain⟨Aa,ca,rfl⟩:=hA.sl
 obtain⟨Ac,cc,rfl⟩:=hC.sl
 have kb:=Bk.new w 46 [.slice Aa r.ats.length ca,.slice Ac r.cds.length cc]
 have hx:=(Ext.refl w).alloc (.cells #[.slice Aa r.ats.length ca,.slice Ac r.cds.length cc] 46)
 obtain⟨na,sE⟩:=sd r.ats.length
 obtain⟨nc,sF⟩:=sd r.cds.length
 rw[←sE,←sF]at kb hx ⊢
 rw[←sE]at h3
 rw[←sF]at h2
 obtain⟨i0,sW,sY,sZ,ta⟩:=info_parts qW
 have sj:=zN (And.intro sW (And.intro sY (And.intro sZ ta)))
 have HA:=zN hA;have HC:=zN hC;have HZ:=zN hz;have sQ:=zN sE;have sR:=zN sF;have sT:=zN h1
 clear hA hC hz sE sF sW sY sZ ta h1
 go_enter Tryz.func18,Tryz.ntmps18
 go_upto_region 1 with fail
 change Bk (w.alloc (.cells #[.slice Aa na ca,.slice Ac nc cc] 46)) _ _ _ at kb
 generalize (w.alloc (.cells #[.slice Aa na ca,.slice Ac nc cc] 46))=w1 at *
 have sx:=zN kb;have HX:=zN hx
 obtain⟨gb,sV⟩:=sd w.heap.size
 rw[←sV]at sx ⊢
 have tp:=kb.lt
 clear kb hx sV
 obtain⟨_,_,e,-,sU⟩:=HA.out.at'
 injection e with e1 e2 e3
 subst e1
 have tc:=zN sU
 clear sU e2 e3
 go_wp2_with fail
 go_loopw [3,4] (fun v t wr=>∃(i:Nat) (l:List ByteArray) (P:Option Addr) (m cp:Nat),i≤na∧t=.int .i64 (i:Int)∧v=.slice P m cp∧Hid (l=bD (aY (r.ats.take i)))∧Hid (wr.ownsRow w1.heap.size 9 1 (.slice P m cp) m (l.map Sv))∧Hid (Ext w1 wr)) (fun _ t _=>na-(intOf t).toNat)
 case atStart=>exact⟨0,[],none,0,0,jn _,rfl,rfl,zN rfl,zN (World.ownsRow_nil _ _ _ _),zN (Ext.refl _)⟩
 case round =>
  obtain⟨i,l,P,m,cp,hi,rfl,rfl,HL,HO,HE⟩:=hrel
  obtain⟨W,rfl⟩:∃W:World,W=wr:=⟨_,rfl⟩
  have b0:=(sx.out.ext HE.out).c0
  by_cases hlt:i<na
  ·have i1:(0:Int)≤(i:Int):=by omega
   have i2:(i:Int)<(na:Int):=by omega
   have sB:i<r.ats.length:=by have:=sQ.out;omega
   obtain⟨ad,B,d,rfl,-,-,-,c2,hd,sN⟩:=tc.out i sB
   have sh:=cK sB
   have sG:(aY (r.ats.take (i+1))).length≤100000:=by
    have h1:=sT.out
    have h2:(aY (r.ats.take (i+1))).length≤(aY r.ats).length:=by
     conv=>rhs;rw[←jX (i+1) r.ats]
     unfold aY
     rw[zz,jm]
     exact Nat.le_add_right _ _
    omega
   have sO:=HZ.out.tms _ (jf sB)
   obtain⟨a,ha⟩:=sd (r.ats[i])
   rw[←ha]at c2 hd sN sh sO
   rw[sh,jm]at sG
   obtain⟨nt,sM⟩:=sd a.terms.length
   rw[←sM]at c2 hd sG
   have tw:nt≤100000:=by omega
   have sI:=zN sG;have sA:=zN sh;have sS:=zN sM;have td:=zN sN;have tg:=zN sO;have sP:=zN (HX.out.cell c2)
   clear hd sN sh sO sG sM ha c2 sB
   have c2:=HE.out.cell sP.out
   go_wp2_with fail
   go_loopw [3,5] (fun v t wr=>∃(j:Nat) (l:List ByteArray) (P:Option Addr) (m cp:Nat),j≤nt∧t=.int .i64 (j:Int)∧v=.slice P m cp∧Hid (l=bD (aY (r.ats.take i)++a.terms.take j))∧Hid (wr.ownsRow w1.heap.size 9 1 (.slice P m cp) m (l.map Sv))∧Hid (Ext w1 wr)) (fun _ t _=>nt-(intOf t).toNat)
   case atStart=>exact⟨0,l,P,m,cp,jn _,rfl,rfl,zN (by simpa using HL.out),HO,HE⟩
   case round =>
    clear HL HO HE b0 c2
    obtain⟨j,l,P,m,cp,hj,rfl,rfl,HL,HO,HE⟩:=hrel
    obtain⟨W2,rfl⟩:∃W:World,W=wr:=⟨_,rfl⟩
    have b0:=(sx.out.ext HE.out).c0
    have c2:=HE.out.cell sP.out
    by_cases hjt:j<nt
    ·have j1:(0:Int)≤(j:Int):=by omega
     have j2:(j:Int)<(nt:Int):=by omega
     have sC:j<a.terms.length:=by have:=sS.out;omega
     have su:m=l.length:=by have:=HO.out.1;simpa using this.symm
     have tn:l.length≤100000:=by
      have h1:=cY (aY (r.ats.take i)++a.terms.take j)
      rw[←HL.out,jm,jt]at h1
      have:=sI.out
      omega
     have tq:m≤100000:=by omega
     clear su
     obtain⟨th,rfl,-,d0,-⟩:=td.out.term (i:=j) sC
     replace d0:=HE.out.cell (HX.out.cell d0)
     have sh:a.terms.take (j+1)=a.terms.take j++[a.terms[j]]:=jj sC
     have sw:=(tg.out (a.terms[j]) (jf sC)).1
     have tj:=HE.out.size
     obtain⟨tx,sX⟩:=sd (a.terms[j])
     rw[←sX]at d0 sh sw
     have HV:=fun h=>varsT_addW (aY (r.ats.take i)++a.terms.take j) tx h
     have sq:=fun h=>r9 (aY (r.ats.take i)++a.terms.take j) tx h
     rw[zh,←sh,←HL.out]at HV sq
     obtain⟨x,hx⟩:=sd tx.var
     rw[←hx]at d0 sw HV sq
     have si:=zN (index23 (s:=x) (Strs.of_own HO.out) (by omega))
     clear sh sX hx sC
     by_cases h0:x=⟨#[]⟩
     ·have te:=zN (sq h0)
      have tt:=gw h0;have tu:=str_nil h0
      subst h0
      clear sq
      clear HV sw
      go_wp2_with fail
      go_roundw
      case rel=>exact⟨j+1,l,P,m,cp,by omega,by go_num,rfl,zN te.out.symm,HO,HE⟩
      case measure=>simp[intOf];omega
     ·have tt:=gy h0;have tu:=rV h0
      have HV:=zN (HV h0)
      have tz:=zN h0
      by_cases hin:x∈l
      ·have sg:¬bW l x<0:=fun h=>mI.1 h hin
       have sK : 0≤bW l x:=by omega
       have HI:=zN hin
       obtain⟨z,hz⟩:=sd (bW l x)
       have se:Hid (Calls Tryz.prog 19 #[.slice P m cp,.string x] W2 (fun e w'=>e=.returned (.int .i64 z)∧W2=w')):=zN (by rw[hz];exact si.out)
       rw[←hz]at sg sK
       clear hin hz si sq h0
       go_wp2_with fail
       refine se.out.mono ?_
       rintro e w3 ⟨rfl,rfl⟩
       go_wp2_with fail
       go_roundw
       case rel=>exact⟨j+1,l,P,m,cp,by omega,by go_num,rfl,zN (by rw[HV.out];unfold eT;rw[if_pos HI.out]),HO,HE⟩
       case measure=>simp[intOf];omega
      ·have sg:bW l x<0:=mI.2 hin
       have HI:=zN hin
       obtain⟨z,hz⟩:=sd (bW l x)
       have se:Hid (Calls Tryz.prog 19 #[.slice P m cp,.string x] W2 (fun e w'=>e=.returned (.int .i64 z)∧W2=w')):=zN (by rw[hz];exact si.out)
       rw[←hz]at sg
       clear hin hz si sq h0
       go_wp2_with fail
       refine se.out.mono ?_
       rintro e w3 ⟨rfl,rfl⟩
       go_wp2_with (first
      | (at_builtin;refine aq rfl _ _ 24 rfl w1.heap.size 9 i0 (.string ⟨#[]⟩) 1 16 Tryz.underlying24 sj.out.1 sj.out.2.1 sj.out.2.2.1 sj.out.2.2.2 rfl (by omega) (.slice P m cp) m (l.map Sv) rfl (HO.out.alloc _) ⟨W2.heap.size,0,none⟩ 1 1 [.string x] rfl rfl (aE W2 _ _) (by simp[Value.oneCell']) (by simp only[maxLen];omega) (by omega) (by simp;omega) ?_;intro v3 w3 sp sr sL;obtain⟨P3,c3,rfl⟩:=af sp;have sH:=zN sp;have sJ:=zN ((HE.out.alloc _).grown sr (fun k hk=>aw HO.out hk));clear sp sr sL))
       go_roundw
       case rel=>exact⟨j+1,l++[x],P3,m+1,c3,by omega,by go_num,rfl,zN (by rw[HV.out];unfold eT;rw[if_neg HI.out]),zN (by rw[jH];exact sH.out),sJ⟩
       case measure=>simp[intOf];omega
    ·obtain rfl:j=nt:=by omega
     have tB:¬(j:Int)<(j:Int):=by omega
     have sy:Hid (l=bD (aY (r.ats.take (i+1)))):=zN (by
      have h:=HL.out
      rw[show a.terms.take j=a.terms from jp (by have:=sS.out;omega),←sA.out]at h
      exact h)
     go_wp2_with fail
     go_roundw
     case rel=>exact⟨i+1,l,P,m,cp,by omega,by go_num,rfl,sy,HO,HE⟩
     case measure=>simp[intOf];omega
  ·obtain rfl:i=na:=by omega
   have tA:¬(i:Int)<(i:Int):=by omega
   have sy:Hid (l=bD (aY r.ats)):=zN (by
    have h:=HL.out
    rw[jp (by have:=sQ.out;omega)]at h
    exact h)
   go_wp2_with fail
   go_loopw [3,7] (fun v t wr=>∃(k:Nat) (l:List ByteArray) (P:Option Addr) (m cp:Nat),k≤nc∧t=.int .i64 (k:Int)∧v=.slice P m cp∧Hid (l=((r.cds.take k).map Cd.var).foldl eT (bD (aY r.ats)))∧Hid (wr.ownsRow w1.heap.size 9 1 (.slice P m cp) m (l.map Sv))∧Hid (Ext w1 wr)) (fun _ t _=>nc-(intOf t).toNat)
   case atStart=>exact⟨0,l,P,m,cp,jn _,rfl,rfl,sy,HO,HE⟩
   case round =>
    clear HL sy HO HE b0
    obtain⟨k,l,P,m,cp,hk,rfl,rfl,HL,HO,HE⟩:=hrel
    obtain⟨W2,rfl⟩:∃W:World,W=wr:=⟨_,rfl⟩
    have b1:=(sx.out.ext HE.out).c1
    by_cases hkt:k<nc
    ·have j1:(0:Int)≤(k:Int):=by omega
     have j2:(k:Int)<(nc:Int):=by omega
     have sD:k<r.cds.length:=by have:=sR.out;omega
     have su:m=l.length:=by have:=HO.out.1;simpa using this.symm
     have tn:l.length≤200000:=by
      have h1:∀(ss vs:List ByteArray),(ss.foldl eT vs).length≤vs.length+ss.length:=by
       intro ss
       induction ss with
       | nil=>intro vs;simp
       | cons s ss ih =>
        intro vs
        have h2:=ih (eT vs s)
        have h3:=qs vs s
        rw[zr,jD]
        omega
      have h2:=h1 ((r.cds.take k).map Cd.var) (bD (aY r.ats))
      have h3:=cY (aY r.ats)
      have h4:=sT.out
      rw[←HL.out,jk,jt]at h2
      omega
     have tq:m≤200000:=by omega
     clear su
     obtain⟨th,rfl,-,d0,-⟩:=HC.out.cd sD
     replace d0:=HE.out.cell (HX.out.cell d0)
     have sh:((r.cds.take (k+1)).map Cd.var).foldl eT (bD (aY r.ats))=eT (((r.cds.take k).map Cd.var).foldl eT (bD (aY r.ats))) r.cds[k].var:=by
      rw[jj sD,jH,zD]
      rfl
     have sw:=HZ.out.var _ (jf sD)
     have tj:=HE.out.size
     obtain⟨x,hx⟩:=sd (r.cds[k].var)
     rw[←hx]at d0 sw sh
     rw[←HL.out]at sh
     have sA:=zN sh
     have si:=zN (index23 (s:=x) (Strs.of_own HO.out) (by omega))
     clear sh hx sD
     by_cases hin:x∈l
     ·have sg:¬bW l x<0:=fun h=>mI.1 h hin
      have sK : 0≤bW l x:=by omega
      have HI:=zN hin
      obtain⟨z,hz⟩:=sd (bW l x)
      have se:Hid (Calls Tryz.prog 19 #[.slice P m cp,.string x] W2 (fun e w'=>e=.returned (.int .i64 z)∧W2=w')):=zN (by rw[hz];exact si.out)
      rw[←hz]at sg sK
      clear hin hz si
      go_wp2_with fail
      refine se.out.mono ?_
      rintro e w3 ⟨rfl,rfl⟩
      go_wp2_with fail
      go_roundw
      case rel=>exact⟨k+1,l,P,m,cp,by omega,by go_num,rfl,zN (by rw[sA.out];unfold eT;rw[if_pos HI.out]),HO,HE⟩
      case measure=>simp[intOf];omega
     ·have sg:bW l x<0:=mI.2 hin
      have HI:=zN hin
      obtain⟨z,hz⟩:=sd (bW l x)
      have se:Hid (Calls Tryz.prog 19 #[.slice P m cp,.string x] W2 (fun e w'=>e=.returned (.int .i64 z)∧W2=w')):=zN (by rw[hz];exact si.out)
      rw[←hz]at sg
      clear hin hz si
      go_wp2_with fail
      refine se.out.mono ?_
      rintro e w3 ⟨rfl,rfl⟩
      go_wp2_with (first
      | (at_builtin;refine aq rfl _ _ 24 rfl w1.heap.size 9 i0 (.string ⟨#[]⟩) 1 16 Tryz.underlying24 sj.out.1 sj.out.2.1 sj.out.2.2.1 sj.out.2.2.2 rfl (by omega) (.slice P m cp) m (l.map Sv) rfl (HO.out.alloc _) ⟨W2.heap.size,0,none⟩ 1 1 [.string x] rfl rfl (aE W2 _ _) (by simp[Value.oneCell']) (by simp only[maxLen];omega) (by omega) (by simp;omega) ?_;intro v3 w3 sp sr sL;obtain⟨P3,c3,rfl⟩:=af sp;have sH:=zN sp;have sJ:=zN ((HE.out.alloc _).grown sr (fun k hk=>aw HO.out hk));clear sp sr sL))
      go_roundw
      case rel=>exact⟨k+1,l++[x],P3,m+1,c3,by omega,by go_num,rfl,zN (by rw[sA.out];unfold eT;rw[if_neg HI.out]),zN (by rw[jH];exact sH.out),sJ⟩
      case measure=>simp[intOf];omega
    ·obtain rfl:k=nc:=by omega
     have tC:¬(k:Int)<(k:Int):=by omega
     have HF:Hid (W2.ownsRow w.heap.size 9 1 (.slice P m cp) (iW r).length ((iW r).map Sv)):=zN (by
      have h:=HL.out
      rw[jp (by have:=sR.out;omega)]at h
      have h2:=HO.out
      have su:m=l.length:=by have:=HO.out.1;simpa using this.symm
      rw[su]at h2 ⊢
      rw[show iW r=l from h.symm]
      exact own_low h2 (by have:=HX.out.size;omega))
     have tf:=zN (HX.out.trans HE.out)
     go_wp2_with fail
     go_ret
     exact Ret.mk tf.out HF.out
