/- packed -/
import Derived.Test.YtplldnnnhgnbjaaGreatDoorMu37
namespace Go.Proofs.YtplldnnnhgnbjaaGreatDoor
open Go.RowKit Go.Maps
def addW(vs:List ByteArray)(s:ByteArray):List ByteArray:=if s∈vs then vs else vs++[s]
def varsR(r:Rl):List ByteArray:=(r.cds.map Cd.var).foldl addW (varsT (allT r.ats))
theorem addW_length(vs:List ByteArray)(s:ByteArray):(addW vs s).length≤vs.length+1:=by unfold addW;split <;> simp
theorem idx_neg{l:List ByteArray}{s:ByteArray}:idxI l s<0↔s ∉ l:=by
 unfold idxI
 by_cases h:s∈l
 ·rw[if_pos h]
  constructor
  ·intro h2;omega
  ·intro h2;exact absurd h h2
 ·rw[if_neg h]
  simp[h]
theorem varsT_addW(l:List Tm)(t:Tm)(h:t.var≠⟨#[]⟩):varsT (l++[t])=addW (varsT l) t.var:=by
 rw[varsT_snoc]
 unfold addV addW
 by_cases h2:t.var∈varsT l
 ·rw[if_pos (.inr h2),if_pos h2]
 ·rw[if_neg (fun e=>e.elim h h2),if_neg h2]
theorem varsT_empty(l:List Tm)(t:Tm)(h:t.var=⟨#[]⟩):varsT (l++[t])=varsT l:=by
 rw[varsT_snoc]
 unfold addV
 rw[if_pos (.inl h)]
theorem own_low{w:World}{b b' s n:Nat}{e:TypeId}{v:Value}{xs:List Value}(h:w.ownsRow b e s v n xs)(hb:b'≤b):w.ownsRow b' e s v n xs:=by
 obtain⟨h1,h2⟩:=h
 refine⟨h1,h2.imp_right ?_⟩
 rintro⟨g,cap,cur,e,k1,k2⟩
 exact⟨g,cap,cur,e,js hb k1,k2⟩
set_option maxRecDepth 20000 in
set_option maxHeartbeats 6400000 in
theorem vars23{F G:Nat→Prop}{w:World}{sv vc:Value}{r:Rl}(hA:Ats F w sv r.ats)(hC:Sl rdCd G w vc r.cds)(hz:RlZ r)(h1:(allT r.ats).length≤100000)(h2:r.cds.length≤100000)(h3:r.ats.length≤100000) :
  Calls Tryz.prog 18 #[.agg #[sv,vc]] w (Ret (fun x w'=>w'.ownsRow w.heap.size 9 1 x (varsR r).length ((varsR r).map Sv)) w):=by
 obtain⟨Aa,ca,rfl⟩:=hA.sl
 obtain⟨Ac,cc,rfl⟩:=hC.sl
 have kb:=Bk.new w 46 [.slice Aa r.ats.length ca,.slice Ac r.cds.length cc]
 have hx:=(Ext.refl w).alloc (.cells #[.slice Aa r.ats.length ca,.slice Ac r.cds.length cc] 46)
 obtain⟨na,hna⟩:∃n,n=r.ats.length:=⟨_,rfl⟩
 obtain⟨nc,hnc⟩:∃n,n=r.cds.length:=⟨_,rfl⟩
 rw[←hna,←hnc]at kb hx ⊢
 rw[←hna]at h3
 rw[←hnc]at h2
 obtain⟨i0,hi0,hz0,hz1,hz2⟩:=info_parts info_str
 have HI0:=zO (And.intro hi0 (And.intro hz0 (And.intro hz1 hz2)))
 have HA:=zO hA;have HC:=zO hC;have HZ:=zO hz;have HNA:=zO hna;have HNC:=zO hnc;have HTL:=zO h1
 clear hA hC hz hna hnc hi0 hz0 hz1 hz2 h1
 go_enter Tryz.func18,Tryz.ntmps18
 go_upto_region 1 with fail
 change Bk (w.alloc (.cells #[.slice Aa na ca,.slice Ac nc cc] 46)) _ _ _ at kb
 generalize (w.alloc (.cells #[.slice Aa na ca,.slice Ac nc cc] 46))=w1 at *
 have HKB:=zO kb;have HX:=zO hx
 obtain⟨gb,hgb⟩:∃g,g=w.heap.size:=⟨_,rfl⟩
 rw[←hgb]at HKB ⊢
 have hlt1:=kb.lt
 clear kb hx hgb
 obtain⟨_,_,e,-,hat⟩:=HA.out.at'
 injection e with e1 e2 e3
 subst e1
 have HAT:=zO hat
 clear hat e2 e3
 go_wp2_with fail
 go_loopw [3,4] (fun v t wr=>∃(i:Nat) (l:List ByteArray) (P:Option Addr) (m cp:Nat),i≤na∧t=.int .i64 (i:Int)∧v=.slice P m cp∧Hid (l=varsT (allT (r.ats.take i)))∧Hid (wr.ownsRow w1.heap.size 9 1 (.slice P m cp) m (l.map Sv))∧Hid (Ext w1 wr)) (fun _ t _=>na-(intOf t).toNat)
 case atStart=>exact⟨0,[],none,0,0,jn _,rfl,rfl,zO rfl,zO (World.ownsRow_nil _ _ _ _),zO (Ext.refl _)⟩
 case round =>
  obtain⟨i,l,P,m,cp,hi,rfl,rfl,HL,HO,HE⟩:=hrel
  obtain⟨W,rfl⟩:∃W:World,W=wr:=⟨_,rfl⟩
  have b0:=(HKB.out.ext HE.out).cell (i:=0) (by simp)
  simp only[ja,je]at b0
  by_cases hlt:i<na
  ·have i1:(0:Int)≤(i:Int):=by omega
   have i2:(i:Int)<(na:Int):=by omega
   have hix:i<r.ats.length:=by have:=HNA.out;omega
   obtain⟨ad,B,d,rfl,-,-,-,c2,hd,htc⟩:=HAT.out i hix
   have htk:=allT_take hix
   have htl:(allT (r.ats.take (i+1))).length≤100000:=by
    have h1:=HTL.out
    have h2:(allT (r.ats.take (i+1))).length≤(allT r.ats).length:=by
     conv=>rhs;rw[←za (i+1) r.ats]
     unfold allT
     rw[zx,jl]
     exact Nat.le_add_right _ _
    omega
   have hzt:=HZ.out.tms _ (jg hix)
   obtain⟨a,ha⟩:∃a,a=r.ats[i]:=⟨_,rfl⟩
   rw[←ha]at c2 hd htc htk hzt
   rw[htk,jl]at htl
   obtain⟨nt,hnt⟩:∃nt,nt=a.terms.length:=⟨_,rfl⟩
   rw[←hnt]at c2 hd htl
   have hnt2:nt≤100000:=by omega
   have HTL2:=zO htl;have HTK:=zO htk;have HNT:=zO hnt;have HTC:=zO htc;have HZT:=zO hzt;have HC2:=zO (HX.out.cell c2)
   clear hd htc htk hzt htl hnt ha c2 hix
   have c2:=HE.out.cell HC2.out
   go_wp2_with fail
   go_loopw [3,5] (fun v t wr=>∃(j:Nat) (l:List ByteArray) (P:Option Addr) (m cp:Nat),j≤nt∧t=.int .i64 (j:Int)∧v=.slice P m cp∧Hid (l=varsT (allT (r.ats.take i)++a.terms.take j))∧Hid (wr.ownsRow w1.heap.size 9 1 (.slice P m cp) m (l.map Sv))∧Hid (Ext w1 wr)) (fun _ t _=>nt-(intOf t).toNat)
   case atStart=>exact⟨0,l,P,m,cp,jn _,rfl,rfl,zO (by simpa using HL.out),HO,HE⟩
   case round =>
    clear HL HO HE b0 c2
    obtain⟨j,l,P,m,cp,hj,rfl,rfl,HL,HO,HE⟩:=hrel
    obtain⟨W2,rfl⟩:∃W:World,W=wr:=⟨_,rfl⟩
    have b0:=(HKB.out.ext HE.out).cell (i:=0) (by simp)
    simp only[ja,je]at b0
    have c2:=HE.out.cell HC2.out
    by_cases hjt:j<nt
    ·have j1:(0:Int)≤(j:Int):=by omega
     have j2:(j:Int)<(nt:Int):=by omega
     have hjx:j<a.terms.length:=by have:=HNT.out;omega
     have hml:m=l.length:=by have:=HO.out.1;simpa using this.symm
     have hlb:l.length≤100000:=by
      have h1:=varsT_length (allT (r.ats.take i)++a.terms.take j)
      rw[←HL.out,jl,ju]at h1
      have:=HTL2.out
      omega
     have hmb:m≤100000:=by omega
     clear hml
     obtain⟨ad2,rfl,-,d0,-⟩:=HTC.out.term (i:=j) hjx
     replace d0:=HE.out.cell (HX.out.cell d0)
     have htk:a.terms.take (j+1)=a.terms.take j++[a.terms[j]]:=jj hjx
     have hsz:=(HZT.out (a.terms[j]) (jg hjx)).1
     have hbw:=HE.out.size
     obtain⟨tx,htx⟩:∃x,x=a.terms[j]:=⟨_,rfl⟩
     rw[←htx]at d0 htk hsz
     have HV:=fun h=>varsT_addW (allT (r.ats.take i)++a.terms.take j) tx h
     have HV0:=fun h=>varsT_empty (allT (r.ats.take i)++a.terms.take j) tx h
     rw[zq,←htk,←HL.out]at HV HV0
     obtain⟨x,hx⟩:∃x,x=tx.var:=⟨_,rfl⟩
     rw[←hx]at d0 hsz HV HV0
     have HIX:=zO (index23 (s:=x) (Strs.of_own HO.out) (by omega))
     clear htk htx hx hjx
     by_cases h0:x=⟨#[]⟩
     ·have HV1:=zO (HV0 h0)
      have hn0:=var_eq h0;have hn1:=str_nil h0
      subst h0
      clear HV0
      clear HV hsz
      go_wp2_with fail
      go_roundw
      case rel=>exact⟨j+1,l,P,m,cp,by omega,by go_num,rfl,zO HV1.out.symm,HO,HE⟩
      case measure=>simp[intOf];omega
     ·have hn0:=var_ne h0;have hn1:=str_nnil h0
      have HV:=zO (HV h0)
      have HH0:=zO h0
      by_cases hin:x∈l
      ·have hneg:¬idxI l x<0:=fun h=>idx_neg.1 h hin
       have hge : 0≤idxI l x:=by omega
       have HI:=zO hin
       obtain⟨z,hz⟩:∃z,z=idxI l x:=⟨_,rfl⟩
       have HIX2:Hid (Calls Tryz.prog 19 #[.slice P m cp,.string x] W2 (fun e w'=>e=.returned (.int .i64 z)∧W2=w')):=zO (by rw[hz];exact HIX.out)
       rw[←hz]at hneg hge
       clear hin hz HIX HV0 h0
       go_wp2_with fail
       refine HIX2.out.mono ?_
       rintro e w3 ⟨rfl,rfl⟩
       go_wp2_with fail
       go_roundw
       case rel=>exact⟨j+1,l,P,m,cp,by omega,by go_num,rfl,zO (by rw[HV.out];unfold addW;rw[if_pos HI.out]),HO,HE⟩
       case measure=>simp[intOf];omega
      ·have hneg:idxI l x<0:=idx_neg.2 hin
       have HI:=zO hin
       obtain⟨z,hz⟩:∃z,z=idxI l x:=⟨_,rfl⟩
       have HIX2:Hid (Calls Tryz.prog 19 #[.slice P m cp,.string x] W2 (fun e w'=>e=.returned (.int .i64 z)∧W2=w')):=zO (by rw[hz];exact HIX.out)
       rw[←hz]at hneg
       clear hin hz HIX HV0 h0
       go_wp2_with fail
       refine HIX2.out.mono ?_
       rintro e w3 ⟨rfl,rfl⟩
       go_wp2_with (first
      | (at_builtin;refine wpList_append_at rfl _ _ 24 rfl w1.heap.size 9 i0 (.string ⟨#[]⟩) 1 16 Tryz.underlying24 HI0.out.1 HI0.out.2.1 HI0.out.2.2.1 HI0.out.2.2.2 rfl (by omega) (.slice P m cp) m (l.map Sv) rfl (HO.out.alloc _) ⟨W2.heap.size,0,none⟩ 1 1 [.string x] rfl rfl (laid_news W2 _ _) (by simp[Value.oneCell']) (by simp only[maxLen];omega) (by omega) (by simp;omega) ?_;intro v3 w3 hr3 hg3 hl3;obtain⟨P3,c3,rfl⟩:=own_slice hr3;have HR3:=zO hr3;have HX3:=zO ((HE.out.alloc _).grown hg3 (fun k hk=>own_ge HO.out hk));clear hr3 hg3 hl3))
       go_roundw
       case rel=>exact⟨j+1,l++[x],P3,m+1,c3,by omega,by go_num,rfl,zO (by rw[HV.out];unfold addW;rw[if_neg HI.out]),zO (by rw[jI];exact HR3.out),HX3⟩
       case measure=>simp[intOf];omega
    ·obtain rfl:j=nt:=by omega
     have hdj:¬(j:Int)<(j:Int):=by omega
     have HL2:Hid (l=varsT (allT (r.ats.take (i+1)))):=zO (by
      have h:=HL.out
      rw[show a.terms.take j=a.terms from jo (by have:=HNT.out;omega),←HTK.out]at h
      exact h)
     go_wp2_with fail
     go_roundw
     case rel=>exact⟨i+1,l,P,m,cp,by omega,by go_num,rfl,HL2,HO,HE⟩
     case measure=>simp[intOf];omega
  ·obtain rfl:i=na:=by omega
   have hdi:¬(i:Int)<(i:Int):=by omega
   have HL2:Hid (l=varsT (allT r.ats)):=zO (by
    have h:=HL.out
    rw[jo (by have:=HNA.out;omega)]at h
    exact h)
   go_wp2_with fail
   go_loopw [3,7] (fun v t wr=>∃(k:Nat) (l:List ByteArray) (P:Option Addr) (m cp:Nat),k≤nc∧t=.int .i64 (k:Int)∧v=.slice P m cp∧Hid (l=((r.cds.take k).map Cd.var).foldl addW (varsT (allT r.ats)))∧Hid (wr.ownsRow w1.heap.size 9 1 (.slice P m cp) m (l.map Sv))∧Hid (Ext w1 wr)) (fun _ t _=>nc-(intOf t).toNat)
   case atStart=>exact⟨0,l,P,m,cp,jn _,rfl,rfl,HL2,HO,HE⟩
   case round =>
    clear HL HL2 HO HE b0
    obtain⟨k,l,P,m,cp,hk,rfl,rfl,HL,HO,HE⟩:=hrel
    obtain⟨W2,rfl⟩:∃W:World,W=wr:=⟨_,rfl⟩
    have b1:=(HKB.out.ext HE.out).cell (i:=1) (by simp)
    simp only[ja,je]at b1
    by_cases hkt:k<nc
    ·have j1:(0:Int)≤(k:Int):=by omega
     have j2:(k:Int)<(nc:Int):=by omega
     have hkx:k<r.cds.length:=by have:=HNC.out;omega
     have hml:m=l.length:=by have:=HO.out.1;simpa using this.symm
     have hlb:l.length≤200000:=by
      have h1:∀(ss vs:List ByteArray),(ss.foldl addW vs).length≤vs.length+ss.length:=by
       intro ss
       induction ss with
       | nil=>intro vs;simp
       | cons s ss ih =>
        intro vs
        have h2:=ih (addW vs s)
        have h3:=addW_length vs s
        rw[zm,jD]
        omega
      have h2:=h1 ((r.cds.take k).map Cd.var) (varsT (allT r.ats))
      have h3:=varsT_length (allT r.ats)
      have h4:=HTL.out
      rw[←HL.out,jm,ju]at h2
      omega
     have hmb:m≤200000:=by omega
     clear hml
     obtain⟨ad2,rfl,-,d0,-⟩:=HC.out.cd hkx
     replace d0:=HE.out.cell (HX.out.cell d0)
     have htk:((r.cds.take (k+1)).map Cd.var).foldl addW (varsT (allT r.ats))=addW (((r.cds.take k).map Cd.var).foldl addW (varsT (allT r.ats))) r.cds[k].var:=by
      rw[jj hkx,jI,zD]
      rfl
     have hsz:=HZ.out.var _ (jg hkx)
     have hbw:=HE.out.size
     obtain⟨x,hx⟩:∃x,x=r.cds[k].var:=⟨_,rfl⟩
     rw[←hx]at d0 hsz htk
     rw[←HL.out]at htk
     have HTK:=zO htk
     have HIX:=zO (index23 (s:=x) (Strs.of_own HO.out) (by omega))
     clear htk hx hkx
     by_cases hin:x∈l
     ·have hneg:¬idxI l x<0:=fun h=>idx_neg.1 h hin
      have hge : 0≤idxI l x:=by omega
      have HI:=zO hin
      obtain⟨z,hz⟩:∃z,z=idxI l x:=⟨_,rfl⟩
      have HIX2:Hid (Calls Tryz.prog 19 #[.slice P m cp,.string x] W2 (fun e w'=>e=.returned (.int .i64 z)∧W2=w')):=zO (by rw[hz];exact HIX.out)
      rw[←hz]at hneg hge
      clear hin hz HIX
      go_wp2_with fail
      refine HIX2.out.mono ?_
      rintro e w3 ⟨rfl,rfl⟩
      go_wp2_with fail
      go_roundw
      case rel=>exact⟨k+1,l,P,m,cp,by omega,by go_num,rfl,zO (by rw[HTK.out];unfold addW;rw[if_pos HI.out]),HO,HE⟩
      case measure=>simp[intOf];omega
     ·have hneg:idxI l x<0:=idx_neg.2 hin
      have HI:=zO hin
      obtain⟨z,hz⟩:∃z,z=idxI l x:=⟨_,rfl⟩
      have HIX2:Hid (Calls Tryz.prog 19 #[.slice P m cp,.string x] W2 (fun e w'=>e=.returned (.int .i64 z)∧W2=w')):=zO (by rw[hz];exact HIX.out)
      rw[←hz]at hneg
      clear hin hz HIX
      go_wp2_with fail
      refine HIX2.out.mono ?_
      rintro e w3 ⟨rfl,rfl⟩
      go_wp2_with (first
      | (at_builtin;refine wpList_append_at rfl _ _ 24 rfl w1.heap.size 9 i0 (.string ⟨#[]⟩) 1 16 Tryz.underlying24 HI0.out.1 HI0.out.2.1 HI0.out.2.2.1 HI0.out.2.2.2 rfl (by omega) (.slice P m cp) m (l.map Sv) rfl (HO.out.alloc _) ⟨W2.heap.size,0,none⟩ 1 1 [.string x] rfl rfl (laid_news W2 _ _) (by simp[Value.oneCell']) (by simp only[maxLen];omega) (by omega) (by simp;omega) ?_;intro v3 w3 hr3 hg3 hl3;obtain⟨P3,c3,rfl⟩:=own_slice hr3;have HR3:=zO hr3;have HX3:=zO ((HE.out.alloc _).grown hg3 (fun k hk=>own_ge HO.out hk));clear hr3 hg3 hl3))
      go_roundw
      case rel=>exact⟨k+1,l++[x],P3,m+1,c3,by omega,by go_num,rfl,zO (by rw[HTK.out];unfold addW;rw[if_neg HI.out]),zO (by rw[jI];exact HR3.out),HX3⟩
      case measure=>simp[intOf];omega
    ·obtain rfl:k=nc:=by omega
     have hdk:¬(k:Int)<(k:Int):=by omega
     have HF:Hid (W2.ownsRow w.heap.size 9 1 (.slice P m cp) (varsR r).length ((varsR r).map Sv)):=zO (by
      have h:=HL.out
      rw[jo (by have:=HNC.out;omega)]at h
      have h2:=HO.out
      have hml:m=l.length:=by have:=HO.out.1;simpa using this.symm
      rw[hml]at h2 ⊢
      rw[show varsR r=l from h.symm]
      exact own_low h2 (by have:=HX.out.size;omega))
     have HXX:=zO (HX.out.trans HE.out)
     go_wp2_with fail
     go_ret
     exact Ret.mk HXX.out HF.out
