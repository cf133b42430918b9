/- packed -/
import Derived.Test.YtplldnnnhgnbjaaGreatDoorMu43
namespace Go.Proofs.YtplldnnnhgnbjaaGreatDoor
open Go.RowKit Go.Maps
theorem tb_at{M:Dm}{l:List ByteArray}{i:Nat}(hi:i<l.length):(tbsOf M l)[i]'(by rw[tbsOf_len];exact hi)=tbOf M l[i]:=jy _
set_option maxRecDepth 20000 in
set_option maxHeartbeats 800000 in
theorem find23{F:Nat→Prop}{w:World}{A:Option Addr}{n c:Nat}{M:Dm}{l:List ByteArray}{s:ByteArray}(h:Sl rdTb F w (.slice A n c) (tbsOf M l))(hl:l.length≤1000000) :
  Calls Tryz.prog 46 #[.slice A n c,.string s] w (IdxAt l s w):=by
 have hn:=h.cap.1
 rw[tbsOf_len]at hn
 have HN:=zO hn;have HH:=zO h
 have hnb:n≤1000000:=by omega
 clear h hn hl
 go_enter Tryz.func46,Tryz.ntmps46
 go_wp2_with fail
 go_loopw [5] (fun q wr=>∃i:Nat,i≤n∧q=.int .i64 (i:Int)∧(∀j (h:j<l.length),j<i→l[j]≠s)∧wr=w) (fun q _=>n-(intOf q).toNat)
 case atStart=>exact⟨0,jn _,rfl,fun _ _ h=>absurd h (by omega),rfl⟩
 case round =>
  obtain⟨i,hi,rfl,hgo,rfl⟩:=hrel
  have HGO:=zO hgo
  clear hgo
  by_cases hlt:i<n
  ·have i1:(0:Int)≤(i:Int):=by omega
   have i2:(i:Int)<(n:Int):=by omega
   have hix:i<l.length:=by have:=HN.out;omega
   obtain⟨ad,B,d,rfl,-,c0,-⟩:=HH.out.tb (i:=i) (by rw[tbsOf_len];exact hix)
   rw[tb_at hix]at c0
   change wr.cell? (ad.add (i*3))=some (.string l[i]) at c0
   by_cases he:l[i]=s
   ·have HR:Hid ((i:Int)=idxI l s):=zO (idxI_at hix he (fun j h hj=>HGO.out j h hj)).symm
    rw[he]at c0
    clear he
    go_wp2_with fail
    go_ret
    exact⟨by rw[←HR.out];rfl,rfl⟩
   ·have HE:=zO he
    have HGO2:Hid (∀j (h:j<l.length),j<i+1→l[j]≠s):=zO (fun j h hj=>by
     by_cases e:j=i
     ·subst e
      exact HE.out
     ·exact HGO.out j h (by omega))
    have hs1:=str_ne he
    obtain⟨x,hx⟩:∃x,x=l[i]:=⟨_,rfl⟩
    rw[←hx]at c0 hs1
    clear he hx
    go_wp2_with fail
    go_roundw
    case rel=>exact⟨i+1,by omega,by go_num,HGO2.out,by trivial⟩
    case measure=>simp[intOf];omega
  ·obtain rfl:i=n:=by omega
   have hdi:¬(i:Int)<(i:Int):=by omega
   have HR:Hid (idxI l s = -1):=zO (by
    rw[idxI,if_neg]
    intro hm
    obtain⟨j,hj,e⟩:=jv hm
    exact HGO.out j hj (by have:=HN.out;omega) e)
   go_wp2_with fail
   go_ret
   exact⟨by rw[HR.out];rfl,rfl⟩
theorem prodA_app(M:Dm)(a:At):∀l:List At,prodA M (l++[a])=prodA M l*max (rowsD M a.rel).length 1
 | []=>by simp[prodA]
 | b::l=>by
  have ih:=prodA_app M a l
  unfold prodA at ih ⊢
  rw[zw,List.foldr_cons,ih,List.foldr_cons,Nat.mul_assoc]
theorem prodA_pow{M:Dm}(h:∀s,(rowsD M s).length≤40):∀l:List At,prodA M l≤41 ^ l.length
 | []=>by simp[prodA]
 | b::l=>by
  have ih:=prodA_pow h l
  have hb:max (rowsD M b.rel).length 1≤41:=by have:=h b.rel;omega
  unfold prodA at ih ⊢
  rw[List.foldr_cons,jD,Nat.pow_succ,Nat.mul_comm (41 ^ l.length)]
  exact Nat.mul_le_mul hb ih
def posN2(l:List At):List At:=l.filter (fun a=>!a.neg)
theorem pow_8{n:Nat}(h:n≤8) : 41 ^ n≤7984925229121:=by
 have h1 : 41 ^ n≤41 ^ 8:=Nat.pow_le_pow_right (by omega) h
 exact js h1 (by decide)
set_option maxRecDepth 20000 in
set_option maxHeartbeats 6400000 in
theorem heavy_any{F G:Nat→Prop}{w:World}{A B:Option Addr}{n c nr cr:Nat}{M:Dm}{l:List ByteArray}{rs:List Rl}(h:Sl rdTb F w (.slice A n c) (tbsOf M l))(hR:Sl rdRl G w (.slice B nr cr) rs)(hn:NamesOf M l)(hl:l.length≤1000000)(hln:∀s e,M s=some e→e.rel.rows.length≤40)(hrn:rs.length≤9223372036854775807)(hra:∀r∈rs,r.ats.length≤14∧(posN2 r.ats).length≤8∧RlZ r) :
  Calls Tryz.prog 13 #[.slice A n c,.slice B nr cr] w (NoP (∀r∈rs,prodA M (posL r)≤1500) w):=by
 have hrow:∀s,(rowsD M s).length≤40:=fun s=>by
  rcases hm:M s with _|e
  ·unfold rowsD
   rw[hm]
   simp
  ·rw[rowsD_some hm]
   exact hln s e hm
 have HNR:Hid (nr=rs.length):=zO hR.cap.1
 have hnr:nr≤9223372036854775807:=by rw[hR.cap.1];exact hrn
 have HYES:Hid (∀V,Ext w V→NoP (∀r∈rs,prodA M (posL r)≤1500) w (.returned (.bool true)) V):=zO (fun V hV=>⟨hV,true,rfl,fun h=>by cases h⟩)
 have HNO:Hid (∀V,Ext w V→(∀r∈rs,prodA M (posL r)≤1500)→NoP (∀r∈rs,prodA M (posL r)≤1500) w (.returned (.bool false)) V):=zO (fun V hV h=>⟨hV,false,rfl,fun _=>h⟩)
 obtain⟨PP,hPP⟩:∃P,P=NoP (∀r∈rs,prodA M (posL r)≤1500) w:=⟨_,rfl⟩
 rw[←hPP]at HYES HNO ⊢
 have HFI:=zO (fun (V:World) (s:ByteArray) (hV:Ext w V)=>find23 (s:=s) (h.ext hV) hl)
 have HT:=zO h;have HR:=zO hR;have HNM:=zO hn;have HRA:=zO hra;have HROW:=zO hrow
 have HTN:Hid (n=l.length):=zO (by have:=h.cap.1;rw[tbsOf_len]at this;exact this)
 have hnb:n≤1000000:=by have:=HTN.out;omega
 clear h hR hn hl hln hrn hra hrow hPP
 go_enter Tryz.func13,Tryz.ntmps13
 go_wp2_with fail
 go_loopw [5] (fun t wr=>∃i:Nat,i≤nr∧t=.int .i64 (i:Int)∧Hid (∀r∈rs.take i,prodA M (posL r)≤1500)∧Hid (Ext w wr)) (fun t _=>nr-(intOf t).toNat)
 case atStart=>exact⟨0,jn _,rfl,zO (by simp),zO (Ext.refl _)⟩
 case round =>
  obtain⟨i,hi,rfl,HV,HE⟩:=hrel
  obtain⟨W,rfl⟩:∃W:World,W=wr:=⟨_,rfl⟩
  by_cases hlt:i<nr
  ·have i1:(0:Int)≤(i:Int):=by omega
   have i2:(i:Int)<(nr:Int):=by omega
   have hix:i<rs.length:=by have:=HNR.out;omega
   obtain⟨ad,B1,d1,C1,e1,rfl,-,f0,f1,hA1,hC1⟩:=HR.out.rl hix
   have htk:rs.take (i+1)=rs.take i++[rs[i]]:=jj hix
   have hra:=HRA.out _ (jg hix)
   obtain⟨r,hr⟩:∃r,r=rs[i]:=⟨_,rfl⟩
   rw[←hr]at f0 hA1 htk hra
   obtain⟨_,_,e,-,hat⟩:=hA1.at'
   injection e with e1 e2 e3
   obtain⟨na,hna⟩:∃n,n=r.ats.length:=⟨_,rfl⟩
   rw[←hna]at f0
   have hna14:na≤14:=by rw[hna];exact hra.1
   have HF0:=zO f0;have HTK:=zO htk;have HRA2:=zO hra;have HNA:=zO hna;have HAT:=zO hat
   clear f0 f1 hA1 hC1 htk hra hr hna hat e2 e3 hix
   subst e1
   have f0:=HE.out.cell HF0.out
   go_wp2_with fail
   go_loopw [6,7] (fun v t wr=>∃k p:Nat,k≤na∧t=.int .i64 (k:Int)∧v=.int .i64 (p:Int)∧p≤7984925229121∧Hid (p=prodA M (posN2 (r.ats.take k)))∧Hid (Ext w wr)) (fun _ t _=>na-(intOf t).toNat)
   case atStart=>exact⟨0,1,jn _,rfl,rfl,by omega,zO rfl,HE⟩
   case round =>
    clear HE f0
    obtain⟨k,p,hk,rfl,rfl,hp,HP,HE⟩:=hrel
    obtain⟨W2,rfl⟩:∃W:World,W=wr:=⟨_,rfl⟩
    have f0:=HE.out.cell HF0.out
    by_cases hkt:k<na
    ·have j1:(0:Int)≤(k:Int):=by omega
     have j2:(k:Int)<(na:Int):=by omega
     have hkx:k<r.ats.length:=by have:=HNA.out;omega
     obtain⟨ae,C,d,rfl,-,c0,c1,c2,hd,htc⟩:=HAT.out k hkx
     replace c0:=HE.out.cell c0;replace c1:=HE.out.cell c1;replace c2:=HE.out.cell c2
     have htk:posN2 (r.ats.take (k+1))=posN2 (r.ats.take k)++posN2 [r.ats[k]]:=by
      unfold posN2
      rw[jj hkx,jK]
     have hcount:(posN2 (r.ats.take (k+1))).length≤8:=by
      have h1:(posN2 (r.ats.take (k+1))).length≤(posN2 r.ats).length:=by
       conv=>rhs;rw[←za (k+1) r.ats]
       unfold posN2
       rw[jK,jl]
       exact Nat.le_add_right _ _
      have:=HRA2.out.2.1
      omega
     have hpw:=js (prodA_pow HROW.out (posN2 (r.ats.take (k+1)))) (pow_8 hcount)
     have hsz:=HRA2.out.2.2.rel _ (jg hkx)
     obtain⟨a,ha⟩:∃a,a=r.ats[k]:=⟨_,rfl⟩
     rw[←ha]at c0 c1 c2 htk hsz
     obtain⟨nt,hnt⟩:∃n,n=a.terms.length:=⟨_,rfl⟩
     rw[←hnt]at c2
     obtain⟨s,hs⟩:∃s,s=a.rel:=⟨_,rfl⟩
     rw[←hs]at c1 hsz
     have hxa:=(Ext.refl W2).alloc (.cells #[.bool a.neg,.string s,.slice C nt d] 49)
     have ka:=Bk.new W2 49 [.bool a.neg,.string s,.slice C nt d]
     have HFX:=zO (HFI.out _ s (HE.out.trans hxa))
     obtain⟨ng,hng⟩:∃n,n=a.neg:=⟨_,rfl⟩
     rw[←hng]at c0 ka hxa HFX
     have HTK:=zO htk;have HPW:=zO hpw;have HS:=zO hs;have HNG:=zO hng
     clear htk hpw hcount ha hnt hs hd htc hkx hng
     have d0:=ka.cell (i:=0) (by simp);have d1:=ka.cell (i:=1) (by simp)
     simp only[ja,je]at d0 d1
     by_cases hin:s∈l
     ·obtain⟨j,hj⟩:∃j,j=posN l s:=⟨_,rfl⟩
      have hix:idxI l s=(j:Int):=by rw[hj];exact idxI_pos' HNM.out.1 hin
      have hjl:j<l.length:=by rw[hj];exact pos_lt hin
      have hje:l[j]=s:=by simp only[hj];exact pos_at hin
      have hjn:(j:Int)<(n:Int):=by have:=HTN.out;omega
      have hj0:(0:Int)≤(j:Int):=by omega
      have HFX2:Hid (Calls Tryz.prog 46 #[.slice A n c,.string s] (W2.alloc (.cells #[.bool ng,.string s,.slice C nt d] 49)) (fun e w'=>e=.returned (.int .i64 (j:Int))∧(W2.alloc (.cells #[.bool ng,.string s,.slice C nt d] 49))=w')):=zO (by rw[←hix];exact HFX.out)
      obtain⟨at',B',d',rfl,-,-,-,e2,-⟩:=HT.out.tb (i:=j) (by rw[tbsOf_len];exact hjl)
      rw[tb_at hjl,hje]at e2
      change w.cell? ⟨(at'.add (j*3)).block,(at'.add (j*3)).off+2,none⟩=some (.slice B' (rowsD M s).length d') at e2
      replace e2:=(HE.out.trans hxa).cell e2
      obtain⟨m,hm⟩:∃m,m=(rowsD M s).length:=⟨_,rfl⟩
      rw[←hm]at e2
      have HM:=zO hm
      have hm40:m≤40:=by rw[hm];exact HROW.out s
      have HEX:=zO (HE.out.trans hxa)
      clear hin hj hix hjl hje HFX hm
      rcases ng with _|_
      ·have HPN:Hid (p*max m 1=prodA M (posN2 (r.ats.take (k+1)))):=zO (by
        have e:posN2 [a]=[a]:=by unfold posN2;rw[List.filter_cons,←HNG.out];rfl
        rw[HTK.out,e,prodA_app,←HP.out,←HS.out,←HM.out])
       have hpm:p*max m 1≤7984925229121:=by rw[HPN.out];exact HPW.out
       go_wp2_with fail
       refine HFX2.out.mono ?_
       rintro e W3 ⟨rfl,rfl⟩
       go_wp2_with fail
       have hwz:wrap64 ((p:Int)*max (m:Int) 1)=((p*max m 1:Nat):Int):=by
        have e:(p:Int)*max (m:Int) 1=((p*max m 1:Nat):Int):=by
         rw[Int.natCast_mul]
         congr 1
         omega
        rw[e,IntWalk.wrap64_in _ (by omega)]
       refine⟨⟨k+1,p*max m 1,by omega,by go_num,by rw[hwz],hpm,HPN,HEX⟩,?_⟩
       simp[intOf]
       omega
      ·have HPN:Hid (p=prodA M (posN2 (r.ats.take (k+1)))):=zO (by
        have e:posN2 [a]=[]:=by unfold posN2;rw[List.filter_cons,←HNG.out];rfl
        rw[HTK.out,e,zL,←HP.out])
       go_wp2_with fail
       refine HFX2.out.mono ?_
       rintro e W3 ⟨rfl,rfl⟩
       go_wp2_with fail
       go_roundw
       case rel=>exact⟨k+1,p,by omega,by go_num,rfl,hp,HPN,HEX⟩
       case measure=>simp[intOf];omega
     ·have hix:idxI l s = -1:=by rw[idxI,if_neg hin]
      have HFX2:Hid (Calls Tryz.prog 46 #[.slice A n c,.string s] (W2.alloc (.cells #[.bool ng,.string s,.slice C nt d] 49)) (fun e w'=>e=.returned (.int .i64 (-1))∧(W2.alloc (.cells #[.bool ng,.string s,.slice C nt d] 49))=w')):=zO (by rw[←hix];exact HFX.out)
      have hno:rowsD M s=[]:=by
       have:¬(M s).isSome=true:=fun h=>hin ((HNM.out.2 s).2 h)
       unfold rowsD
       rcases hm:M s with _|x
       ·rfl
       ·rw[hm]at this
        exact absurd rfl this
      have HPN:Hid (p=prodA M (posN2 (r.ats.take (k+1)))):=zO (by
       rw[HTK.out]
       rcases hg:ng with _|_
       ·have e:posN2 [a]=[a]:=by unfold posN2;rw[List.filter_cons,←HNG.out,hg];rfl
        rw[e,prodA_app,←HP.out,←HS.out,hno]
        simp
       ·have e:posN2 [a]=[]:=by unfold posN2;rw[List.filter_cons,←HNG.out,hg];rfl
        rw[e,zL,←HP.out])
      have HEX:=zO (HE.out.trans hxa)
      clear hin hix HFX hno
      go_wp2_with fail
      refine HFX2.out.mono ?_
      rintro e W3 ⟨rfl,rfl⟩
      go_wp2_with fail
      go_roundw
      case rel=>exact⟨k+1,p,by omega,by go_num,rfl,hp,HPN,HEX⟩
      case measure=>simp[intOf];omega
    ·obtain rfl:k=na:=by omega
     have hdk:¬(k:Int)<(k:Int):=by omega
     have HP2:Hid (p=prodA M (posL r)):=zO (by
      have h:=HP.out
      rw[jo (by have:=HNA.out;omega)]at h
      exact h)
     have HPY:=zO (HYES.out W2 HE.out)
     by_cases hp15:p≤1500
     ·have hp':¬(1500:Int)<(p:Int):=by omega
      have HV2:Hid (∀r∈rs.take (i+1),prodA M (posL r)≤1500):=zO (by
       rw[HTK.out]
       intro x hx
       rcases jp.1 hx with hx|hx
       ·exact HV.out x hx
       ·rw[jt]at hx
        rw[hx,←HP2.out]
        exact hp15)
      go_wp2_with fail
      go_roundw
      case rel=>exact⟨i+1,by omega,by go_num,HV2,HE⟩
      case measure=>simp[intOf];omega
     ·have hp':(1500:Int)<(p:Int):=by omega
      go_wp2_with fail
      exact HPY.out
  ·obtain rfl:i=nr:=by omega
   have hdi:¬(i:Int)<(i:Int):=by omega
   have HP2:=zO (HNO.out W HE.out (by
    have h:=HV.out
    rw[jo (by have:=HNR.out;omega)]at h
    exact h))
   go_wp2_with fail
   exact HP2.out
