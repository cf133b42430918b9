/- packed -/
import Derived.Test.YtplldnnnhgnbjaaGreatDoorMv45
set_option maxRecDepth 20000
set_option maxHeartbeats 6400000
namespace Go.Proofs.YtplldnnnhgnbjaaGreatDoor
open Go.RowKit Go.Maps
theorem tb_at{M:Dm}{l:List ByteArray}{i:Nat}(hi:i<l.length):(fM M l)[i]'(by rw[eD];exact hi)=tbOf M l[i]:=jy _
theorem find23{F:Nat→Prop}{w:World}{A:Option Addr}{n c:Nat}{M:Dm}{l:List ByteArray}{s:ByteArray}(h:Sl ow F w (.slice A n c) (fM M l))(hl:l.length≤1000000) :
  Calls Tryz.prog 46 #[.slice A n c,.string s] w (oH l s w):=by
 have hn:=h.cap.1
 rw[eD]at hn
 have HN:=zN hn;have HH:=zN h
 have sq:n≤1000000:=by omega
 clear h hn hl
 go_enter Tryz.func46,Tryz.ntmps46
 go_wp2_with fail
 go_loopw [5] (fun q wr=>∃i:Nat,i≤n∧q=.int .i64 (i:Int)∧(∀j (h:j<l.length),j<i→l[j]≠s)∧wr=w) (fun q _=>n-(intOf q).toNat)
 case atStart=>exact⟨0,jn _,rfl,fun _ _ h=>absurd h (by omega),rfl⟩
 case round =>
  obtain⟨i,hi,rfl,si,rfl⟩:=hrel
  have se:=zN si
  clear si
  by_cases hlt:i<n
  ·have i1:(0:Int)≤(i:Int):=by omega
   have i2:(i:Int)<(n:Int):=by omega
   have sh:i<l.length:=by have:=HN.out;omega
   obtain⟨ad,B,d,rfl,-,c0,-⟩:=HH.out.tb (i:=i) (by rw[eD];exact sh)
   rw[tb_at sh]at c0
   change wr.cell? (ad.add (i*3))=some (.string l[i]) at c0
   by_cases he:l[i]=s
   ·have HR:Hid ((i:Int)=bW l s):=zN (li sh he (fun j h hj=>se.out j h hj)).symm
    rw[he]at c0
    clear he
    go_wp2_with fail
    go_ret
    exact⟨by rw[←HR.out];rfl,rfl⟩
   ·have HE:=zN he
    have sg:Hid (∀j (h:j<l.length),j<i+1→l[j]≠s):=zN (fun j h hj=>by
     by_cases e:j=i
     ·subst e
      exact HE.out
     ·exact se.out j h (by omega))
    have sj:=str_ne he
    obtain⟨x,hx⟩:=sd (l[i])
    rw[←hx]at c0 sj
    clear he hx
    go_wp2_with fail
    go_roundw
    case rel=>exact⟨i+1,by omega,by go_num,sg.out,by trivial⟩
    case measure=>simp[intOf];omega
  ·obtain rfl:i=n:=by omega
   have sp:¬(i:Int)<(i:Int):=by omega
   have HR:Hid (bW l s = -1):=zN (by
    rw[bW,if_neg]
    intro hm
    obtain⟨j,hj,e⟩:=jx hm
    exact se.out j hj (by have:=HN.out;omega) e)
   go_wp2_with fail
   go_ret
   exact⟨by rw[HR.out];rfl,rfl⟩
theorem lU(M:Dm)(a:At):∀l:List At,bM M (l++[a])=bM M l*max (aS M a.rel).length 1
 | []=>by simp[bM]
 | b::l=>by
  have ih:=lU M a l
  unfold bM at ih ⊢
  rw[zw,List.foldr_cons,ih,List.foldr_cons,Nat.mul_assoc]
theorem pl{M:Dm}(h:∀s,(aS M s).length≤40):∀l:List At,bM M l≤41 ^ l.length
 | []=>by simp[bM]
 | b::l=>by
  have ih:=pl h l
  have hb:max (aS M b.rel).length 1≤41:=by have:=h b.rel;omega
  unfold bM at ih ⊢
  rw[List.foldr_cons,jD,Nat.pow_succ,Nat.mul_comm (41 ^ l.length)]
  exact Nat.mul_le_mul hb ih
def cZ(l:List At):List At:=l.filter (fun a=>!a.neg)
theorem pow_8{n:Nat}(h:n≤8) : 41 ^ n≤7984925229121:=by
 have h1 : 41 ^ n≤41 ^ 8:=Nat.pow_le_pow_right (by omega) h
 exact jr h1 (by decide)
theorem heavy_any{F G:Nat→Prop}{w:World}{A B:Option Addr}{n c nr cr:Nat}{M:Dm}{l:List ByteArray}{rs:List Rl}(h:Sl ow F w (.slice A n c) (fM M l))(hR:Sl rz G w (.slice B nr cr) rs)(hn:bU M l)(hl:l.length≤1000000)(sS:∀s e,M s=some e→e.rel.rows.length≤40)(sX:rs.length≤9223372036854775807)(si:∀r∈rs,r.ats.length≤14∧(cZ r.ats).length≤8∧RlZ r) :
  Calls Tryz.prog 13 #[.slice A n c,.slice B nr cr] w (NoP (∀r∈rs,bM M (bL r)≤1500) w):=by
 have sy:∀s,(aS M s).length≤40:=fun s=>by
  rcases hm:M s with _|e
  ·unfold aS
   rw[hm]
   simp
  ·rw[kK hm]
   exact sS s e hm
 have sN:Hid (nr=rs.length):=zN hR.cap.1
 have tB:nr≤9223372036854775807:=by rw[hR.cap.1];exact sX
 have sx:Hid (∀V,Ext w V→NoP (∀r∈rs,bM M (bL r)≤1500) w (.returned (.bool true)) V):=zN (fun V hV=>⟨hV,true,rfl,fun h=>by cases h⟩)
 have sM:Hid (∀V,Ext w V→(∀r∈rs,bM M (bL r)≤1500)→NoP (∀r∈rs,bM M (bL r)≤1500) w (.returned (.bool false)) V):=zN (fun V hV h=>⟨hV,false,rfl,fun _=>h⟩)
 obtain⟨PP,sP⟩:=sd (NoP (∀r∈rs,bM M (bL r)≤1500) w)
 rw[←sP]at sx sM ⊢
 have ta:=zN (fun (V:World) (s:ByteArray) (hV:Ext w V)=>find23 (s:=s) (h.ext hV) hl)
 have HT:=zN h;have HR:=zN hR;have sL:=zN hn;have te:=zN si;have su:=zN sy
 have sO:Hid (n=l.length):=zN (by have:=h.cap.1;rw[eD]at this;exact this)
 have tA:n≤1000000:=by have:=sO.out;omega
 clear h hR hn hl sS sX si sy sP
 go_enter Tryz.func13,Tryz.ntmps13
 go_wp2_with fail
 go_loopw [5] (fun t wr=>∃i:Nat,i≤nr∧t=.int .i64 (i:Int)∧Hid (∀r∈rs.take i,bM M (bL r)≤1500)∧Hid (Ext w wr)) (fun t _=>nr-(intOf t).toNat)
 case atStart=>exact⟨0,jn _,rfl,zN (by simp),zN (Ext.refl _)⟩
 case round =>
  obtain⟨i,hi,rfl,HV,HE⟩:=hrel
  obtain⟨W,rfl⟩:∃W:World,W=wr:=⟨_,rfl⟩
  by_cases hlt:i<nr
  ·have i1:(0:Int)≤(i:Int):=by omega
   have i2:(i:Int)<(nr:Int):=by omega
   have sg:i<rs.length:=by have:=sN.out;omega
   obtain⟨ad,B1,d1,C1,e1,rfl,-,f0,f1,sG,tg⟩:=HR.out.rl sg
   have sj:rs.take (i+1)=rs.take i++[rs[i]]:=jj sg
   have si:=te.out _ (jf sg)
   obtain⟨r,hr⟩:=sd (rs[i])
   rw[←hr]at f0 sG sj si
   obtain⟨_,_,e,-,sQ⟩:=sG.at'
   injection e with e1 e2 e3
   obtain⟨na,sE⟩:=sd r.ats.length
   rw[←sE]at f0
   have sT:na≤14:=by rw[sE];exact si.1
   have sJ:=zN f0;have sw:=zN sj;have sr:=zN si;have sK:=zN sE;have sZ:=zN sQ
   clear f0 f1 sG tg sj si hr sE sQ e2 e3 sg
   subst e1
   have f0:=HE.out.cell sJ.out
   go_wp2_with fail
   go_loopw [6,7] (fun v t wr=>∃k p:Nat,k≤na∧t=.int .i64 (k:Int)∧v=.int .i64 (p:Int)∧p≤7984925229121∧Hid (p=bM M (cZ (r.ats.take k)))∧Hid (Ext w wr)) (fun _ t _=>na-(intOf t).toNat)
   case atStart=>exact⟨0,1,jn _,rfl,rfl,by omega,zN rfl,HE⟩
   case round =>
    clear HE f0
    obtain⟨k,p,hk,rfl,rfl,hp,HP,HE⟩:=hrel
    obtain⟨W2,rfl⟩:∃W:World,W=wr:=⟨_,rfl⟩
    have f0:=HE.out.cell sJ.out
    by_cases hkt:k<na
    ·have j1:(0:Int)≤(k:Int):=by omega
     have j2:(k:Int)<(na:Int):=by omega
     have sD:k<r.ats.length:=by have:=sK.out;omega
     obtain⟨ae,C,d,rfl,-,c0,c1,c2,hd,tp⟩:=sZ.out k sD
     replace c0:=HE.out.cell c0;replace c1:=HE.out.cell c1;replace c2:=HE.out.cell c2
     have sj:cZ (r.ats.take (k+1))=cZ (r.ats.take k)++cZ [r.ats[k]]:=by
      unfold cZ
      rw[jj sD,jK]
     have se:(cZ (r.ats.take (k+1))).length≤8:=by
      have h1:(cZ (r.ats.take (k+1))).length≤(cZ r.ats).length:=by
       conv=>rhs;rw[←jX (k+1) r.ats]
       unfold cZ
       rw[jK,jm]
       exact Nat.le_add_right _ _
      have:=sr.out.2.1
      omega
     have sW:=jr (pl su.out (cZ (r.ats.take (k+1)))) (pow_8 se)
     have sY:=sr.out.2.2.rel _ (jf sD)
     obtain⟨a,ha⟩:=sd (r.ats[k])
     rw[←ha]at c0 c1 c2 sj sY
     obtain⟨nt,sV⟩:=sd a.terms.length
     rw[←sV]at c2
     obtain⟨s,hs⟩:=sd a.rel
     rw[←hs]at c1 sY
     have sA:=(Ext.refl W2).alloc (.cells #[.bool a.neg,.string s,.slice C nt d] 49)
     have ka:=Bk.new W2 49 [.bool a.neg,.string s,.slice C nt d]
     have sq:=zN (ta.out _ s (HE.out.trans sA))
     obtain⟨ng,sI⟩:=sd a.neg
     rw[←sI]at c0 ka sA sq
     have sw:=zN sj;have tc:=zN sW;have HS:=zN hs;have sC:=zN sI
     clear sj sW se ha sV hs hd tp sD sI
     have d0:=ka.c0;have d1:=ka.c1
     by_cases hin:s∈l
     ·obtain⟨j,hj⟩:=sd (posN l s)
      have sg:bW l s=(j:Int):=by rw[hj];exact fC sL.out.1 hin
      have sH:j<l.length:=by rw[hj];exact bR hin
      have sR:l[j]=s:=by simp only[hj];exact lT hin
      have tz:(j:Int)<(n:Int):=by have:=sO.out;omega
      have tw:(0:Int)≤(j:Int):=by omega
      have sh:Hid (Calls Tryz.prog 46 #[.slice A n c,.string s] (W2.alloc (.cells #[.bool ng,.string s,.slice C nt d] 49)) (fun e w'=>e=.returned (.int .i64 (j:Int))∧(W2.alloc (.cells #[.bool ng,.string s,.slice C nt d] 49))=w')):=zN (by rw[←sg];exact sq.out)
      obtain⟨at',B',d',rfl,-,-,-,e2,-⟩:=HT.out.tb (i:=j) (by rw[eD];exact sH)
      rw[tb_at sH,sR]at e2
      change w.cell? ⟨(at'.add (j*3)).block,(at'.add (j*3)).off+2,none⟩=some (.slice B' (aS M s).length d') at e2
      replace e2:=(HE.out.trans sA).cell e2
      obtain⟨m,hm⟩:=sd ((aS M s).length)
      rw[←hm]at e2
      have HM:=zN hm
      have th:m≤40:=by rw[hm];exact su.out s
      have sB:=zN (HE.out.trans sA)
      clear hin hj sg sH sR sq hm
      rcases ng with _|_
      ·have sp:Hid (p*max m 1=bM M (cZ (r.ats.take (k+1)))):=zN (by
        have e:cZ [a]=[a]:=by unfold cZ;rw[List.filter_cons,←sC.out];rfl
        rw[sw.out,e,lU,←HP.out,←HS.out,←HM.out])
       have tn:p*max m 1≤7984925229121:=by rw[sp.out];exact tc.out
       go_wp2_with fail
       refine sh.out.mono ?_
       rintro e W3 ⟨rfl,rfl⟩
       go_wp2_with fail
       have tq:wrap64 ((p:Int)*max (m:Int) 1)=((p*max m 1:Nat):Int):=by
        have e:(p:Int)*max (m:Int) 1=((p*max m 1:Nat):Int):=by
         rw[Int.natCast_mul]
         congr 1
         omega
        rw[e,IntWalk.wrap64_in _ (by omega)]
       refine⟨⟨k+1,p*max m 1,by omega,by go_num,by rw[tq],tn,sp,sB⟩,?_⟩
       simp[intOf]
       omega
      ·have sp:Hid (p=bM M (cZ (r.ats.take (k+1)))):=zN (by
        have e:cZ [a]=[]:=by unfold cZ;rw[List.filter_cons,←sC.out];rfl
        rw[sw.out,e,zG,←HP.out])
       go_wp2_with fail
       refine sh.out.mono ?_
       rintro e W3 ⟨rfl,rfl⟩
       go_wp2_with fail
       go_roundw
       case rel=>exact⟨k+1,p,by omega,by go_num,rfl,hp,sp,sB⟩
       case measure=>simp[intOf];omega
     ·have sg:bW l s = -1:=by rw[bW,if_neg hin]
      have sh:Hid (Calls Tryz.prog 46 #[.slice A n c,.string s] (W2.alloc (.cells #[.bool ng,.string s,.slice C nt d] 49)) (fun e w'=>e=.returned (.int .i64 (-1))∧(W2.alloc (.cells #[.bool ng,.string s,.slice C nt d] 49))=w')):=zN (by rw[←sg];exact sq.out)
      have sU:aS M s=[]:=by
       have:¬(M s).isSome=true:=fun h=>hin ((sL.out.2 s).2 h)
       unfold aS
       rcases hm:M s with _|x
       ·rfl
       ·rw[hm]at this
        exact absurd rfl this
      have sp:Hid (p=bM M (cZ (r.ats.take (k+1)))):=zN (by
       rw[sw.out]
       rcases hg:ng with _|_
       ·have e:cZ [a]=[a]:=by unfold cZ;rw[List.filter_cons,←sC.out,hg];rfl
        rw[e,lU,←HP.out,←HS.out,sU]
        simp
       ·have e:cZ [a]=[]:=by unfold cZ;rw[List.filter_cons,←sC.out,hg];rfl
        rw[e,zG,←HP.out])
      have sB:=zN (HE.out.trans sA)
      clear hin sg sq sU
      go_wp2_with fail
      refine sh.out.mono ?_
      rintro e W3 ⟨rfl,rfl⟩
      go_wp2_with fail
      go_roundw
      case rel=>exact⟨k+1,p,by omega,by go_num,rfl,hp,sp,sB⟩
      case measure=>simp[intOf];omega
    ·obtain rfl:k=na:=by omega
     have tu:¬(k:Int)<(k:Int):=by omega
     have sF:Hid (p=bM M (bL r)):=zN (by
      have h:=HP.out
      rw[jp (by have:=sK.out;omega)]at h
      exact h)
     have td:=zN (sx.out W2 HE.out)
     by_cases hp15:p≤1500
     ·have tj:¬(1500:Int)<(p:Int):=by omega
      have tf:Hid (∀r∈rs.take (i+1),bM M (bL r)≤1500):=zN (by
       rw[sw.out]
       intro x hx
       rcases ju.1 hx with hx|hx
       ·exact HV.out x hx
       ·rw[jq]at hx
        rw[hx,←sF.out]
        exact hp15)
      go_wp2_with fail
      go_roundw
      case rel=>exact⟨i+1,by omega,by go_num,tf,HE⟩
      case measure=>simp[intOf];omega
     ·have tj:(1500:Int)<(p:Int):=by omega
      go_wp2_with fail
      exact td.out
  ·obtain rfl:i=nr:=by omega
   have tt:¬(i:Int)<(i:Int):=by omega
   have sF:=zN (sM.out W HE.out (by
    have h:=HV.out
    rw[jp (by have:=sN.out;omega)]at h
    exact h))
   go_wp2_with fail
   exact sF.out
