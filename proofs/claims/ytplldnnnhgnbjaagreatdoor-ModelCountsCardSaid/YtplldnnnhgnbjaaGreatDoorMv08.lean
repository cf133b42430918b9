/- packed -/
import Derived.Test.YtplldnnnhgnbjaaGreatDoorMv07
namespace Go.Proofs.YtplldnnnhgnbjaaGreatDoor
open Go.RowKit Go.Maps
theorem nI{r:Rl}(h:bQ r=0):r.ats≠[]∧r.ats.length≤8∧r.cds.length≤8∧(∀a∈r.ats,dA a=0)∧∀c∈r.cds,d6 c=0:=by
 unfold bQ at h
 split at h
 ·cases h
 ·split at h
  ·rename_i h1 h2
   split at h
   ·rename_i h3
    exact⟨h1,h2.1,h2.2,aF.1 h3,aF.1 h⟩
   ·rename_i h3
    exact absurd h h3
  ·cases h
theorem pH{a:At}(h:dA a=0):cO a.rel=true∧a.terms.length≤6∧∀t∈a.terms,fe t=0:=by
 unfold dA at h
 split at h
 ·rename_i h1
  split at h
  ·rename_i h2
   exact⟨h1,h2,aF.1 h⟩
  ·cases h
 ·cases h
theorem allT_small{xs:List At}(h:∀a∈xs,a.terms.length≤6):(aY xs).length≤6*xs.length:=by
 unfold aY
 induction xs with
 | nil=>simp
 | cons a xs ih =>
  rw[jS,jm,jD]
  have h1:=h a zx
  have h2:=ih (fun b hb=>h b (js _ hb))
  omega
theorem ie{r:Rl}(h:bQ r=0)(hz:RlZ r):RlB r∧(aY r.ats).length≤48:=by
 obtain⟨-,h1,h2,h3,-⟩:=nI h
 have h4:=allT_small (fun a ha=>(pH (h3 a ha)).2.1)
 exact⟨⟨hz,by omega,by omega,by omega⟩,by omega⟩
theorem lq{r:Rl}(hz:RlZ r):∀v∈aj r,v.size≤maxLen:=by
 rw[cW]
 intro v hv
 obtain⟨t,ht,rfl,-⟩:=eE.1 hv
 rcases ju.1 ht with ht|ht
 ·obtain⟨a,ha,se⟩:=kP.1 ht
  exact(hz.tms a ha t se).1
 ·obtain⟨c,hc,rfl⟩:=jG.1 ht
  exact hz.var c hc
theorem qQ(l:List Tm)(s:ByteArray):(ei l s).getD (.bool false)=.bool (dK l s):=by
 unfold ei
 by_cases h:dK l s=true
 ·rw[if_pos h,h];rfl
 ·rw[if_neg h]
  rw[Bool.not_eq_true]at h
  rw[h];rfl
theorem rD{nd:List ByteArray}{r:Rl}(h:bQ r≠0):cn nd r=bQ r:=if_neg h
theorem ruleE_many{nd:List ByteArray}{r:Rl}(h:bQ r=0)(h1:¬(aj r).length≤8):cn nd r=12:=(if_pos h).trans (if_neg h1)
theorem qc{nd:List ByteArray}{r:Rl}(h:bQ r=0)(h1:(aj r).length≤8){j:Nat}(hj:j<(nd++aj r).length)(h2:dK (de r.ats) (nd++aj r)[j]=false):cn nd r=22 :=
 (if_pos h).trans ((if_pos h1).trans (if_neg (fun h3=>by
  have h4:=jA.1 h3 _ (jf hj)
  have h5:dK (de r.ats) (nd++aj r)[j]=true:=h4
  rw[h2]at h5
  cases h5)))
theorem ruleE_fine{nd:List ByteArray}{r:Rl}(h:bQ r=0)(h1:(aj r).length≤8)(h2:∀j (hj:j<(nd++aj r).length),dK (de r.ats) (nd++aj r)[j]=true):cn nd r=0 :=
 (if_pos h).trans ((if_pos h1).trans (if_pos (jA.2 (fun v hv=>by
  obtain⟨j,hj,rfl⟩:=jx hv
  exact h2 j hj))))
theorem Strs.ofn{w w':World}{base n:Nat}{e:TypeId}{A:Option Addr}{m c:Nat}{l:List ByteArray}(h:w.ownsRow base e 1 (.slice A m c) n (l.map Sv))(he:Ext w w'):Strs (fun _=>True) w' (.slice A m c) l:=((Strs.of_own h).mono (fun _ _ _=>trivial)).ext he
set_option maxRecDepth 20000 in
set_option maxHeartbeats 3200000 in
theorem gQ{F G:Nat→Prop}{w:World}{A B O:Option Addr}{na ca nb cb no co:Nat}{ag:Int}{av:ByteArray}{hd:List ByteArray}{rs:List Rl}(hH:Strs F w (.slice A na ca) hd)(hR:Sl rz G w (.slice B nb cb) rs)(hz:∀r∈rs,RlZ r)(tZ:∀s∈hd,s.size≤maxLen)(ux:av.size≤maxLen)(uJ:na≤6)(sy:nb≤3) :
  Calls Tryz.prog 138 #[.agg #[.slice A na ca,.int .i64 ag,.string av,.slice B nb cb,.slice O no co]] w (Ret (fun x _=>x=.int .i64 (aA (cn (dI hd av)) rs)) w):=by
 obtain⟨A',c',e,uG,tW⟩:=hH
 injection e with e1 e2 e3
 subst e1 e3
 have ud:=hR.cap
 have HR:=zN hR;have HZ:=zN hz;have tH:=zN tZ;have HN:=zN ud.1;have uq:=zN e2;have um:=zN tW
 clear hR hz tZ ud e2 tW
 obtain⟨nd,sW⟩:=sd (dI hd av)
 rw[←sW]
 have sC:=zN sW
 have sL:∀v∈nd,v.size≤maxLen:=fun v hv=>by
  rw[sW]at hv
  unfold dI at hv
  split at hv
  ·exact tH.out v hv
  ·rcases ju.1 hv with hv|hv
   ·exact tH.out v hv
   ·rw[jq.1 hv];exact ux
 have ta:=zN sL
 clear sW sL
 obtain⟨i0,ua,ug,sA,uh⟩:=info_parts eW
 have sP:=zN (And.intro ua (And.intro ug (And.intro sA uh)));clear ua ug sA uh
 have sh:Hid (∀W,Ext w W→Calls Tryz.prog 107 #[.slice A na ca] W (Ret (fun x w'=>w'.ownsRow W.heap.size 9 1 x na (hd.map Sv)) W)):=zN (fun W hW=>clone_strs (um.out.ext hW) (by simp;have:=uq.out;omega) (by simp[Value.oneCell']) (by omega))
 go_enter Tryz.func138,Tryz.ntmps138
 go_wp2_with fail
 have kb:=Bk.new w 28 [.slice A na ca,.int .i64 ag,.string av,.slice B nb cb,.slice O no co]
 change Bk (w.alloc (.cells #[.slice A na ca,.int .i64 ag,.string av,.slice B nb cb,.slice O no co] 28)) _ _ _ at kb
 have hx:Ext w (w.alloc (.cells #[.slice A na ca,.int .i64 ag,.string av,.slice B nb cb,.slice O no co] 28)):=(Ext.refl w).alloc _
 generalize (w.alloc (.cells #[.slice A na ca,.int .i64 ag,.string av,.slice B nb cb,.slice O no co] 28))=w1 at *
 have b0:=kb.c0
 go_step3
 go_wp2_with fail
 refine(sh.out _ hx).mono ?_
 rintro e w2 ⟨v2,rfl,he,se⟩
 obtain⟨A2,c2,rfl⟩:=af se
 have sV:=kb.ext he
 have b2:=sV.c2;have b3:=sV.c3
 have sO:=he.size;have sN:=hx.size
 have tf:=zN (hx.trans he);have te:=zN he;have si:=zN se;have sZ:=zN sV
 clear se he hx kb sV b0
 by_cases hv:av=⟨#[]⟩
 case' pos =>
  have uC:=gw hv
  have se:=si.out
  rw[←show nd=hd by rw[sC.out];exact if_pos hv]at se
  have sw:=zN se;have tM:=zN tf.out
  have tu:na≤7:=by omega
  clear hv se
  obtain⟨w3,rfl⟩:=sd w2
  obtain⟨A3,rfl⟩:=sd A2
  obtain⟨c3,rfl⟩:=sd c2
  obtain⟨n3,sx⟩:=sd na
  rw[←sx]at sw tu
  go_wp2_with fail
  rw[←sx]
  clear sx
 case' neg =>
  have uC:=gy hv
  have uf:nd=hd++[av]:=by rw[sC.out];exact if_neg hv
  have ut:=zN uf
  clear hv uf
  have th:w1.heap.size≤(w2.alloc (.cells #[.string av] 9)).heap.size:=jr sO ((Ext.refl w2).alloc _).size
  have tj:na+1≤maxLen:=by simp only[maxLen];omega
  have tn:(na+1)*16≤140737488355328:=by omega
  have sF:∀(v3:Value) (w3:World),w3.ownsRow w1.heap.size 9 1 v3 (na+1) (hd.map Sv++[.string av])→(w2.alloc (.cells #[.string av] 9)).grownBy w3 (Value.slice A2 na c2).ownBlock→Hid (∃A3 c3,v3=.slice A3 (na+1) c3∧w3.ownsRow w1.heap.size 9 1 (.slice A3 (na+1) c3) (na+1) (nd.map Sv)∧Ext w w3∧w3.cell? ⟨w.heap.size,3,none⟩=some (.slice B nb cb)):=fun v3 w3 sy sJ=>zN (by
   obtain⟨A3,c3,rfl⟩:=af sy
   refine⟨A3,c3,rfl,?_,(tf.out.alloc _).grown sJ (fun q hq=>jr sN (aw si.out hq)),?_⟩
   ·rw[ut.out,jH];exact sy
   ·exact((sZ.out.alloc (.cells #[.string av] 9)).fr (am sJ) (fun e=>aQ si.out sZ.out (by decide) e rfl)).cell (i:=3) (by simp))
  have ui:=zN sF
  clear sF
  go_wp2_with (first|(at_builtin;refine aq rfl _ _ 24 rfl w1.heap.size 9 i0 (.string ⟨#[]⟩) 1 16 Tryz.underlying24 sP.out.1 sP.out.2.1 sP.out.2.2.1 sP.out.2.2.2 rfl (by omega) (.slice A2 na c2) na (hd.map Sv) rfl (si.out.alloc _) ⟨w2.heap.size,0,none⟩ 1 1 [.string av] rfl rfl (aE w2 _ _) (by simp[Value.oneCell']) tj tn th ?_;intro v3 w3 sy sJ uA;obtain⟨A3,c3,rfl,tQ,tR,b3⟩:=(ui.out _ _ sy sJ).out;have sw:=zN tQ;have tM:=zN tR;clear sy sJ uA tQ tR))
  have tu:na+1≤7:=by omega
  obtain⟨n3,sx⟩:=sd (na+1)
  rw[←sx]at sw tu ⊢
  clear sx
 all_goals
  go_step3
  go_wp2_with fail
  have HB:=zN b2
  clear b2 b3 sZ si tf te sO sN sh
  go_loopg [4,25] nb (fun n q p wr=>∃i:Nat,i+n=nb∧q=.int .i64 0∧p=.int .i64 (i:Int)∧Hid (∀j (_:j<i) (_:j<rs.length),cn nd rs[j]=0)∧Ext w3 wr)
  case atStart=>exact⟨0,by omega,rfl,rfl,zN (fun j hj=>by omega),Ext.refl _⟩
  case round =>
   obtain⟨i,uK,rfl,rfl,H,tB⟩:=hrel
   obtain⟨N,rfl⟩:=sd gk
   obtain⟨W,rfl⟩:∃W:World,W=wr:=⟨_,rfl⟩
   have HX:=zN (tM.out.trans tB);have tP:=zN tB
   have hi:i≤nb:=by omega
   by_cases hlt:i<nb
   ·have i1:(0:Int)≤(i:Int):=by omega
    have i2:(i:Int)<(nb:Int):=by omega
    have sU:i<rs.length:=by have:=HN.out;omega
    obtain⟨ad,B1,d1,C1,e1,rfl,-,f0,f1,sS,sT⟩:=HR.out.rl sU
    replace f0:=HX.out.cell f0;replace f1:=HX.out.cell f1
    have sA:=HZ.out _ (jf sU)
    have tq:=dQ (f:=cn nd) sU H.out
    have tA:=bT (f:=cn nd) sU H.out
    obtain⟨r,hr⟩:=sd (rs[i])
    rw[←hr]at f0 f1 sS sT sA tq tA
    obtain⟨n1,uc⟩:=sd r.ats.length
    obtain⟨m1,ub⟩:=sd r.cds.length
    rw[←uc]at f0 sS
    rw[←ub]at f1 sT
    have sY:=zN (sS.ext HX.out);have tF:=zN (sT.ext HX.out);have sR:=zN sA;have uo:=zN tq
    have HS:Hid (∀m:Int,m≠0→cn nd r=m→aA (cn nd) rs=m):=zN (fun m hm h=>by rw[tA (by rw[h];exact hm),h])
    clear hr uc ub sS sT sA tq tA tB
    go_wp2_with fail
    have hx4:Ext W (W.alloc (.cells #[.slice B1 n1 d1,.slice C1 m1 e1] 46)):=(Ext.refl W).alloc _
    have k4:=Bk.new W 46 [.slice B1 n1 d1,.slice C1 m1 e1]
    change Bk (W.alloc (.cells #[.slice B1 n1 d1,.slice C1 m1 e1] 46)) _ _ _ at k4
    generalize (W.alloc (.cells #[.slice B1 n1 d1,.slice C1 m1 e1] 46))=w4 at *
    refine(ny (sY.out.ext hx4) (tF.out.ext hx4) sR.out).mono ?_
    rintro e w5 ⟨y,rfl,sH,rfl⟩
    have hx5:=hx4.trans sH
    have g0:=(k4.ext sH).c0;have g1:=(k4.ext sH).c1
    have sQ:=zN hx5;have uE:=zN (k4.ext sH)
    clear hx4 k4 sH hx5 f0 f1
    by_cases hit0:bQ r=0
    ·have HI:=zN hit0
     obtain⟨tT,tS⟩:=ie hit0 sR.out
     have sr:=(nI hit0).2
     have uk:=zN tT
     have tE:Hid (r.ats.length≤8∧r.cds.length≤8∧(aY r.ats).length≤48):=zN ⟨sr.1,sr.2.1,tS⟩
     rw[hit0]
     clear hit0 tT tS sr
     go_wp2_with fail
     refine(fN (sY.out.ext sQ.out) (tF.out.ext sQ.out) uk.out).mono ?_
     rintro e w6 ⟨y,rfl,sI,sq⟩
     obtain⟨A6,c6,rfl⟩:=af sq
     replace g0:=sI.cell g0;replace g1:=sI.cell g1
     obtain⟨nv,tz⟩:=sd ((aj r).length)
     rw[←tz]at sq ⊢
     have sD:=zN tz;have td:=zN sq;have tg:=zN (sQ.out.trans sI);have uD:=zN sI
     clear tz sq sI
     by_cases h8:nv≤8
     ·have k8:¬(8:Int)<(nv:Int):=by omega
      go_wp2_with fail
      have sM:=p9 (nc:=m1) (cc:=e1) (C:=C1) (sY.out.ext tg.out) sR.out.tms (by have:=tE.out;omega) (by have:=tE.out;omega)
      have tc:=zN sM
      clear sM
      refine tc.out.mono ?_
      rintro e w7 ⟨bm,mm,rfl,tp,uy,uB,hM⟩
      have HM:=zN hM;have tN:=zN (tg.out.trans tp);have un:=zN tp
      clear hM tp uB uy g0 g1
      go_wp2_with fail
      have sG:=concat2 (w:=w7.alloc (.cells #[.slice A3 n3 c3,.slice A6 nv c6] 24)) (g:=w7.heap.size) (Bk.new w7 24 [.slice A3 n3 c3,.slice A6 nv c6]) (Strs.ofn sw.out ((tP.out.trans tN.out).alloc _)) (Strs.ofn td.out (un.out.alloc _)) (by have h3:=sw.out.1;rw[jk]at h3;have:=sD.out;omega)
      refine sG.mono ?_
      rintro e w8 ⟨y,rfl,tX,sg⟩
      obtain⟨A8,c8,rfl⟩:=af sg
      have hx8:=(Ext.alloc (Ext.refl w7) (.cells #[.slice A3 n3 c3,.slice A6 nv c6] 24)).trans tX
      have sj:Strs (fun _=>True) w8 (.slice A8 (nd.length+(aj r).length) c8) (nd++aj r):=by
       rw[←jH]at sg
       exact(Strs.of_own sg).mono (fun _ _ _=>trivial)
      have tI:=zN (HM.out.ext hx8);have tO:=zN (tN.out.trans hx8)
      have sK:nd.length+(aj r).length=(nd++aj r).length:=jm.symm
      have su:nd.length+(aj r).length≤100:=by have h3:=sw.out.1;rw[jk]at h3;have:=sD.out;omega
      have tC:∀v∈nd++aj r,v.size≤maxLen:=fun v hv=>by
       rcases ju.1 hv with hv|hv
       ·exact ta.out v hv
       ·exact lq sR.out v hv
      rw[sK]at sj su ⊢
      have tL:Hid (∀j (hj:j<(nd++aj r).length),dK (de r.ats) (nd++aj r)[j]=false→aA (cn nd) rs=22):=zN (fun j hj h=>HS.out 22 (by decide) (qc HI.out (by rw[←sD.out];exact h8) hj h))
      have tG:Hid ((∀j (hj:j<(nd++aj r).length),dK (de r.ats) (nd++aj r)[j]=true)→cn nd r=0):=zN (fun h=>ruleE_fine HI.out (by rw[←sD.out];exact h8) h)
      obtain⟨L,hL⟩:=sd (nd++aj r)
      rw[←hL]at sj su tC
      rw[←hL]at tL tG ⊢
      obtain⟨nl,tw⟩:=sd L.length
      rw[←tw]at sj su ⊢
      have tJ:=zN tw;have uw:=zN tC;have uv:=zN sj
      clear sG sg tX hx8 sj sK tC hL tw
      go_wp2_with fail
      go_loopg [4,45] nl (fun n q p wr=>∃j:Nat,j+n=nl∧q=.int .i64 0∧p=.int .i64 (j:Int)∧Hid (∀x (hx:x<L.length),x<j→dK (de r.ats) L[x]=true)∧Ext w8 wr)
      case atStart=>exact⟨0,by omega,rfl,rfl,zN (fun x hx h=>by omega),Ext.refl _⟩
      case round =>
       obtain⟨j,uL,rfl,rfl,HJ,sX⟩:=hrel
       have sE:=zN sX
       by_cases hjl:j<nl
       ·have j1:(0:Int)≤(j:Int):=by omega
        have j2:(j:Int)<(nl:Int):=by omega
        have tt:j<L.length:=by have:=tJ.out;omega
        obtain⟨A9,c9,e9,-,tU⟩:=uv.out
        injection e9 with e9 e10 e11
        subst e9
        clear e10 e11
        obtain⟨uF,rfl,-,q0⟩:=tU.str tt
        replace q0:=sX.cell q0
        have tD:=uw.out _ (jf tt)
        have HU:=zN (tL.out j tt)
        have ue:dK (de r.ats) L[j]=true→∀x (hx:x<L.length),x<j+1→dK (de r.ats) L[x]=true:=fun h x hx sX=>by
         rcases jz x j with h1|h1
         ·exact HJ.out x hx h1
         ·have:x=j:=by omega
          subst this;exact h
        have tK:=zN ue
        have sp:=qQ (de r.ats) L[j]
        obtain⟨b,hb⟩:=sd (dK (de r.ats) L[j])
        rw[←hb]at HU tK sp
        obtain⟨x,hx⟩:=sd (L[j])
        rw[←hx]at q0 tD sp
        have sB:=zN sp
        clear hb hx tU sX ue sp
        rcases b with _|_
        ·have HQ:=zN (HU.out rfl)
         go_wp2_with (first|(refine ao rfl _ _ 121 4 rfl Tryz.underlying121 (.bool false) (bI _) bm mm _ rfl (tI.out.ext sE.out) x rfl tD (.bool false) sB.out ?_))
         go_ret
         exact Ret.mk (HX.out.trans (tO.out.trans sE.out)) (bJ HQ.out)
        ·have HG:=zN (tK.out rfl)
         go_wp2_with (first|(refine ao rfl _ _ 121 4 rfl Tryz.underlying121 (.bool false) (bI _) bm mm _ rfl (tI.out.ext sE.out) x rfl tD (.bool true) sB.out ?_))
         go_roundg (gk-1)
         case measure=>omega
         case rel=>exact⟨j+1,by omega,rfl,by go_num,HG,sE.out⟩
       ·obtain rfl:j=nl:=by omega
        have uI:¬(j:Int)<(j:Int):=by omega
        have HG:=zN (uo.out (tG.out (fun x hx=>HJ.out x hx (by have:=tJ.out;omega))))
        go_wp2_with fail
        go_roundg (N-1)
        case measure=>omega
        case rel=>exact⟨i+1,by omega,rfl,by go_num,HG,(tP.out.trans (tO.out.trans sE.out))⟩
     ·have k8:(8:Int)<(nv:Int):=by omega
      have HQ:=zN (HS.out 12 (by decide) (ruleE_many HI.out (by rw[←sD.out];exact h8)))
      clear h8
      go_wp2_with fail
      go_ret
      exact Ret.mk (HX.out.trans tg.out) (bJ HQ.out)
    ·have HQ:=zN (HS.out _ hit0 (rD hit0))
     obtain⟨ev,tY⟩:=sd (bQ r)
     rw[←tY]at hit0 HQ ⊢
     have uM:(ev != 0)=true:=by rw[bne_iff_ne];exact hit0
     clear tY hit0
     go_wp2_with fail
     go_ret
     exact Ret.mk (HX.out.trans sQ.out) (bJ HQ.out)
   ·obtain rfl:i=nb:=by omega
    have uH:¬(i:Int)<(i:Int):=by omega
    have HQ:=zN (ce (f:=cn nd) (l:=rs) (fun j hj=>H.out j (by have:=HN.out;omega) hj))
    go_wp2_with fail
    go_ret
    exact Ret.mk HX.out (bJ HQ.out)
