/- packed -/
import Derived.Test.YtplldnnnhgnbjaaGreatDoorMu06
namespace Go.Proofs.YtplldnnnhgnbjaaGreatDoor
open Go.RowKit Go.Maps
theorem items_ok{r:Rl}(h:itemsE r=0):r.ats≠[]∧r.ats.length≤8∧r.cds.length≤8∧(∀a∈r.ats,atomE a=0)∧∀c∈r.cds,condE c=0:=by
 unfold itemsE at h
 split at h
 ·cases h
 ·split at h
  ·rename_i h1 h2
   split at h
   ·rename_i h3
    exact⟨h1,h2.1,h2.2,firstE_zero.1 h3,firstE_zero.1 h⟩
   ·rename_i h3
    exact absurd h h3
  ·cases h
theorem atom_ok{a:At}(h:atomE a=0):nameB a.rel=true∧a.terms.length≤6∧∀t∈a.terms,termE t=0:=by
 unfold atomE at h
 split at h
 ·rename_i h1
  split at h
  ·rename_i h2
   exact⟨h1,h2,firstE_zero.1 h⟩
  ·cases h
 ·cases h
theorem allT_small{xs:List At}(h:∀a∈xs,a.terms.length≤6):(allT xs).length≤6*xs.length:=by
 unfold allT
 induction xs with
 | nil=>simp
 | cons a xs ih =>
  rw[jQ,jl,jD]
  have h1:=h a zI
  have h2:=ih (fun b hb=>h b (jr _ hb))
  omega
theorem items_bd{r:Rl}(h:itemsE r=0)(hz:RlZ r):RlB r∧(allT r.ats).length≤48:=by
 obtain⟨-,h1,h2,h3,-⟩:=items_ok h
 have h4:=allT_small (fun a ha=>(atom_ok (h3 a ha)).2.1)
 exact⟨⟨hz,by omega,by omega,by omega⟩,by omega⟩
theorem rlB_vars{r:Rl}(hz:RlZ r):∀v∈varsC r,v.size≤maxLen:=by
 rw[varsC_eq]
 intro v hv
 obtain⟨t,ht,rfl,-⟩:=varsT_iff.1 hv
 rcases jp.1 ht with ht|ht
 ·obtain⟨a,ha,hta⟩:=allT_iff.1 ht
  exact(hz.tms a ha t hta).1
 ·obtain⟨c,hc,rfl⟩:=jE.1 ht
  exact hz.var c hc
theorem hasF_get(l:List Tm)(s:ByteArray):(hasF l s).getD (.bool false)=.bool (hasV l s):=by
 unfold hasF
 by_cases h:hasV l s=true
 ·rw[if_pos h,h];rfl
 ·rw[if_neg h]
  rw[Bool.not_eq_true]at h
  rw[h];rfl
theorem ruleE_items{nd:List ByteArray}{r:Rl}(h:itemsE r≠0):ruleE nd r=itemsE r:=if_neg h
theorem ruleE_many{nd:List ByteArray}{r:Rl}(h:itemsE r=0)(h1:¬(varsC r).length≤8):ruleE nd r=12:=(if_pos h).trans (if_neg h1)
theorem ruleE_unsafe{nd:List ByteArray}{r:Rl}(h:itemsE r=0)(h1:(varsC r).length≤8){j:Nat}(hj:j<(nd++varsC r).length)(h2:hasV (posT r.ats) (nd++varsC r)[j]=false):ruleE nd r=22 :=
 (if_pos h).trans ((if_pos h1).trans (if_neg (fun h3=>by
  have h4:=jz.1 h3 _ (jg hj)
  have h5:hasV (posT r.ats) (nd++varsC r)[j]=true:=h4
  rw[h2]at h5
  cases h5)))
theorem ruleE_fine{nd:List ByteArray}{r:Rl}(h:itemsE r=0)(h1:(varsC r).length≤8)(h2:∀j (hj:j<(nd++varsC r).length),hasV (posT r.ats) (nd++varsC r)[j]=true):ruleE nd r=0 :=
 (if_pos h).trans ((if_pos h1).trans (if_pos (jz.2 (fun v hv=>by
  obtain⟨j,hj,rfl⟩:=jv hv
  exact h2 j hj))))
theorem Strs.ofn{w w':World}{base n:Nat}{e:TypeId}{A:Option Addr}{m c:Nat}{l:List ByteArray}(h:w.ownsRow base e 1 (.slice A m c) n (l.map Sv))(he:Ext w w'):Strs (fun _=>True) w' (.slice A m c) l:=((Strs.of_own h).mono (fun _ _ _=>trivial)).ext he
set_option maxRecDepth 20000 in
set_option maxHeartbeats 3200000 in
theorem checkRules_any{F G:Nat→Prop}{w:World}{A B O:Option Addr}{na ca nb cb no co:Nat}{ag:Int}{av:ByteArray}{hd:List ByteArray}{rs:List Rl}(hH:Strs F w (.slice A na ca) hd)(hR:Sl rdRl G w (.slice B nb cb) rs)(hz:∀r∈rs,RlZ r)(hhz:∀s∈hd,s.size≤maxLen)(haz:av.size≤maxLen)(hh6:na≤6)(hr3:nb≤3) :
  Calls Tryz.prog 138 #[.agg #[.slice A na ca,.int .i64 ag,.string av,.slice B nb cb,.slice O no co]] w (Ret (fun x _=>x=.int .i64 (firstE (ruleE (needV hd av)) rs)) w):=by
 obtain⟨A',c',e,hca,hcl⟩:=hH
 injection e with e1 e2 e3
 subst e1 e3
 have hnr:=hR.cap
 have HR:=zO hR;have HZ:=zO hz;have HHZ:=zO hhz;have HN:=zO hnr.1;have HNA:=zO e2;have HCL:=zO hcl
 clear hR hz hhz hnr e2 hcl
 obtain⟨nd,hnd⟩:∃nd,nd=needV hd av:=⟨_,rfl⟩
 rw[←hnd]
 have HND0:=zO hnd
 have hndz:∀v∈nd,v.size≤maxLen:=fun v hv=>by
  rw[hnd]at hv
  unfold needV at hv
  split at hv
  ·exact HHZ.out v hv
  ·rcases jp.1 hv with hv|hv
   ·exact HHZ.out v hv
   ·rw[jt.1 hv];exact haz
 have HNDZ:=zO hndz
 clear hnd hndz
 obtain⟨i0,hi0,hz0,hz1,hz2⟩:=info_parts info_string
 have HI0:=zO (And.intro hi0 (And.intro hz0 (And.intro hz1 hz2)));clear hi0 hz0 hz1 hz2
 have HCLONE:Hid (∀W,Ext w W→Calls Tryz.prog 107 #[.slice A na ca] W (Ret (fun x w'=>w'.ownsRow W.heap.size 9 1 x na (hd.map Sv)) W)):=zO (fun W hW=>clone_strs (HCL.out.ext hW) (by simp;have:=HNA.out;omega) (by simp[Value.oneCell']) (by omega))
 go_enter Tryz.func138,Tryz.ntmps138
 go_wp2_with fail
 have kb:=Bk.new w 28 [.slice A na ca,.int .i64 ag,.string av,.slice B nb cb,.slice O no co]
 change Bk (w.alloc (.cells #[.slice A na ca,.int .i64 ag,.string av,.slice B nb cb,.slice O no co] 28)) _ _ _ at kb
 have hx:Ext w (w.alloc (.cells #[.slice A na ca,.int .i64 ag,.string av,.slice B nb cb,.slice O no co] 28)):=(Ext.refl w).alloc _
 generalize (w.alloc (.cells #[.slice A na ca,.int .i64 ag,.string av,.slice B nb cb,.slice O no co] 28))=w1 at *
 have b0:=kb.cell (i:=0) (by simp)
 simp only[ja]at b0
 go_step3
 go_wp2_with fail
 refine(HCLONE.out _ hx).mono ?_
 rintro e w2 ⟨v2,rfl,he,hown⟩
 obtain⟨A2,c2,rfl⟩:=own_slice hown
 have hk2:=kb.ext he
 have b2:=hk2.cell (i:=2) (by simp);have b3:=hk2.cell (i:=3) (by simp)
 simp only[ja,je]at b2 b3
 have hw12:=he.size;have hw01:=hx.size
 have HX2:=zO (hx.trans he);have HX12:=zO he;have HOWN:=zO hown;have HK2:=zO hk2
 clear hown he hx kb hk2 b0
 by_cases hv:av=⟨#[]⟩
 case' pos =>
  have hve:=var_eq hv
  have hown:=HOWN.out
  rw[←show nd=hd by rw[HND0.out];exact if_pos hv]at hown
  have HO3:=zO hown;have HX3:=zO HX2.out
  have hn7:na≤7:=by omega
  clear hv hown
  obtain⟨w3,rfl⟩:∃w3,w3=w2:=⟨_,rfl⟩
  obtain⟨A3,rfl⟩:∃A3,A3=A2:=⟨_,rfl⟩
  obtain⟨c3,rfl⟩:∃c3,c3=c2:=⟨_,rfl⟩
  obtain⟨n3,hn3⟩:∃n3,n3=na:=⟨_,rfl⟩
  rw[←hn3]at HO3 hn7
  go_wp2_with fail
  rw[←hn3]
  clear hn3
 case' neg =>
  have hve:=var_ne hv
  have hs7:nd=hd++[av]:=by rw[HND0.out];exact if_neg hv
  have HS7:=zO hs7
  clear hv hs7
  have hap1:w1.heap.size≤(w2.alloc (.cells #[.string av] 9)).heap.size:=js hw12 ((Ext.refl w2).alloc _).size
  have hap2:na+1≤maxLen:=by simp only[maxLen];omega
  have hap3:(na+1)*16≤140737488355328:=by omega
  have hap4:∀(v3:Value) (w3:World),w3.ownsRow w1.heap.size 9 1 v3 (na+1) (hd.map Sv++[.string av])→(w2.alloc (.cells #[.string av] 9)).grownBy w3 (Value.slice A2 na c2).ownBlock→Hid (∃A3 c3,v3=.slice A3 (na+1) c3∧w3.ownsRow w1.heap.size 9 1 (.slice A3 (na+1) c3) (na+1) (nd.map Sv)∧Ext w w3∧w3.cell? ⟨w.heap.size,3,none⟩=some (.slice B nb cb)):=fun v3 w3 hr3 hg3=>zO (by
   obtain⟨A3,c3,rfl⟩:=own_slice hr3
   refine⟨A3,c3,rfl,?_,(HX2.out.alloc _).grown hg3 (fun q hq=>js hw01 (own_ge HOWN.out hq)),?_⟩
   ·rw[HS7.out,jI];exact hr3
   ·exact((HK2.out.alloc (.cells #[.string av] 9)).fr (grown_fr hg3) (fun e=>own_bk HOWN.out HK2.out (by decide) e rfl)).cell (i:=3) (by simp))
  have HAP:=zO hap4
  clear hap4
  go_wp2_with (first|(at_builtin;refine wpList_append_at rfl _ _ 24 rfl w1.heap.size 9 i0 (.string ⟨#[]⟩) 1 16 Tryz.underlying24 HI0.out.1 HI0.out.2.1 HI0.out.2.2.1 HI0.out.2.2.2 rfl (by omega) (.slice A2 na c2) na (hd.map Sv) rfl (HOWN.out.alloc _) ⟨w2.heap.size,0,none⟩ 1 1 [.string av] rfl rfl (laid_news w2 _ _) (by simp[Value.oneCell']) hap2 hap3 hap1 ?_;intro v3 w3 hr3 hg3 hl3;obtain⟨A3,c3,rfl,hO3,hX3,b3⟩:=(HAP.out _ _ hr3 hg3).out;have HO3:=zO hO3;have HX3:=zO hX3;clear hr3 hg3 hl3 hO3 hX3))
  have hn7:na+1≤7:=by omega
  obtain⟨n3,hn3⟩:∃n3,n3=na+1:=⟨_,rfl⟩
  rw[←hn3]at HO3 hn7 ⊢
  clear hn3
 all_goals
  go_step3
  go_wp2_with fail
  have HB:=zO b2
  clear b2 b3 HK2 HOWN HX2 HX12 hw12 hw01 HCLONE
  go_loopg [4,25] nb (fun n q p wr=>∃i:Nat,i+n=nb∧q=.int .i64 0∧p=.int .i64 (i:Int)∧Hid (∀j (_:j<i) (_:j<rs.length),ruleE nd rs[j]=0)∧Ext w3 wr)
  case atStart=>exact⟨0,by omega,rfl,rfl,zO (fun j hj=>by omega),Ext.refl _⟩
  case round =>
   obtain⟨i,hin,rfl,rfl,H,hxr⟩:=hrel
   obtain⟨N,rfl⟩:∃N,N=gk:=⟨_,rfl⟩
   obtain⟨W,rfl⟩:∃W:World,W=wr:=⟨_,rfl⟩
   have HX:=zO (HX3.out.trans hxr);have HXR:=zO hxr
   have hi:i≤nb:=by omega
   by_cases hlt:i<nb
   ·have i1:(0:Int)≤(i:Int):=by omega
    have i2:(i:Int)<(nb:Int):=by omega
    have hit:i<rs.length:=by have:=HN.out;omega
    obtain⟨ad,B1,d1,C1,e1,rfl,-,f0,f1,hA1,hC1⟩:=HR.out.rl hit
    replace f0:=HX.out.cell f0;replace f1:=HX.out.cell f1
    have hz1:=HZ.out _ (jg hit)
    have hgo:=take_ok (f:=ruleE nd) hit H.out
    have hst:=firstE_at (f:=ruleE nd) hit H.out
    obtain⟨r,hr⟩:∃r,r=rs[i]:=⟨_,rfl⟩
    rw[←hr]at f0 f1 hA1 hC1 hz1 hgo hst
    obtain⟨n1,hn1⟩:∃n1,n1=r.ats.length:=⟨_,rfl⟩
    obtain⟨m1,hm1⟩:∃m1,m1=r.cds.length:=⟨_,rfl⟩
    rw[←hn1]at f0 hA1
    rw[←hm1]at f1 hC1
    have HA1:=zO (hA1.ext HX.out);have HC1:=zO (hC1.ext HX.out);have HZ1:=zO hz1;have HGO:=zO hgo
    have HS:Hid (∀m:Int,m≠0→ruleE nd r=m→firstE (ruleE nd) rs=m):=zO (fun m hm h=>by rw[hst (by rw[h];exact hm),h])
    clear hr hn1 hm1 hA1 hC1 hz1 hgo hst hxr
    go_wp2_with fail
    have hx4:Ext W (W.alloc (.cells #[.slice B1 n1 d1,.slice C1 m1 e1] 46)):=(Ext.refl W).alloc _
    have k4:=Bk.new W 46 [.slice B1 n1 d1,.slice C1 m1 e1]
    change Bk (W.alloc (.cells #[.slice B1 n1 d1,.slice C1 m1 e1] 46)) _ _ _ at k4
    generalize (W.alloc (.cells #[.slice B1 n1 d1,.slice C1 m1 e1] 46))=w4 at *
    refine(checkItems_any (HA1.out.ext hx4) (HC1.out.ext hx4) HZ1.out).mono ?_
    rintro e w5 ⟨y,rfl,he5,rfl⟩
    have hx5:=hx4.trans he5
    have g0:=(k4.ext he5).cell (i:=0) (by simp);have g1:=(k4.ext he5).cell (i:=1) (by simp)
    simp only[ja,je]at g0 g1
    have HX5:=zO hx5;have HK5:=zO (k4.ext he5)
    clear hx4 k4 he5 hx5 f0 f1
    by_cases hit0:itemsE r=0
    ·have HI:=zO hit0
     obtain⟨hbd,hal⟩:=items_bd hit0 HZ1.out
     have hbd2:=(items_ok hit0).2
     have HBD:=zO hbd
     have HAL:Hid (r.ats.length≤8∧r.cds.length≤8∧(allT r.ats).length≤48):=zO ⟨hbd2.1,hbd2.2.1,hal⟩
     rw[hit0]
     clear hit0 hbd hal hbd2
     go_wp2_with fail
     refine(vars_any (HA1.out.ext HX5.out) (HC1.out.ext HX5.out) HBD.out).mono ?_
     rintro e w6 ⟨y,rfl,he6,hrow⟩
     obtain⟨A6,c6,rfl⟩:=own_slice hrow
     replace g0:=he6.cell g0;replace g1:=he6.cell g1
     obtain⟨nv,hnv⟩:∃nv,nv=(varsC r).length:=⟨_,rfl⟩
     rw[←hnv]at hrow ⊢
     have HNV:=zO hnv;have HROW:=zO hrow;have HX6:=zO (HX5.out.trans he6);have HE6:=zO he6
     clear hnv hrow he6
     by_cases h8:nv≤8
     ·have k8:¬(8:Int)<(nv:Int):=by omega
      go_wp2_with fail
      have hpos:=positive_any (nc:=m1) (cc:=e1) (C:=C1) (HA1.out.ext HX6.out) HZ1.out.tms (by have:=HAL.out;omega) (by have:=HAL.out;omega)
      have HPOS:=zO hpos
      clear hpos
      refine HPOS.out.mono ?_
      rintro e w7 ⟨bm,mm,rfl,he7,hbm,hmm,hM⟩
      have HM:=zO hM;have HX7:=zO (HX6.out.trans he7);have HE7:=zO he7
      clear hM he7 hmm hbm g0 g1
      go_wp2_with fail
      have hcat:=concat2 (w:=w7.alloc (.cells #[.slice A3 n3 c3,.slice A6 nv c6] 24)) (g:=w7.heap.size) (Bk.new w7 24 [.slice A3 n3 c3,.slice A6 nv c6]) (Strs.ofn HO3.out ((HXR.out.trans HX7.out).alloc _)) (Strs.ofn HROW.out (HE7.out.alloc _)) (by have h3:=HO3.out.1;rw[jm]at h3;have:=HNV.out;omega)
      refine hcat.mono ?_
      rintro e w8 ⟨y,rfl,he8,hrow8⟩
      obtain⟨A8,c8,rfl⟩:=own_slice hrow8
      have hx8:=(Ext.alloc (Ext.refl w7) (.cells #[.slice A3 n3 c3,.slice A6 nv c6] 24)).trans he8
      have hst8:Strs (fun _=>True) w8 (.slice A8 (nd.length+(varsC r).length) c8) (nd++varsC r):=by
       rw[←jI]at hrow8
       exact(Strs.of_own hrow8).mono (fun _ _ _=>trivial)
      have HM8:=zO (HM.out.ext hx8);have HX8:=zO (HX7.out.trans hx8)
      have hln8:nd.length+(varsC r).length=(nd++varsC r).length:=jl.symm
      have hnn8:nd.length+(varsC r).length≤100:=by have h3:=HO3.out.1;rw[jm]at h3;have:=HNV.out;omega
      have hz8:∀v∈nd++varsC r,v.size≤maxLen:=fun v hv=>by
       rcases jp.1 hv with hv|hv
       ·exact HNDZ.out v hv
       ·exact rlB_vars HZ1.out v hv
      rw[hln8]at hst8 hnn8 ⊢
      have HUN:Hid (∀j (hj:j<(nd++varsC r).length),hasV (posT r.ats) (nd++varsC r)[j]=false→firstE (ruleE nd) rs=22):=zO (fun j hj h=>HS.out 22 (by decide) (ruleE_unsafe HI.out (by rw[←HNV.out];exact h8) hj h))
      have HFI:Hid ((∀j (hj:j<(nd++varsC r).length),hasV (posT r.ats) (nd++varsC r)[j]=true)→ruleE nd r=0):=zO (fun h=>ruleE_fine HI.out (by rw[←HNV.out];exact h8) h)
      obtain⟨L,hL⟩:∃L,L=nd++varsC r:=⟨_,rfl⟩
      rw[←hL]at hst8 hnn8 hz8
      rw[←hL]at HUN HFI ⊢
      obtain⟨nl,hnl⟩:∃nl,nl=L.length:=⟨_,rfl⟩
      rw[←hnl]at hst8 hnn8 ⊢
      have HNL:=zO hnl;have HZ8:=zO hz8;have HS8:=zO hst8
      clear hcat hrow8 he8 hx8 hst8 hln8 hz8 hL hnl
      go_wp2_with fail
      go_loopg [4,45] nl (fun n q p wr=>∃j:Nat,j+n=nl∧q=.int .i64 0∧p=.int .i64 (j:Int)∧Hid (∀x (hx:x<L.length),x<j→hasV (posT r.ats) L[x]=true)∧Ext w8 wr)
      case atStart=>exact⟨0,by omega,rfl,rfl,zO (fun x hx h=>by omega),Ext.refl _⟩
      case round =>
       obtain⟨j,hjn,rfl,rfl,HJ,hxj⟩:=hrel
       have HXJ:=zO hxj
       by_cases hjl:j<nl
       ·have j1:(0:Int)≤(j:Int):=by omega
        have j2:(j:Int)<(nl:Int):=by omega
        have hjL:j<L.length:=by have:=HNL.out;omega
        obtain⟨A9,c9,e9,-,hc9⟩:=HS8.out
        injection e9 with e9 e10 e11
        subst e9
        clear e10 e11
        obtain⟨ad9,rfl,-,q0⟩:=hc9.str hjL
        replace q0:=hxj.cell q0
        have hzj:=HZ8.out _ (jg hjL)
        have HU:=zO (HUN.out j hjL)
        have hnx:hasV (posT r.ats) L[j]=true→∀x (hx:x<L.length),x<j+1→hasV (posT r.ats) L[x]=true:=fun h x hx hxj=>by
         rcases jB x j with h1|h1
         ·exact HJ.out x hx h1
         ·have:x=j:=by omega
          subst this;exact h
        have HNX:=zO hnx
        have hget:=hasF_get (posT r.ats) L[j]
        obtain⟨b,hb⟩:∃b,b=hasV (posT r.ats) L[j]:=⟨_,rfl⟩
        rw[←hb]at HU HNX hget
        obtain⟨x,hx⟩:∃x,x=L[j]:=⟨_,rfl⟩
        rw[←hx]at q0 hzj hget
        have HGET:=zO hget
        clear hb hx hc9 hxj hnx hget
        rcases b with _|_
        ·have HQ:=zO (HU.out rfl)
         go_wp2_with (first|(refine wpList_lookup_V rfl _ _ 121 4 rfl Tryz.underlying121 (.bool false) (zero_bool _) bm mm _ rfl (HM8.out.ext HXJ.out) x rfl hzj (.bool false) HGET.out ?_))
         go_ret
         exact Ret.mk (HX.out.trans (HX8.out.trans HXJ.out)) (ret_i HQ.out)
        ·have HG:=zO (HNX.out rfl)
         go_wp2_with (first|(refine wpList_lookup_V rfl _ _ 121 4 rfl Tryz.underlying121 (.bool false) (zero_bool _) bm mm _ rfl (HM8.out.ext HXJ.out) x rfl hzj (.bool true) HGET.out ?_))
         go_roundg (gk-1)
         case measure=>omega
         case rel=>exact⟨j+1,by omega,rfl,by go_num,HG,HXJ.out⟩
       ·obtain rfl:j=nl:=by omega
        have hdj:¬(j:Int)<(j:Int):=by omega
        have HG:=zO (HGO.out (HFI.out (fun x hx=>HJ.out x hx (by have:=HNL.out;omega))))
        go_wp2_with fail
        go_roundg (N-1)
        case measure=>omega
        case rel=>exact⟨i+1,by omega,rfl,by go_num,HG,(HXR.out.trans (HX8.out.trans HXJ.out))⟩
     ·have k8:(8:Int)<(nv:Int):=by omega
      have HQ:=zO (HS.out 12 (by decide) (ruleE_many HI.out (by rw[←HNV.out];exact h8)))
      clear h8
      go_wp2_with fail
      go_ret
      exact Ret.mk (HX.out.trans HX6.out) (ret_i HQ.out)
    ·have HQ:=zO (HS.out _ hit0 (ruleE_items hit0))
     obtain⟨ev,hev⟩:∃ev,ev=itemsE r:=⟨_,rfl⟩
     rw[←hev]at hit0 HQ ⊢
     have hne:(ev != 0)=true:=by rw[bne_iff_ne];exact hit0
     clear hev hit0
     go_wp2_with fail
     go_ret
     exact Ret.mk (HX.out.trans HX5.out) (ret_i HQ.out)
   ·obtain rfl:i=nb:=by omega
    have hdi:¬(i:Int)<(i:Int):=by omega
    have HQ:=zO (firstE_all (f:=ruleE nd) (l:=rs) (fun j hj=>H.out j (by have:=HN.out;omega) hj))
    go_wp2_with fail
    go_ret
    exact Ret.mk HX.out (ret_i HQ.out)
