/- packed -/
import Derived.Test.YtplldnnnhgnbjaaGreatDoorMv43
namespace Go.Proofs.YtplldnnnhgnbjaaGreatDoor
open Go.RowKit Go.Maps
def oI(ss:List Sc):Prop:=(∀x∈ss,pE x)∧(ss.map Sc.name).Nodup
theorem dup_bad{ss:List Sc}{i:Nat}(hi:i<ss.length)(h:cm (ss.take i) ss[i].name≠none):¬oI ss:=fun sg=>by
 rcases hf:cm (ss.take i) ss[i].name with _|y
 ·exact h hf
 ·obtain⟨hm,hn⟩:=lK hf
  obtain⟨j,hj,e⟩:=zA.1 hm
  have se:j<i:=by omega
  have h1:=zk.1 sg.2 j i (by rw[jk];omega) (by rw[jk];exact hi) se
  rw[jy,jy]at h1
  exact h1 (by rw[e,hn])
theorem dm_some{ss:List Sc}{s:ByteArray}{e:En}(h:dmL ss s=some e):cm ss s≠none:=fun h0=>by
 unfold dmL at h
 rw[h0]at h
 cases h
def NewPost2(ss:List Sc)(w:World)(e:Ending)(w':World):Prop :=
 Ext w w'∧∃(mb:Option Nat) (c:Int),e=.returned (.tuple #[.agg #[.map mb],.int .i64 c])∧((c≠0∧¬oI ss)∨c=0∧∃b n,mb=some b∧w.heap.size≤b∧n≤ss.length∧DbB (fun k=>w.heap.size<k∧k≠b) w' b n (dmL ss)∧∀x∈ss,pE x)
set_option maxRecDepth 20000 in
set_option maxHeartbeats 6400000 in
theorem new_any2{F:Nat→Prop}{w:World}{S:Option Addr}{n c:Nat}{ss:List Sc}(hS:Sl el F w (.slice S n c) ss)(hn:n≤16)(hz:∀x∈ss,x.name.size≤maxLen)(hk:∀x∈ss,x.kinds.length≤maxLen) :
  Calls Tryz.prog 32 #[.slice S n c] w (NewPost2 ss w):=by
 have tL:=hS.cap.1
 have HS:=zN hS;have ta:=zN tL;have HZ:=zN hz;have HK:=zN hk
 have uo:=lZ
 have gn:¬(16:Int)<(n:Int):=by omega
 clear hS tL hz hk
 go_enter Tryz.func32,Tryz.ntmps32
 go_upto_region 3 with fail
 have kd:=Bk.new w 33 [.map none]
 change Bk (w.alloc (.cells #[.map none] 33)) _ _ _ at kd
 have hx1:Ext w (w.alloc (.cells #[.map none] 33)):=(Ext.refl w).alloc _
 generalize (w.alloc (.cells #[.map none] 33))=w1 at *
 have uk:w.heap.size<w1.heap.size:=kd.lt
 have tT:=zN kd;have ub:=zN hx1
 clear kd hx1
 go_upto_region 4 with fail
 have hx2:Ext w1 (w1.alloc (.map #[] 0)):=(Ext.refl w1).alloc _
 have sM:=DbB.made (fun k=>w.heap.size<k∧k≠w1.heap.size) w1
 generalize (w1.alloc (.map #[] 0))=w2 at *
 obtain⟨mb,tI⟩:=sd w1.heap.size
 rw[←tI]at sM ⊢
 have um:w.heap.size<mb:=by omega
 have tP:=zN sM;have uc:=zN (ub.out.trans hx2);have sW:=zN (tT.out.ext hx2)
 have un:mb<w2.heap.size:=sM.lt
 clear sM hx2 uo tI
 go_wp2_with fail
 go_loopw [21] (fun t wr=>∃i:Nat,i≤n∧t=.int .i64 (i:Int)∧DbB (fun k=>w.heap.size<k∧k≠mb) wr mb i (dmL (ss.take i))∧Hid (∀x∈ss.take i,pE x)∧Fr (fun b=>b=mb) w2 wr) (fun t _=>n-(intOf t).toNat)
 case atStart=>exact⟨0,jn _,rfl,tP.out,zN (fun x hx=>by simp at hx),Fr.refl _ _⟩
 case round =>
  obtain⟨i,hi,rfl,hD,tc,sE⟩:=hrel
  obtain⟨W,rfl⟩:∃W:World,W=wr:=⟨_,rfl⟩
  have hx:Ext w W:=sE.new uc.out (fun b hb=>by omega)
  have HX:=zN hx;have tS:=zN sE;have HD:=zN hD
  have sy:=zN (sW.out.fr sE (by omega))
  have uB:mb<W.heap.size:=hD.lt
  by_cases hlt:i<n
  ·have i1:(0:Int)≤(i:Int):=by omega
   have i2:(i:Int)<(n:Int):=by omega
   have sO:i<ss.length:=by have:=ta.out;omega
   obtain⟨ad,B,d,rfl,-,d0,d1,hk⟩:=HS.out.sc sO
   replace d0:=hx.cell d0;replace d1:=hx.cell d1
   have sj:=jf sO
   have su:=HZ.out _ sj;have sF:=HK.out _ sj
   have tw:=jj sO
   have sq:=fun h=>dup_bad sO h
   have sp:=fun (h:¬pE ss[i]) (uq:oI ss)=>h (uq.1 _ sj)
   obtain⟨x,hx0⟩:=sd (ss[i])
   rw[←hx0]at d0 d1 hk su sF tw sq sp
   obtain⟨xn,xk⟩:=x
   simp only at d0 d1 hk su sF
   have si:=zN sp;have sU:=zN sq
   clear sp sq
   obtain⟨nk,tu⟩:=sd xk.length
   rw[←tu]at d1 hk sF
   have tA:=zN hk;have sx:=zN tu;have tB:=zN tw
   have uA:nk≤9223372036854775807:=by simpa [maxLen] using sF
   clear hx0 hk tw tu sj sF hx sE hD
   go_upto_region 8 with fail
   have kx:=Bk.new W 92 [.string xn,.slice B nk d]
   change Bk (W.alloc (.cells #[.string xn,.slice B nk d] 92)) _ _ _ at kx
   have sP:Ext W (W.alloc (.cells #[.string xn,.slice B nk d] 92)):=(Ext.refl W).alloc _
   generalize (W.alloc (.cells #[.string xn,.slice B nk d] 92))=W1 at *
   have uv:W.heap.size<W1.heap.size:=kx.lt
   have tU:=zN kx;have tD:=zN (HX.out.trans sP);have tE:=zN sP
   obtain⟨f,hM,hF⟩:=HD.out
   have HM:=zN (hM.ext sP);have tR:=zN hF
   have x0:=kx.c0
   clear kx sP hM d0 d1
   rcases hF xn with ⟨tM,tj⟩|⟨e9,u9,sH,tn,ut⟩
   ·have sJ:Hid ((f xn).getD (.agg #[.slice none 0 0,.int .i64 0,.slice none 0 0])=.agg #[.slice none 0 0,.int .i64 0,.slice none 0 0]):=zN (by rw[tj];rfl)
    have te:Hid ((f xn).isSome=false):=zN (by rw[tj];rfl)
    have ua:=zN tM
    clear hF tM tj
    go_upto_region 9 with (first
     | (refine az rfl _ _ 31 181 rfl Tryz.underlying31 (.agg #[.slice none 0 0,.int .i64 0,.slice none 0 0]) (bP _) mb i f rfl HM.out xn rfl su _ sJ.out false te.out ?_))
    have sh:Ext W1 (W1.alloc (.cells #[.slice none 0 0,.int .i64 0,.slice none 0 0] 181)):=(Ext.refl W1).alloc _
    generalize (W1.alloc (.cells #[.slice none 0 0,.int .i64 0,.slice none 0 0] 181))=W2 at *
    have sK:=zN (tD.out.trans sh);have sB:=zN (tE.out.trans sh);have sY:=zN (tU.out.ext sh);have sg:=zN (sy.out.ext sB.out);have tW:=zN (HM.out.ext sh)
    have uw:W1.heap.size≤W2.heap.size:=sh.size
    replace x0:=sh.cell x0
    have x1:=sY.out.c1
    have b0:=sg.out.c0;have th:=sg.out.free 0
    have kz:Bk (W2.setCell ⟨w.heap.size,0,none⟩ (.map none)) w.heap.size 33 [.map none]:=sg.out.set 0 _
    have se:Ext w (W2.setCell ⟨w.heap.size,0,none⟩ (.map none)):=sK.out.setCell (p:=⟨w.heap.size,0,none⟩) (jo _) _
    have z0:=kz.c0
    have sw:=zN (And.intro z0 se)
    clear sh kz se z0
    go_wp2_with fail
    refine(ki xn _ su).mono ?_
    rintro e w3 ⟨rfl,rfl⟩
    rcases hcat:iL xn with _|_
    ·have sR:=zN hcat
     clear hcat
     go_wp2_with fail
     obtain⟨z0,se⟩:=sw.out
     generalize (W2.setCell ⟨w.heap.size,0,none⟩ (.map none))=wz at *
     exact bodyPost_ret (v:=.tuple #[.agg #[.map none],.int .i64 7]) (by simp[results,Tryz.results32,go_sem,z0]) rfl ⟨se,_,_,rfl,.inl ⟨by decide,si.out (fun h=>by have h1:=h.1;rw[sR.out]at h1;cases h1)⟩⟩
    have sQ:=zN hcat
    clear hcat
    by_cases h6:¬nk≤6
    ·have g6:(6:Int)<(nk:Int):=by omega
     have tZ:=zN h6
     clear h6
     go_wp2_with fail
     obtain⟨z0,se⟩:=sw.out
     generalize (W2.setCell ⟨w.heap.size,0,none⟩ (.map none))=wz at *
     exact bodyPost_ret (v:=.tuple #[.agg #[.map none],.int .i64 6]) (by simp[results,Tryz.results32,go_sem,z0]) rfl ⟨se,_,_,rfl,.inl ⟨by decide,si.out (fun h=>tZ.out (by rw[sx.out];exact h.2.1))⟩⟩
    have ui:nk≤6:=by omega
    have g6:¬(6:Int)<(nk:Int):=by omega
    clear h6
    go_wp2_with fail
    go_loopw [53] (fun t wr=>∃j:Nat,j≤nk∧t=.int .i64 (j:Int)∧Hid (∀k∈xk.take j,k=1∨k=2)∧W2=wr) (fun t _=>nk-(intOf t).toNat)
    case atStart=>exact⟨0,jn _,rfl,zN (fun k hk=>by simp at hk),rfl⟩
    case round =>
     obtain⟨j,hj,rfl,sX,rfl⟩:=hrel
     by_cases hjl:j<nk
     ·have j1:(0:Int)≤(j:Int):=by omega
      have j2:(j:Int)<(nk:Int):=by omega
      have tq:j<xk.length:=by have:=sx.out;omega
      have sA:Hid (∀z,z=xk[j]→z≠1→z≠2→¬pE ⟨xn,xk⟩):=zN (fun z hz h1 h2 h=>(h.2.2 _ (jf tq)).elim (fun e=>h1 (hz.trans e)) (fun e=>h2 (hz.trans e)))
      obtain⟨sC,rfl,uh⟩:∃sC,B=some sC∧W2.cell? (sC.add j)=some (.int .i64 xk[j]):=by
       obtain⟨B',d',e,-,sL⟩:=tA.out
       injection e with e1
       subst e1
       obtain⟨sC,rfl,-,h1⟩:=sL.int tq
       exact⟨sC,rfl,sK.out.cell h1⟩
      have tp:=scok_kinds tq sX.out
      obtain⟨kk,tt⟩:=sd (xk[j])
      have sZ:=zN (sA.out kk tt)
      rw[←tt]at uh tp
      have tz:=zN tp
      clear tt tp
      by_cases h1:kk=1
      ·have HG:=zN (tz.out (.inl h1))
       have e1:(kk != 1)=false:=by rw[h1];rfl
       clear h1
       go_wp2_with fail
       go_roundw
       case rel=>exact⟨j+1,by omega,by go_num,HG,trivial⟩
       case measure=>simp[intOf];omega
      by_cases h2:kk=2
      ·have HG:=zN (tz.out (.inr h2))
       have e1:(kk != 1)=true:=by rw[h2];rfl
       have e2:(kk != 2)=false:=by rw[h2];rfl
       clear h1 h2
       go_wp2_with fail
       go_roundw
       case rel=>exact⟨j+1,by omega,by go_num,HG,trivial⟩
       case measure=>simp[intOf];omega
      have e1:(kk != 1)=true:=by rw[bne_iff_ne];exact h1
      have e2:(kk != 2)=true:=by rw[bne_iff_ne];exact h2
      have sV:Hid (¬pE ⟨xn,xk⟩):=zN (sZ.out h1 h2)
      clear h1 h2
      go_wp2_with fail
      obtain⟨z0,se⟩:=sw.out
      generalize (W2.setCell ⟨w.heap.size,0,none⟩ (.map none))=wz at *
      exact bodyPost_ret (v:=.tuple #[.agg #[.map none],.int .i64 2]) (by simp[results,Tryz.results32,go_sem,z0]) rfl ⟨se,_,_,rfl,.inl ⟨by decide,si.out sV.out⟩⟩
     ·obtain rfl:j=nk:=by omega
      have uy:¬(j:Int)<(j:Int):=by omega
      have et:xk.take j=xk:=jp (by have:=sx.out;omega)
      rw[et]at sX
      clear et
      go_wp2_with fail
      refine(relnew_ok (a:=(j:Int)) (by omega) (by omega)).mono ?_
      rintro e w4 ⟨sD,rfl⟩
      replace x0:=sD.cell x0;replace x1:=sD.cell x1
      have tX:=zN (tW.out.ext sD);have tC:=zN (sB.out.trans sD)
      clear sD b0 th
      go_upto_region 22 with fail
      have kr:=Bk.new w4 179 [.int .i64 (j:Int),.slice none 0 0]
      change Bk (w4.alloc (.cells #[.int .i64 (j:Int),.slice none 0 0] 179)) _ _ _ at kr
      have hx5:Ext w4 (w4.alloc (.cells #[.int .i64 (j:Int),.slice none 0 0] 179)):=(Ext.refl w4).alloc _
      generalize (w4.alloc (.cells #[.int .i64 (j:Int),.slice none 0 0] 179))=w5 at *
      replace x0:=hx5.cell x0;replace x1:=hx5.cell x1
      have r0:=kr.c0;have r1:=kr.c1
      have tY:=zN (tX.out.ext hx5);have tg:=zN (tC.out.trans hx5)
      have uC:W.heap.size≤w5.heap.size:=tg.out.size
      obtain⟨B',d',e',-,sL⟩:=tA.out
      injection e' with e1 e2 e3
      subst e1
      have sS:=zN sL
      have sT:=zN (fun (V:World) (hV:Ext w5 V)=>kg (w:=V) (n:=j) (c:=d) (sS.out.ext (HX.out.trans (tg.out.trans hV))) (by rw[jk];have:=sx.out;omega) (by simp[Value.oneCell']) (by omega))
      clear e2 e3 sL
      clear kr hx5
      have tJ:W.heap.size≠mb:=by omega
      have tK:w4.heap.size≠mb:=by have:=tC.out.size;omega
      go_region_held3 (fun V=>Fr (fun k=>k=mb) w5 V∧V.cell? ⟨W.heap.size,0,none⟩=some (.string xn)∧V.cell? ⟨W.heap.size,1,none⟩=some (.slice B j d)∧V.cell? ⟨w4.heap.size,0,none⟩=some (.int .i64 (j:Int))∧V.cell? ⟨w4.heap.size,1,none⟩=some (.slice none 0 0))
       ((refine(fun he=>⟨he,Fr.cell he x0 tJ,Fr.cell he x1 tJ,Fr.cell he r0 tK,Fr.cell he r1 tK⟩) ?_;repeat (first|exact Fr.refl _ _|assumption|refine Fr.drew ?_|refine Fr.ext ?_ (by assumption))))
       (first
        | (go_at_call 85;(with_reducible refine(sT.out _ (by repeat (first|exact Ext.refl _|refine Ext.drew ?_|refine Ext.drewN ?_ _))).mono ?_);rintro e wi ⟨yv,rfl,tG,sr⟩;obtain⟨A9,c9,rfl⟩:=af sr;have td:=zN sr;have sN:Ext w5 wi:=Ext.trans (by repeat (first|exact Ext.refl _|refine Ext.drew ?_|refine Ext.drewN ?_ _)) tG;obtain⟨w9,sG,sI⟩:=upd_run (tY.out.ext sN) (by simp only[maxLen];omega) (s:=xn) su (.agg #[.slice A9 j c9,.int .i64 (j:Int),.slice none 0 0]);have ug:Fr (fun k=>k=mb) w5 w9:=(sN.fr _).grown sI.out.2 (fun k hk=>.inl (by injection hk with hk;exact hk.symm));have tQ:=zN sN;clear sr sN))
      have tf:Hid (DbB (fun k=>w.heap.size<k∧k≠mb) w9 mb (i+1) (dmL (ss.take (i+1)))∧Fr (fun b=>b=mb) w2 w9∧∀x∈ss.take (i+1),pE x):=zN (by
       have tO:Ext W wi:=tg.out.trans tQ.out
       refine⟨?_,tS.out.trans ((Fr.ext (Fr.refl _ _) tO).grown sI.out.2 (fun k hk=>.inl (by injection hk with hk;exact hk.symm))),?_⟩
       ·have ue:=DbB.put (m:=dmL (ss.take i)) (e:=⟨xk,⟨(xk.length:Int),[]⟩⟩) (F:=fun k=>w.heap.size<k∧k≠mb) (fun s=>by
         rcases tR.out s with h|⟨e',u',h3,h4,h5⟩
         ·exact .inl h
         ·exact .inr ⟨e',u',h3,h4,h5.ext tO⟩) sI.out.1 sI.out.2 (fun k hk=>hk.2) ⟨.slice A9 j c9,.slice none 0 0,by rw[sx.out],(Ins.of_own td.out).mono (fun k _ hk=>by
          have h1:w5.heap.size≤k:=hk.2
          have h2:=HX.out.size
          exact⟨by omega,by omega⟩),(fun n c e=>by injection e with _ _ h;exact h.symm),Sl.nil _ _ _⟩
        rw[tB.out,dmL_app (dmL_none ua.out)]
        exact ue
       ·intro x hx
        rw[tB.out]at hx
        rcases ju.1 hx with hx|hx
        ·exact tc.out x hx
        ·rw[jq.1 hx]
         exact⟨sQ.out,by rw[←sx.out];exact ui,sX.out⟩)
      clear tG sG ug x0 x1 r0 r1
      go_wp2_with fail
      go_roundw
      case rel=>exact⟨i+1,by omega,by go_num,tf.out.1,zN tf.out.2.2,tf.out.2.1⟩
      case measure=>simp[intOf];omega
   ·obtain⟨ku,ru,rfl,tH,-,tN⟩:=ut
    obtain⟨Ka,kc,rfl⟩:∃A c,ku=.slice A e9.kinds.length c:=let ⟨A,c,e,_⟩:=tH;⟨A,c,e⟩
    obtain⟨Ra,rc,rfl⟩:=tN.sl
    generalize e9.kinds.length=kn at *
    generalize e9.rel.rows.length=rn at *
    have sJ:Hid ((f xn).getD (.agg #[.slice none 0 0,.int .i64 0,.slice none 0 0])=.agg #[.slice Ka kn kc,.int .i64 e9.rel.ar,.slice Ra rn rc]):=zN (by rw[tn];rfl)
    have te:Hid ((f xn).isSome=true):=zN (by rw[tn];rfl)
    obtain⟨ea,tF⟩:=sd e9.rel.ar
    rw[←tF]at sJ
    have ud:=zN sH
    clear hF sH tn tF tH tN
    go_upto_region 9 with (first
     | (refine az rfl _ _ 31 181 rfl Tryz.underlying31 (.agg #[.slice none 0 0,.int .i64 0,.slice none 0 0]) (bP _) mb i f rfl HM.out xn rfl su _ sJ.out true te.out ?_))
    have sh:Ext W1 (W1.alloc (.cells #[.slice Ka kn kc,.int .i64 ea,.slice Ra rn rc] 181)):=(Ext.refl W1).alloc _
    generalize (W1.alloc (.cells #[.slice Ka kn kc,.int .i64 ea,.slice Ra rn rc] 181))=W2 at *
    have sK:=zN (tD.out.trans sh);have sg:=zN (sy.out.ext (tE.out.trans sh))
    replace x0:=sh.cell x0
    have b0:=sg.out.c0;have th:=sg.out.free 0
    have kz:Bk (W2.setCell ⟨w.heap.size,0,none⟩ (.map none)) w.heap.size 33 [.map none]:=sg.out.set 0 _
    have se:Ext w (W2.setCell ⟨w.heap.size,0,none⟩ (.map none)):=sK.out.setCell (p:=⟨w.heap.size,0,none⟩) (jo _) _
    have z0:=kz.c0
    have sw:=zN (And.intro z0 se)
    clear sh kz se z0
    go_wp2_with fail
    refine(ki xn _ su).mono ?_
    rintro e w3 ⟨rfl,rfl⟩
    rcases hcat:iL xn with _|_
    ·have sR:=zN hcat
     clear hcat
     go_wp2_with fail
     obtain⟨z0,se⟩:=sw.out
     generalize (W2.setCell ⟨w.heap.size,0,none⟩ (.map none))=wz at *
     exact bodyPost_ret (v:=.tuple #[.agg #[.map none],.int .i64 7]) (by simp[results,Tryz.results32,go_sem,z0]) rfl ⟨se,_,_,rfl,.inl ⟨by decide,si.out (fun h=>by have h1:=h.1;rw[sR.out]at h1;cases h1)⟩⟩
    ·clear hcat
     go_wp2_with fail
     obtain⟨z0,se⟩:=sw.out
     generalize (W2.setCell ⟨w.heap.size,0,none⟩ (.map none))=wz at *
     exact bodyPost_ret (v:=.tuple #[.agg #[.map none],.int .i64 8]) (by simp[results,Tryz.results32,go_sem,z0]) rfl ⟨se,_,_,rfl,.inl ⟨by decide,sU.out (dm_some ud.out)⟩⟩
  ·obtain rfl:i=n:=by omega
   have ux:¬(i:Int)<(i:Int):=by omega
   have et:ss.take i=ss:=jp (by have:=ta.out;omega)
   rw[et]at HD tc
   have b0:=sy.out.c0;have th:=sy.out.free 0
   clear et sE hx hD
   go_wp2_with fail
   have kz:Bk (W.setCell ⟨w.heap.size,0,none⟩ (.map (some mb))) w.heap.size 33 [.map (some mb)]:=sy.out.set 0 _
   have se:Ext w (W.setCell ⟨w.heap.size,0,none⟩ (.map (some mb))):=HX.out.setCell (p:=⟨w.heap.size,0,none⟩) (jo _) _
   have uf:DbB (fun k=>w.heap.size<k∧k≠mb) (W.setCell ⟨w.heap.size,0,none⟩ (.map (some mb))) mb i (dmL ss):=HD.out.fr ((Fr.refl (fun k=>k=w.heap.size) W).setCell (p:=⟨w.heap.size,0,none⟩) (.inl rfl) _) (by omega) (fun k hk e=>by omega)
   generalize (W.setCell ⟨w.heap.size,0,none⟩ (.map (some mb)))=wz at *
   have z0:=kz.c0
   exact bodyPost_ret (v:=.tuple #[.agg #[.map (some mb)],.int .i64 0]) (by simp[results,Tryz.results32,go_sem,z0]) rfl ⟨se,_,_,rfl,.inr ⟨rfl,mb,i,rfl,by omega,by have:=ta.out;omega,uf,tc.out⟩⟩
