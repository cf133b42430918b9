/- packed -/
import Derived.Test.YtplldnnnhgnbjaaGreatDoorMv29
import Derived.Test.YtplldnnnhgnbjaaGreatDoorMv30
import Derived.Test.YtplldnnnhgnbjaaGreatDoorMv28
import Derived.Test.YtplldnnnhgnbjaaGreatDoorMv20
import Derived.Test.YtplldnnnhgnbjaaGreatDoorMv11
import Derived.Test.YtplldnnnhgnbjaaGreatDoorMv16
import Derived.Deep.RegionHeld3
set_option maxRecDepth 20000
set_option maxHeartbeats 3200000
namespace Go.Proofs.YtplldnnnhgnbjaaGreatDoor
open Go.RowKit Go.Maps
def bU(M:Dm)(l:List ByteArray):Prop:=l.Nodup∧∀s,s∈l↔(M s).isSome=true
theorem kp{M:Dm}{l:List ByteArray}(h:∀s,s∈l↔(M s).isSome=true)(s:ByteArray):cm (cH M l) s=(M s).map (fun x=>⟨s,x.kinds⟩):=by
 have hk:∀l:List ByteArray,cm (cH M l) s=if s∈l then some ⟨s,fE M s⟩ else none:=by
  intro l
  induction l with
  | nil=>rfl
  | cons a l ih =>
   unfold cm cH at ih ⊢
   rw[jU,List.find?_cons]
   by_cases e:a=s
   ·subst e
    simp
   ·have:decide (a=s)=false:=decide_eq_false e
    simp only[this]
    rw[ih]
    have h2:s∈a::l↔s∈l:=by
     rw[jB]
     exact⟨fun h=>h.elim (fun h=>absurd h.symm e) id,.inr⟩
    simp only[h2]
 rw[hk]
 unfold fE
 rcases hm:M s with _|x
 ·rw[if_neg]
  ·rfl
  ·rw[h s,hm]
   simp
 ·rw[if_pos ((h s).2 (by rw[hm];rfl))]
  rfl
theorem pL{ss se:List Sc}(h:∀s,cm ss s=cm se s)(q:Qy):aZ ss q=aZ se q:=by
 have h1:dG ss=dG se:=by
  funext m a
  unfold dG
  rw[h]
 have h2:∀r,aU ss r=aU se r:=fun r=>by unfold aU;rw[h1]
 have h3:∀r,a8 ss r=a8 se r:=fun r=>by unfold a8;rw[h2]
 unfold aZ
 simp only[h2,h3]
theorem mq{M:Dm}{l l':List ByteArray}(h:bU M l)(h':bU M l')(q:Qy):aZ (cH M l) q=aZ (cH M l') q:=pL (fun s=>by rw[kp h.2,kp h'.2]) q
def TyM(M:Dm)(κ : ByteArray→Int)(a:At):Prop:=∃x,M a.rel=some x∧a.terms.length=x.kinds.length∧∀p∈a.terms.zip x.kinds,TyT κ p
theorem tyA_M{M:Dm}{l:List ByteArray}(h:bU M l){κ : ByteArray→Int}{a:At}:TyA (cH M l) κ a↔TyM M κ a:=by
 unfold TyA TyM
 rw[kp h.2]
 rcases M a.rel with _|x
 ·simp
 ·simp
def TyRM(M:Dm)(κ : ByteArray→Int)(r:Rl):Prop:=(∀a∈r.ats,TyM M κ a)∧(∀c∈r.cds,c.kind=κ c.var)∧∀a∈r.ats,a.neg=true→∃b∈r.ats,b.neg=false∧pS a b=true
def mC(M:Dm)(q:Qy):Prop:=AstOk q∧∃K:ByteArray→Int,∀r∈q.rs,∃κ,TyRM M κ r∧(∀v∈q.hd,κ v=K v)∧(q.ag=2→κ q.av=1)
theorem mH{M:Dm}{l:List ByteArray}(h:bU M l){q:Qy}:aZ (cH M l) q=0↔mC M q:=by
 rw[check_iff]
 unfold ChkOk mC TyR TyRM
 simp only[tyA_M h]
theorem cond_parts{c:Cd}(h:d6 c=0):cO c.var=true∧(0≤c.op∧c.op≤5)∧dY c.kind c.int c.str=true:=by
 unfold d6 at h
 by_cases h1:cO c.var=true
 ·rw[if_pos h1]at h
  by_cases h2 : 0≤c.op∧c.op≤5
  ·rw[if_pos h2]at h
   by_cases h3:dY c.kind c.int c.str=true
   ·exact⟨h1,h2,h3⟩
   ·rw[if_neg h3]at h
    cases h
  ·rw[if_neg h2]at h
   cases h
 ·rw[if_neg h1]at h
  cases h
theorem bound_pos{r:Rl}{v:ByteArray}(h:fS r v=true):lS r v=true:=by
 unfold fS at h
 rw[Bool.and_eq_true]at h
 exact h.2
theorem o9{r:Rl}{v:ByteArray}:v∈aj r↔v≠⟨#[]⟩∧((∃a∈r.ats,∃t∈a.terms,t.var=v)∨∃c∈r.cds,c.var=v):=by
 rw[cW,eE]
 constructor
 ·rintro⟨t,ht,e,h0⟩
  refine⟨h0,?_⟩
  rcases ju.1 ht with ht|ht
  ·obtain⟨a,ha,ht⟩:=kP.1 ht
   exact .inl ⟨a,ha,t,ht,e⟩
  ·obtain⟨c,hc,rfl⟩:=jG.1 ht
   exact .inr ⟨c,hc,e⟩
 ·rintro⟨h0,⟨a,ha,t,ht,e⟩|⟨c,hc,e⟩⟩
  ·exact⟨t,jP _ (kP.2 ⟨a,ha,ht⟩),e,h0⟩
  ·exact⟨cdT c,zq _ (jG.2 ⟨c,hc,rfl⟩),e,h0⟩
theorem r8(r:Rl):(aj r).Nodup:=by rw[cW];exact mB _
theorem pos_occ{r:Rl}{v:ByteArray}(h:fS r v=true):v∈aj r:=by
 obtain⟨a,ha,t,ht,e,h0⟩:=iy h
 exact o9.2 ⟨h0,.inl ⟨a,ha,t,ht,e⟩⟩
theorem ep{M:Dm}{q:Qy}(h:mC M q){r:Rl}(hr:r∈q.rs):bC M r=0∧pD (dI q.hd q.av) r∧∀s∈q.hd,s∈aj r:=by
 obtain⟨hA,K,hK⟩:=h
 obtain⟨κ,h1,-,-⟩:=hK r hr
 have hr:=hA.rs r hr
 refine⟨?_,hr,fun s hs=>pos_occ (hr.bd s (.inl (by unfold dI;split;exact hs;exact jP _ hs)))⟩
 have ha:aA (dB M) r.ats=0:=aF.2 (fun a ha=>by
  obtain⟨x,k1,k2,-⟩:=h1.1 a ha
  unfold dB
  rw[k1]
  exact if_pos k2)
 unfold bC
 rw[if_pos ha,if_pos (jA.2 (fun v hv=>bound_pos (hr.bd v (.inr hv))))]
 refine aF.2 (fun c hc=>?_)
 obtain⟨-,h2,h3⟩:=cond_parts (hr.cd c hc)
 unfold eI
 rw[if_neg (by omega),if_pos h3]
end Go.Proofs.YtplldnnnhgnbjaaGreatDoor
namespace Go.Proofs.YtplldnnnhgnbjaaGreatDoor
open Go.RowKit Go.Maps
theorem ky_of{w:World}{base n:Nat}{v:Value}{l:List Ky}(h:w.ownsRow base 208 2 v n (cL l))(hn:n=l.length):Sl iO (fun k=>base≤k) w v l:=by
 obtain⟨A,c,rfl,hc,se⟩:=Cl.of_own h
 refine⟨A,c,by rw[hn],by omega,fun i hi=>?_⟩
 obtain⟨ad,k1,hb,k3⟩:=se.at' (j:=i*2+0) (x:=.string l[i].var) (fZ hi 0 (by decide))
 obtain⟨sg,k4,-,k6⟩:=se.at' (j:=i*2+1) (x:=.bool l[i].desc) (fZ hi 1 (by decide))
 subst k1
 injection k4 with k4
 subst k4
 refine⟨ad,l[i].cells,rfl,hb.2,rfl,fun j hj=>?_⟩
 obtain rfl|rfl:j=0∨j=1:=by simp[Ky.cells]at hj;omega
 ·exact k3
 ·exact k6
def bB(l:List ByteArray):ByteArray→Option Value:=fun s=>if s∈l then some (.int .i64 (bW l s)) else none
theorem firstF_nil:bB []=fun _=>none:=by funext s;unfold bB;rw[if_neg (by simp)]
theorem o5{l:List ByteArray}{a s:ByteArray}(h:s∈l):bW (l++[a]) s=bW l s:=by
 have h1:l.findIdx (fun x=>decide (x=s))<l.length:=List.findIdx_lt_length_of_exists ⟨s,h,by simp⟩
 rw[bW,if_pos (ju.2 (.inl h)),bW,if_pos h,List.findIdx_append,if_pos h1]
theorem firstF_old{l:List ByteArray}{a:ByteArray}(h:a∈l):bB (l++[a])=bB l:=by
 funext s
 unfold bB
 by_cases hs:s∈l
 ·rw[if_pos hs,if_pos (ju.2 (.inl hs)),o5 hs]
 ·rw[if_neg hs,if_neg (fun e=>by
   rcases ju.1 e with e|e
   ·exact hs e
   ·rw[jq.1 e]at hs
    exact hs h)]
theorem firstF_new{l:List ByteArray}{a:ByteArray}(h:a ∉ l):cI (bB l) a (some (.int .i64 (l.length:Int)))=bB (l++[a]):=by
 funext s
 unfold cI bB
 by_cases e:s=a
 ·subst e
  rw[if_pos rfl,if_pos (by simp),li (i:=l.length) (by simp) (by simp) (fun j hj se=>by
   rw[jw se]
   intro e2
   exact h (e2 ▸ jf se))]
 ·rw[if_neg e]
  by_cases hs:s∈l
  ·rw[if_pos hs,if_pos (ju.2 (.inl hs)),o5 hs]
  ·rw[if_neg hs,if_neg (fun e2=>by
    rcases ju.1 e2 with e2|e2
    ·exact hs e2
    ·exact e (jq.1 e2))]
def d5(hd:List ByteArray)(od:List Ky):List Int:=aC hd ((aP hd od).map Ky.var)
theorem colsq_any{F:Nat→Prop}{w:World}{A B O:Option Addr}{ca cb co nb:Nat}{ag:Int}{av:ByteArray}{hd:List ByteArray}{od:List Ky}(hH:Strs F w (.slice A hd.length ca) hd)(hO:Sl iO F w (.slice O od.length co) od)(sI:∀s∈hd,s.size≤maxLen)(sX:∀k∈od,k.var.size≤maxLen)(tK:hd.length≤100000)(tL:od.length≤100000) :
  Calls Tryz.prog 125 #[.agg #[.slice A hd.length ca,.int .i64 ag,.string av,.slice B nb cb,.slice O od.length co]] w (Ret (fun x w'=>∃b,w.heap.size≤b∧w'.ownsRow b 3 1 x (d5 hd od).length ((d5 hd od).map I64)) w):=by
 have sB:=zN (fun (V:World) (hV:Ext w V)=>pg (ca:=ca) (cb:=cb) (co:=co) (nb:=nb) (ag:=ag) (av:=av) (B:=B) (hH.ext hV) (hO.ext hV) sI sX (by omega) (by omega))
 have sY:∀k∈aP hd od,k.var.size≤maxLen:=fun k hk=>by
  unfold aP at hk
  rcases ju.1 hk with hk|hk
  ·exact sX k hk
  ·obtain⟨v,hv,rfl⟩:=jG.1 hk
   exact sI v (jC.1 hv).1
 have tp:(aP hd od).length≤200000:=by
  unfold aP
  rw[jm,jk]
  have:=jF (fun v=>!decide (v∈od.map Ky.var)) hd
  omega
 have sE:Hid (d5 hd od=aC hd ((aP hd od).map Ky.var)):=zN rfl
 obtain⟨cq,te⟩:=sd (d5 hd od)
 rw[←te]at sE ⊢
 obtain⟨ol,sD⟩:=sd (aP hd od)
 rw[←sD]at sE sB sY tp
 obtain⟨nh,sL⟩:=sd hd.length
 obtain⟨no,sW⟩:=sd od.length
 obtain⟨nk,sV⟩:=sd ol.length
 rw[←sL]at hH tK sB
 rw[←sW]at hO tL sB
 rw[←sV]at sB tp
 rw[←sL,←sW]
 have ta:=zN sL;have sG:=zN sV;have HH:=zN hH;have tA:=zN sI;have tJ:=zN sY
 obtain⟨i0,tg,tt,tu,tw⟩:=info_parts ib
 have sj:=zN (And.intro tg (And.intro tt (And.intro tu tw)));clear tg tt tu tw
 have tM:=@run_makeMap Tryz.prog
 clear sL sW sV hH hO sI sX sY te sD
 obtain⟨B',d',e,-,sH⟩:=HH.out
 injection e with e1 e2 e3
 subst e1
 have tz:=zN sH
 clear sH e2 e3
 go_enter Tryz.func125,Tryz.ntmps125
 have hx:Ext w (w.alloc (.cells #[.slice A nh ca,.int .i64 ag,.string av,.slice B nb cb,.slice O no co] 28)):=(Ext.refl w).alloc _
 have kb:=Bk.new w 28 [.slice A nh ca,.int .i64 ag,.string av,.slice B nb cb,.slice O no co]
 change Bk (w.alloc (.cells #[.slice A nh ca,.int .i64 ag,.string av,.slice B nb cb,.slice O no co] 28)) _ _ _ at kb
 have sM:=kb.alloc (.map #[] 0)
 have b0:=sM.c0
 have sK:=aI.made (w.alloc (.cells #[.slice A nh ca,.int .i64 ag,.string av,.slice B nb cb,.slice O no co] 28))
 rw[←firstF_nil,show (w.alloc (.cells #[.slice A nh ca,.int .i64 ag,.string av,.slice B nb cb,.slice O no co] 28)).heap.size=w.heap.size+1 by simp]at sK
 have hx2:=hx.alloc (.map #[] 0)
 go_wp2_with fail
 obtain⟨W1,td⟩:=sd ((w.alloc (.cells #[.slice A nh ca,.int .i64 ag,.string av,.slice B nb cb,.slice O no co] 28)).alloc (.map #[] 0))
 rw[←td]at sK hx2 sM ⊢
 have tD:=zN sK;have tH:=zN hx2;have tB:=zN sM
 clear sK hx2 sM kb hx b0 td tM
 go_loopw [17] (fun t wr=>∃i m:Nat,i≤nh∧m≤i∧t=.int .i64 (i:Int)∧Hid (aI wr (w.heap.size+1) m (bB (hd.take i)))∧Hid (Ext w wr)∧Hid (Bk wr w.heap.size 28 [.slice A nh ca,.int .i64 ag,.string av,.slice B nb cb,.slice O no co])) (fun t _=>nh-(intOf t).toNat)
 case atStart=>exact⟨0,0,jn _,jo _,rfl,tD,tH,tB⟩
 case round =>
  obtain⟨i,m,hi,tQ,rfl,HM,HX,HK⟩:=hrel
  obtain⟨W,rfl⟩:∃W:World,W=wr:=⟨_,rfl⟩
  by_cases hlt:i<nh
  ·have i1:(0:Int)≤(i:Int):=by omega
   have i2:(i:Int)<(nh:Int):=by omega
   have sT:i<hd.length:=by have:=ta.out;omega
   obtain⟨ad,rfl,-,d0⟩:=tz.out.str sT
   replace d0:=HX.out.cell d0
   have si:=tA.out _ (jf sT)
   have sp:hd.take (i+1)=hd.take i++[hd[i]]:=jj sT
   have tq:(hd.take i).length=i:=by rw[jt];omega
   obtain⟨x,hx⟩:=sd (hd[i])
   rw[←hx]at d0 si sp
   have sq:=zN sp;have tG:=zN tq
   clear hx sp tq
   by_cases hin:x∈hd.take i
   ·have sN:=zN hin
    have sg:Hid ((bB (hd.take i) x).getD (.int .i64 0)=.int .i64 (bW (hd.take i) x)):=zN (by unfold bB;rw[if_pos hin];rfl)
    have sr:Hid ((bB (hd.take i) x).isSome=true):=zN (by unfold bB;rw[if_pos hin];rfl)
    obtain⟨iv,th⟩:=sd (bW (hd.take i) x)
    rw[←th]at sg
    clear hin th
    go_wp2_with (first
     | (refine az rfl _ _ 145 3 rfl Tryz.underlying145 (.int .i64 0) (aO _) (w.heap.size+1) m _ rfl HM.out x rfl si (.int .i64 iv) sg.out true sr.out ?_))
    go_roundw
    case rel=>exact⟨i+1,m,by omega,by omega,by go_num,zN (by rw[sq.out,firstF_old sN.out];exact HM.out),HX,HK⟩
    case measure=>simp[intOf];omega
   ·have sN:=zN hin
    have sg:Hid ((bB (hd.take i) x).getD (.int .i64 0)=.int .i64 0):=zN (by unfold bB;rw[if_neg hin];rfl)
    have sr:Hid ((bB (hd.take i) x).isSome=false):=zN (by unfold bB;rw[if_neg hin];rfl)
    clear hin
    go_wp2_with (first
     | (refine az rfl _ _ 145 3 rfl Tryz.underlying145 (.int .i64 0) (aO _) (w.heap.size+1) m _ rfl HM.out x rfl si (.int .i64 0) sg.out false sr.out ?_)
     | (refine aN rfl _ _ _ 145 3 rfl Tryz.underlying145 (w.heap.size+1) m (bB (hd.take i)) rfl HM.out (by simp only[maxLen];omega) x (.int .i64 (i:Int)) rfl si rfl ?_;intro w5 tj tf;have tF:=zN tj;have sZ:=zN (am tf);clear tj tf))
    go_roundw
    case rel=>exact⟨i+1,m+1,by omega,by omega,by go_num,zN (by rw[sq.out,←firstF_new sN.out,tG.out];exact tF.out),zN (sZ.out.new HX.out (fun q e=>by injection e with e;omega)),zN (HK.out.fr sZ.out (fun e=>by injection e with e;omega))⟩
    case measure=>simp[intOf];omega
  ·obtain rfl:i=nh:=by omega
   have tO:¬(i:Int)<(i:Int):=by omega
   have et:hd.take i=hd:=jp (by have:=ta.out;omega)
   rw[et]at HM
   have b0:=HK.out.c0;have b1:=HK.out.c1;have b2:=HK.out.c2;have b3:=HK.out.c3;have b4:=HK.out.c4
   have sO:=zN (sB.out W HX.out)
   clear et
   go_wp2_with fail
   refine sO.out.mono ?_
   rintro e w2 ⟨v2,rfl,he,sy⟩
   obtain⟨A2,c2,rfl⟩:=af sy
   have tC:=zN (ky_of sy sG.out)
   have tc:=zN (HX.out.trans he);have tE:=zN (HM.out.ext he)
   clear sy he b0 b1 b2 b3 b4 hlt hi
   go_wp2_with fail
   go_loopw [8,37] (fun v q wr=>∃(j:Nat) (P:Option Addr) (cp:Nat),j≤nk∧q=.int .i64 (j:Int)∧v=.slice P j cp∧Hid (wr.ownsRow w2.heap.size 3 1 (.slice P j cp) j ((aC hd ((ol.take j).map Ky.var)).map I64))∧Hid (Ext w2 wr)) (fun _ q _=>nk-(intOf q).toNat)
   case atStart=>exact⟨0,none,0,jn _,rfl,rfl,zN (by simpa [aC] using World.ownsRow_nil _ _ _ _),zN (Ext.refl w2)⟩
   case round =>
    obtain⟨j,P,cp,hj,rfl,rfl,sP,su⟩:=hrel
    obtain⟨Y,rfl⟩:∃Y:World,Y=wr:=⟨_,rfl⟩
    by_cases hlt:j<nk
    ·have i1:(0:Int)≤(j:Int):=by omega
     have i2:(j:Int)<(nk:Int):=by omega
     have sJ:j<ol.length:=by have:=sG.out;omega
     obtain⟨ad,rfl,-,d0,d1⟩:=tC.out.ky sJ
     replace d0:=su.out.cell d0;replace d1:=su.out.cell d1
     have si:=tJ.out _ (jf sJ)
     have sp:(aC hd ((ol.take (j+1)).map Ky.var)).map I64=(aC hd ((ol.take j).map Ky.var)).map I64++[.int .i64 (bW hd ol[j].var)]:=by
      unfold aC
      rw[jj sJ,jH,jH,jH]
      rfl
     obtain⟨⟨xv,xd⟩,hx⟩:=sd (ol[j])
     rw[←hx]at d0 d1 si sp
     simp only at d0 d1 si sp
     have sq:=zN sp
     have tN:w2.heap.size≤Y.heap.size:=su.out.size
     clear hx sp sJ
     have tn:=tE.out.ext (su.out.alloc (.cells #[.string xv,.bool xd] 208))
     have sF:=zN tn
     clear tn
     by_cases hin:xv∈hd
     ·have sg:Hid ((bB hd xv).getD (.int .i64 0)=.int .i64 (bW hd xv)):=zN (by unfold bB;rw[if_pos hin];rfl)
      have sr:Hid ((bB hd xv).isSome=true):=zN (by unfold bB;rw[if_pos hin];rfl)
      obtain⟨r,hr⟩:=sd (bW hd xv)
      rw[←hr]at sg sq
      clear hin hr
      go_wp2_with (first
       | (refine az rfl _ _ 145 3 rfl Tryz.underlying145 (.int .i64 0) (aO _) (w.heap.size+1) m _ rfl sF.out xv rfl si (.int .i64 r) sg.out true sr.out ?_;obtain⟨Y2,sx⟩:=sd (Y.alloc (.cells #[.string xv,.bool xd] 208));rw[←sx];have sh:Ext Y Y2:=(by rw[sx];exact(Ext.refl Y).alloc _);have se:=zN (aD sP.out sh);have sw:=zN (su.out.trans sh);have sS:=sh.size;clear sx sh d0 d1 sF)
       | (at_builtin;refine aq rfl _ _ 63 rfl w2.heap.size 3 i0 (.int .i64 0) 1 8 Tryz.underlying63 sj.out.1 sj.out.2.1 sj.out.2.2.1 sj.out.2.2.2 rfl (by omega) (.slice P j cp) j ((aC hd ((ol.take j).map Ky.var)).map I64) rfl (se.out.alloc _) ⟨Y2.heap.size,0,none⟩ 1 1 [.int .i64 r] rfl rfl (aE Y2 _ _) (by simp[Value.oneCell']) (by simp only[maxLen];omega) (by omega) (by simp;omega) ?_;intro v3 w3 sA sC sU;obtain⟨P3,c3,rfl⟩:=af sA;have sQ:=zN sA;have sR:=zN ((sw.out.alloc _).grown sC (fun k hk=>(se.out.lt k hk).1));clear sA sC sU))
      go_roundw
      case rel=>exact⟨j+1,P3,c3,by omega,by go_num,rfl,zN (by rw[sq.out];exact sQ.out),sR⟩
      case measure=>simp[intOf];omega
     ·have sg:Hid ((bB hd xv).getD (.int .i64 0)=.int .i64 0):=zN (by unfold bB;rw[if_neg hin];rfl)
      have sr:Hid ((bB hd xv).isSome=false):=zN (by unfold bB;rw[if_neg hin];rfl)
      have hr:bW hd xv = -1:=by rw[bW,if_neg hin]
      rw[hr]at sq
      clear hin hr
      go_wp2_with (first
       | (refine az rfl _ _ 145 3 rfl Tryz.underlying145 (.int .i64 0) (aO _) (w.heap.size+1) m _ rfl sF.out xv rfl si (.int .i64 0) sg.out false sr.out ?_;obtain⟨Y2,sx⟩:=sd (Y.alloc (.cells #[.string xv,.bool xd] 208));rw[←sx];have sh:Ext Y Y2:=(by rw[sx];exact(Ext.refl Y).alloc _);have se:=zN (aD sP.out sh);have sw:=zN (su.out.trans sh);have sS:=sh.size;clear sx sh d0 d1 sF)
       | (at_builtin;refine aq rfl _ _ 63 rfl w2.heap.size 3 i0 (.int .i64 0) 1 8 Tryz.underlying63 sj.out.1 sj.out.2.1 sj.out.2.2.1 sj.out.2.2.2 rfl (by omega) (.slice P j cp) j ((aC hd ((ol.take j).map Ky.var)).map I64) rfl (se.out.alloc _) ⟨Y2.heap.size,0,none⟩ 1 1 [.int .i64 (-1)] rfl rfl (aE Y2 _ _) (by simp[Value.oneCell']) (by simp only[maxLen];omega) (by omega) (by simp;omega) ?_;intro v3 w3 sA sC sU;obtain⟨P3,c3,rfl⟩:=af sA;have sQ:=zN sA;have sR:=zN ((sw.out.alloc _).grown sC (fun k hk=>(se.out.lt k hk).1));clear sA sC sU))
      go_roundw
      case rel=>exact⟨j+1,P3,c3,by omega,by go_num,rfl,zN (by rw[sq.out];exact sQ.out),sR⟩
      case measure=>simp[intOf];omega
    ·obtain rfl:j=nk:=by omega
     have tP:¬(j:Int)<(j:Int):=by omega
     have HQ:Hid (∃b,w.heap.size≤b∧Y.ownsRow b 3 1 (.slice P j cp) cq.length (cq.map I64)):=zN (by
      have h:=sP.out
      rw[jp (by have:=sG.out;omega),←sE.out]at h
      have sH:cq.length=j:=by
       have h9:=h.1
       have h10:=sE.out
       rw[h10]
       unfold aC
       rw[jk,jk]
       exact sG.out.symm
      rw[sH]
      exact⟨w2.heap.size,tc.out.size,h⟩)
     have tI:=zN (tc.out.trans su.out)
     go_wp2_with fail
     go_ret
     exact Ret.mk tI.out HQ.out
end Go.Proofs.YtplldnnnhgnbjaaGreatDoor
namespace Go.Proofs.YtplldnnnhgnbjaaGreatDoor
open Go.RowKit Go.Maps
structure Wk{α : Type}(c : α→α→Int):Prop where
 anti:∀a b,0<c a b↔c b a<0
 tr:∀a b d,c a b≤0→c b d≤0→c a d≤0
section
variable {α β : Type} {c d : α→α→Int} {e : β→β→Int}
theorem Wk.self(h:Wk c)(a : α):c a a=0:=by have:=h.anti a a;omega
theorem Wk.lt_le(h:Wk c){a b x : α}(h1:c a b<0)(h2:c b x≤0):c a x<0:=by
 rcases Int.lt_or_le (c a x) 0 with h3|h3
 ·exact h3
 ·have h4:=h.anti x a
  have h5:=h.anti b a
  have h6:=h.tr b x a h2 (by have:=h.anti a x;have:=h.anti x a;omega)
  have h7:=h.anti a b
  omega
theorem Wk.le_lt(h:Wk c){a b x : α}(h1:c a b≤0)(h2:c b x<0):c a x<0:=by
 rcases Int.lt_or_le (c a x) 0 with h3|h3
 ·exact h3
 ·have h6:=h.tr x a b (by have:=h.anti a x;have:=h.anti x a;omega) h1
  have h7:=h.anti x b
  have h8:=h.anti b x
  omega
theorem Wk.neg(h:Wk c):Wk (fun a b=>-(c a b)) where
 anti a b:=by
  have h1:=h.anti a b
  have h2:=h.anti b a
  show 0 < -(c a b)↔-(c b a)<0
  omega
 tr a b x h1 h2:=by
  have se : -(c a b)≤0:=h1
  have sg : -(c b x)≤0:=h2
  have h3:=h.anti b a
  have h4:=h.anti x b
  have h5:=h.tr x b a (by omega) (by omega)
  have h6:=h.anti a x
  have h7:=h.anti x a
  show -(c a x)≤0
  omega
theorem Wk.map(h:Wk e)(f : α→β):Wk (fun a b=>e (f a) (f b)):=⟨fun a b=>h.anti _ _,fun a b x=>h.tr _ _ _⟩
theorem Wk.seq(h:Wk c)(k:Wk d):Wk (fun a b=>if c a b=0 then d a b else c a b) where
 anti a b:=by
  have h1:=h.anti a b
  have h2:=h.anti b a
  have h3:=k.anti a b
  show 0<(if c a b=0 then d a b else c a b)↔(if c b a=0 then d b a else c b a)<0
  by_cases e1:c a b=0
  ·rw[if_pos e1,if_pos (by omega)]
   exact h3
  ·rw[if_neg e1,if_neg (by omega)]
   exact h1
 tr a b x h1 h2:=by
  have sg:(if c a b=0 then d a b else c a b)≤0:=h1
  have se:(if c b x=0 then d b x else c b x)≤0:=h2
  show (if c a x=0 then d a x else c a x)≤0
  by_cases e1:c a b=0
  ·rw[if_pos e1]at sg
   by_cases e2:c b x=0
   ·rw[if_pos e2]at se
    have h3:=h.tr a b x (by omega) (by omega)
    have h4:=h.tr x b a (by have:=h.anti b x;have:=h.anti x b;omega) (by have:=h.anti a b;have:=h.anti b a;omega)
    have h5:=h.anti x a
    have h6:=h.anti a x
    rw[if_pos (by omega)]
    exact k.tr a b x sg se
   ·rw[if_neg e2]at se
    have h3:=h.le_lt (a:=a) (b:=b) (x:=x) (by omega) (by omega)
    rw[if_neg (by omega)]
    omega
  ·rw[if_neg e1]at sg
   have h3:=h.lt_le (a:=a) (b:=b) (x:=x) (by omega) (by
    by_cases e2:c b x=0
    ·omega
    ·rw[if_neg e2]at se
     exact se)
   rw[if_neg (by omega)]
   omega
end
theorem wk_vl:Wk cT:=⟨fun a b=>pQ.lt_gt,fun a b d h1 h2=>pQ.le_trans h1 h2⟩
theorem wk_qD(u:Int)(ds:Bool):Wk (fun a b=>qD a b u ds):=by
 unfold qD
 cases ds
 ·exact wk_vl.map (fun a:List Vl=>a.getD u.toNat zv)
 ·exact(wk_vl.map (fun a:List Vl=>a.getD u.toNat zv)).neg
theorem cQ:∀keys:List (Int×Bool),Wk (fun a b=>fy a b keys)
 | []=>⟨fun _ _=>Iff.rfl,fun _ _ _ _ _=>Int.le_refl _⟩
 | x::l=>(wk_qD x.1 x.2).seq (cQ l)
section
variable {F:Nat→Prop} {w:World} {g m:Nat} {keys:List (Int×Bool)}
def PrQ(F:Nat→Prop)(w:World)(g m:Nat):Type:={ p:Value×List Vl // Sl aM (fun k=>F k∧some g≠some k) w p.1 p.2∧p.2.length=m }
def PrQ.enc(p:PrQ F w g m):Value:=p.1.1
def PrQ.row(p:PrQ F w g m):List Vl:=p.1.2
def PrQ.cf(keys:List (Int×Bool))(p q:PrQ F w g m):Int:=fy p.row q.row keys
theorem PrQ.one:Go.Proofs.OneCell (PrQ.enc (F:=F) (w:=w) (g:=g) (m:=m)):=fun p=>by
 obtain⟨A,c,e⟩:=p.2.1.sl
 unfold PrQ.enc
 rw[e]
 rfl
theorem PrQ.swo:Go.Sort.SWO (Go.Proofs.ltOf (PrQ.cf (F:=F) (w:=w) (g:=g) (m:=m) keys)) where
 irrefl x:=by
  unfold Go.Proofs.ltOf PrQ.cf
  rw[(cQ keys).self]
  rfl
 trans x y z h1 h2:=by
  unfold Go.Proofs.ltOf PrQ.cf at *
  rw[decide_eq_true_eq]at *
  exact(cQ keys).lt_le h1 (by have h3:fy y.row z.row keys<0:=h2;show fy y.row z.row keys≤0;omega)
 ntrans x y z h1 h2:=by
  unfold Go.Proofs.ltOf PrQ.cf at *
  rw[decide_eq_false_iff_not]at *
  have a1:=(cQ keys).anti x.row y.row
  have se:=(cQ keys).anti y.row x.row
  have a2:=(cQ keys).anti y.row z.row
  have sg:=(cQ keys).anti z.row y.row
  have a3:=(cQ keys).anti z.row x.row
  have a4:=(cQ keys).tr z.row y.row x.row (by omega) (by omega)
  intro h3
  omega
theorem iB{α : Type} [Inhabited α] (enc : α→Value) (n:Nat) (d:Array α) (os:Array Obj):w.grownBy (Go.Sort.grow (Go.Sort.putRow enc (Go.Sort.ahead w n) g 0 d) os) (some g):=by
 refine⟨rfl,rfl,rfl,by simp,fun k hk se=>?_⟩
 rw[Go.Sort.heap_grow_old _ _ (by simpa using hk)]
 have:g≠k:=fun e=>se (by rw[e])
 simp[Go.Sort.putRow,Go.Sort.mapBlock,Go.Sort.ahead,zM,this]
theorem PrQ.lays [Inhabited (PrQ F w g m)] {H K:Nat→Prop} {size gC gK p c3 c4:Nat} {C D:Option Addr} {cols:List Int} {ks:List Ky} (hC:Ins H w (.slice C p c3) cols) (hK:Sl iO K w (.slice D p c4) ks) (g1:Bk w gC 63 [.slice C p c3]) (g2:Bk w gK 26 [.slice D p c4]) (hc:∀x∈cols,0≤x∧x<(m:Int)) (hp:p≤1000000) (hgC:gC≠g) (hgK:gK≠g) (hH:∀k,H k→k≠g) (hKK:∀k,K k→k≠g):Go.Proofs.CmpLays1 Tryz.prog 126 #[.pointer (some ⟨gC,0,none⟩),.pointer (some ⟨gK,0,none⟩)] (PrQ.enc (F:=F) (w:=w) (g:=g) (m:=m)) (PrQ.cf (cols.zip (ks.map Ky.desc))) g 0 size w:=by
 intro q os dk _ x y
 have hf:=am (iB (w:=w) (g:=g) PrQ.enc q dk os)
 obtain⟨⟨v1,r1⟩,h1,l1⟩:=x
 obtain⟨⟨v2,r2⟩,h2,l2⟩:=y
 simp only at h1 l1 h2 l2
 have k1:=h1.fr hf (fun k hk e=>hk.2 e)
 have k2:=h2.fr hf (fun k hk e=>hk.2 e)
 obtain⟨A,c,rfl⟩:=k1.sl
 obtain⟨B,d,rfl⟩:=k2.sl
 have se:∀{k:Nat},k≠g→¬some g=some k:=fun hk e=>by injection e with e;exact hk e.symm
 exact cmpq_any k1 k2 (hC.fr hf (fun k hk=>se (hH k hk))) (hK.fr hf (fun k hk=>se (hKK k hk))) (g1.fr hf (se hgC)) (g2.fr hf (se hgK)) (fun u hu=>by have:=hc u hu;omega) hp
end
theorem nO{α : Type} [Inhabited α] (enc : α→Value) {w:World} {base g cap n m:Nat} {e:TypeId} {os:Array Obj} {cur:Array Value} {d:Array α} (hm:d.size=m) (hbase:base≤g) (hb:w.heap[g]?=some (.cells cur e (0,0))) (h1:m≤cap) (h2:cap≤maxLen) (h3:cur.size=cap*1) :
  (Go.Sort.grow (Go.Sort.putRow enc (Go.Sort.ahead w n) g 0 d) os).ownsRow base e 1 (.slice (some ⟨g,0,none⟩) m cap) m (d.toList.map enc):=by
 have hg:g<w.heap.size:=(jR.1 hb).1
 have hh:(Go.Sort.grow (Go.Sort.putRow enc (Go.Sort.ahead w n) g 0 d) os).heap[g]?=some (.cells (Go.Sort.putCells enc 0 d cur) e (0,0)):=by
  rw[Go.Sort.heap_grow_old _ _ (by simpa using hg)]
  simp[Go.Sort.putRow,Go.Sort.mapBlock,Go.Sort.ahead,zM,hb,Go.Sort.onCells]
 refine⟨by simp[hm],.inr ⟨g,cap,_,rfl,hbase,hh,h1,h2,by simp[Go.Sort.putCells,h3],?_⟩⟩
 apply List.ext_getElem?
 intro j
 by_cases hj:j<d.size
 ·rw[zn (by omega),Array.getElem?_toList]
  simp[Go.Sort.putCells,hj,show j<cur.size by omega]
 ·rw[List.getElem?_take_eq_none (by omega),zo (by simp;omega)]
theorem oZ{α : Type} [Inhabited α] (enc : α→Value) {w:World} {g:Nat} {cur:Array Value} {e:TypeId} {l:List α} (hb:w.heap[g]?=some (.cells cur e (0,0))) (ht:cur.toList.take l.length=l.map enc):Go.Sort.Holds enc w g 0 l.toArray:=by
 intro j hj
 have se:j<l.length:=by simpa using hj
 refine⟨?_,by simp[World.frozen?,hb]⟩
 have h1:(cur.toList.take l.length)[j]?=(l.map enc)[j]?:=by rw[ht]
 rw[zn se]at h1
 simp only[World.cell?,hb,jY]
 simp only[Option.isSome_none,Bool.false_eq_true,if_false]
 rw[←Array.getElem?_toList,h1]
 simp[se]
theorem OwR.prq{F:Nat→Prop}{w:World}{base n g cap m:Nat}{us:List Value}{rows:List (List Vl)}(h:OwR F w base (.slice (some ⟨g,0,none⟩) n cap) n us rows)(hr:∀x∈rows,x.length=m):∃l:List (PrQ F w g m),l.map PrQ.enc=us∧l.map PrQ.row=rows:=by
 obtain⟨f,hf⟩:∃f:Fin rows.length→PrQ F w g m,∀i,PrQ.enc (f i)=us[i.1]'(by have:=h.len;omega)∧PrQ.row (f i)=rows[i.1]:=⟨fun i=>⟨(us[i.1]'(by have:=h.len;omega),rows[i.1]),h.rd i.1 i.2 (by have:=h.len;omega),hr _ (jf i.2)⟩,fun i=>⟨rfl,rfl⟩⟩
 refine⟨List.ofFn f,?_,?_⟩
 ·apply zf
  ·rw[jk,List.length_ofFn,h.len]
  ·intro i h1 h2
   rw[jy,List.getElem_ofFn,(hf _).1]
 ·apply zf
  ·rw[jk,List.length_ofFn]
  ·intro i h1 h2
   rw[jy,List.getElem_ofFn,(hf _).2]
def lD(keys:List (Int×Bool))(l:List (List Vl)):Prop:=l.Pairwise (fun a b=>fy a b keys≤0)
theorem sort_cmpq{F H K:Nat→Prop}{gC gK p c3 c4 m:Nat}{C D:Option Addr}{cols:List Int}{ks:List Ky}{w:World}{base n g cap:Nat}{us:List Value}{rows:List (List Vl)}(h:OwR F w base (.slice (some ⟨g,0,none⟩) n cap) n us rows)(hr:∀x∈rows,x.length=m)(hn:n≤1048576)(hC:Ins H w (.slice C p c3) cols)(hK:Sl iO K w (.slice D p c4) ks)(g1:Bk w gC 63 [.slice C p c3])(g2:Bk w gK 26 [.slice D p c4])(sw:∀x∈cols,0≤x∧x<(m:Int))(hp:p≤1000000)(sx:gC≠g)(sy:gK≠g)(hH:∀k,H k→k≠g)(su:∀k,K k→k≠g) :
  Calls Tryz.prog 53 #[.slice (some ⟨g,0,none⟩) n cap,.func (.func 126) #[] #[.pointer (some ⟨gC,0,none⟩),.pointer (some ⟨gK,0,none⟩)]] w (fun e w'=>e=.returned (.tuple #[])∧w.grownBy w' (some g)∧∃us' rows',lD (cols.zip (ks.map Ky.desc)) rows'∧rows'.Perm rows∧OwR F w' base (.slice (some ⟨g,0,none⟩) n cap) n us' rows'):=by
 obtain⟨l,sp,sB⟩:=h.prq hr
 rcases Nat.eq_zero_or_pos n with sq|sq
 ·subst sq
  have sE:rows=[]:=jZ (by have:=h.len;have:=h.num;omega)
  subst sE
  refine pq.mono ?_
  rintro e w' ⟨rfl,rfl⟩
  exact⟨rfl,kC _ _,us,[],List.Pairwise.nil,List.Perm.nil,h⟩
 have sD:=h.num
 have si:l.length=n:=by rw[sD,←sp,jk]
 letI:Inhabited (PrQ F w g m):=⟨l[0]'(by omega)⟩
 rcases h.own.2 with ⟨h0,-⟩|⟨g',sr,sG,e,hb,hc,h1,h2,h3,h4⟩
 ·cases h0
 injection e with e1 e2 e3
 injection e1 with e1
 injection e1 with e1
 subst e1 e3
 rw[Nat.mul_one]at h4
 have hh:=oZ (l:=l) PrQ.enc hc (by rw[si,sp,←h4])
 have sC:g<w.heap.size:=(jR.1 hc).1
 have sg:=Any.slices_SortFunc Tryz.laySortRow PrQ.enc PrQ.one (PrQ.cf (cols.zip (ks.map Ky.desc))) PrQ.swo 126 #[.pointer (some ⟨gC,0,none⟩),.pointer (some ⟨gK,0,none⟩)] g 0 cap l.toArray w (enters_of Tryz.func126 (by kernel_rfl) rfl) (PrQ.lays hC hK g1 g2 sw hp sx sy hH su) hh sC (by simp;omega)
 change Calls Tryz.prog 53 _ _ _ at sg
 rw[show l.toArray.size=n by simp[si]]at sg
 refine sg.mono ?_
 rintro e w' ⟨rfl,d',m,os,⟨sF,-,se⟩,sh,rfl⟩
 have sj:d'.size=n:=by rw[sF];simp[si]
 have hx1:(d'.extract 0 n).toList=d'.toList:=by rw[←sj];simp
 have hx2:(l.toArray.extract 0 n).toList=l:=by rw[←si];simp
 rw[hx1,hx2]at se
 have hg:w.grownBy (sortWorld PrQ.enc w g 0 m d' os) (some g):=iB _ _ _ _
 refine⟨rfl,hg,d'.toList.map PrQ.enc,d'.toList.map PrQ.row,?_,?_,nO _ sj hb hc h1 h2 h3,by simp,fun i hi sH=>?_⟩
 ·unfold lD
  rw[zk]
  intro i j hi hj sA
  rw[jk,Array.length_toList]at hi hj
  have h5:=sh i j (jn _) sA (by omega)
  rw[getElem!_pos d' i (by omega),getElem!_pos d' j (by omega)]at h5
  unfold Go.Proofs.ltOf PrQ.cf at h5
  rw[decide_eq_false_iff_not]at h5
  rw[jy,jy,Array.getElem_toList,Array.getElem_toList]
  have:=(cQ (cols.zip (ks.map Ky.desc))).anti (PrQ.row d'[i]) (PrQ.row d'[j])
  have h6:¬fy (PrQ.row d'[j]) (PrQ.row d'[i]) (cols.zip (ks.map Ky.desc))<0:=h5
  omega
 ·rw[←sB]
  exact se.map _
 ·rw[jy,jy]
  exact(d'.toList[i]'(by simpa using hi)).2.1.fr (am hg) (fun k hk e=>hk.2 e)
end Go.Proofs.YtplldnnnhgnbjaaGreatDoor
namespace Go.Proofs.YtplldnnnhgnbjaaGreatDoor
open Go.RowKit Go.Maps
theorem orderE_iff{hd:List ByteArray}{od:List Ky}:dp hd od=0↔(∀k∈od,k.var∈hd)∧(od.map Ky.var).Nodup:=by
 have key:∀i (hi:i<od.length),(if (od.map Ky.var).getD i ⟨#[]⟩∈hd then (if (od.map Ky.var).getD i ⟨#[]⟩∈(od.map Ky.var).take i then (8:Int) else 0) else 7)=0↔od[i].var∈hd∧od[i].var ∉ (od.map Ky.var).take i:=fun i hi=>by
  have e:(od.map Ky.var).getD i ⟨#[]⟩=od[i].var:=by rw[jI,jl (by simpa using hi)];simp
  rw[e]
  by_cases h1:od[i].var∈hd
  ·rw[if_pos h1]
   by_cases h2:od[i].var∈(od.map Ky.var).take i
   ·rw[if_pos h2];exact⟨fun h=>(by cases h),fun h=>absurd h2 h.2⟩
   ·rw[if_neg h2];exact⟨fun _=>⟨h1,h2⟩,fun _=>rfl⟩
  ·rw[if_neg h1];exact⟨fun h=>(by cases h),fun h=>absurd h.1 h1⟩
 unfold dp
 rw[eV]
 constructor
 ·intro h
  refine⟨fun k hk=>?_,?_⟩
  ·obtain⟨i,hi,rfl⟩:=jx hk
   exact((key i hi).1 (h i hi)).1
  ·refine zk.2 (fun i j hi hj sj e=>?_)
   have si:i<od.length:=by simpa using hi
   have se:j<od.length:=by simpa using hj
   refine((key j se).1 (h j se)).2 ?_
   rw[zA]
   refine⟨i,by simp;omega,?_⟩
   rw[e];simp
 ·rintro⟨h1,h2⟩ i hi
  refine(key i hi).2 ⟨h1 _ (jf hi),fun h=>?_⟩
  rw[zA]at h
  obtain⟨j,hj,e⟩:=h
  have sh:j<i:=by omega
  have sg:j<(od.map Ky.var).length:=by simp;omega
  have:=zk.1 h2 j i sg (by simpa using hi) sh
  exact this (by rw[e];simp)
theorem g8{hd:List ByteArray}(h:dr hd=0):hd.Nodup:=by
 unfold dr at h
 split at h
 ·refine zk.2 (fun i j hi hj se e=>?_)
  have h1:=eV.1 h j hj
  have e1:hd.getD j ⟨#[]⟩=hd[j]:=by rw[jI,jl hj];rfl
  rw[e1]at h1
  split at h1
  ·split at h1
   ·cases h1
   ·rename_i h3
    refine h3 ?_
    rw[zA]
    exact⟨i,by omega,e⟩
  ·cases h1
 ·cases h
theorem order_vars(hd:List ByteArray)(od:List Ky):(aP hd od).map Ky.var=od.map Ky.var++hd.filter (fun v=>!decide (v∈od.map Ky.var)):=by
 unfold aP
 rw[jH,List.map_map]
 have:(Ky.var ∘ fun v=>(⟨v,false⟩:Ky))=id:=rfl
 rw[this,List.map_id]
theorem addR_mem{rows:List (List Vl)}{a x:List Vl}:x∈eR rows a↔x∈rows∨x=a:=by
 unfold eR
 by_cases h:fB rows (di a)=true
 ·rw[if_pos h]
  have h1:=iC.1 h
  exact⟨.inl,fun h2=>h2.elim id (fun e=>e ▸ h1)⟩
 ·rw[if_neg h,ju,jq]
theorem addR_nodup{rows:List (List Vl)}{a:List Vl}(hn:rows.Nodup):(eR rows a).Nodup:=by
 unfold eR
 by_cases h:fB rows (di a)=true
 ·rw[if_pos h]
  exact hn
 ·rw[if_neg h]
  refine zF.2 ⟨hn,by simp,fun x hx y hy e=>?_⟩
  rw[jq]at hy
  subst hy
  subst e
  exact h (iC.2 hx)
theorem oP{x:List Vl}:∀{l rows:List (List Vl)},x∈l.foldl eR rows↔x∈rows∨x∈l
 | [],rows=>by simp
 | a::l,rows=>by
  rw[zr,oP,addR_mem,jB]
  exact⟨fun h=>h.elim (fun h=>h.imp id .inl) (fun h=>.inr (.inr h)),fun h=>h.elim (fun h=>.inl (.inl h)) (fun h=>h.elim (fun h=>.inl (.inr h)) .inr)⟩
theorem mw:∀{l rows:List (List Vl)},rows.Nodup→(l.foldl eR rows).Nodup
 | [],_,h=>h
 | a::l,rows,h=>by
  rw[zr]
  exact mw (addR_nodup h)
theorem ix{cols:List Int}{se L:List (List Vl)}{x:List Vl}:x∈cB cols se L↔x∈se∨∃z∈L,x=be cols z:=by
 unfold cB
 rw[oP,jG]
 exact⟨fun h=>h.imp id (fun ⟨z,h1,h2⟩=>⟨z,h1,h2.symm⟩),fun h=>h.imp id (fun ⟨z,h1,h2⟩=>⟨z,h1,h2.symm⟩)⟩
theorem mj{cols:List Int}{se L:List (List Vl)}(h:se.Nodup):(cB cols se L).Nodup:=mw h
def cN(hd:List ByteArray)(od:List Ky):List (Int×Bool):=(d5 hd od).zip ((aP hd od).map Ky.desc)
theorem oM{a b:List Vl}:∀{keys:List (Int×Bool)},fy a b keys=0→∀p∈keys,qD a b p.1 p.2=0
 | [],_,p,hp=>by simp at hp
 | k::l,h,p,hp=>by
  unfold fy at h
  by_cases e:qD a b k.1 k.2=0
  ·rw[if_pos e]at h
   rcases jB.1 hp with rfl|hp
   ·exact e
   ·exact oM h p hp
  ·rw[if_neg e]at h
   exact absurd h e
theorem qD_zero{a b:List Vl}{c:Int}{d:Bool}(h:qD a b c d=0):a.getD c.toNat zv=b.getD c.toNat zv:=by
 unfold qD at h
 refine(pQ.eq _ _).1 ?_
 split at h
 ·omega
 ·exact h
theorem ph{hd:List ByteArray}{od:List Ky}(ho:dp hd od=0){s:ByteArray}:s∈(aP hd od).map Ky.var↔s∈hd:=by
 rw[order_vars,ju,jC]
 constructor
 ·rintro(h|h)
  ·obtain⟨k,hk,rfl⟩:=jG.1 h
   exact(orderE_iff.1 ho).1 k hk
  ·exact h.1
 ·intro h
  by_cases h1:s∈od.map Ky.var
  ·exact .inl h1
  ·exact .inr ⟨h,by simp[h1]⟩
theorem iA(hd:List ByteArray)(od:List Ky):(d5 hd od).length=(aP hd od).length:=by unfold d5 aC;rw[jk,jk]
theorem colsQ_in{hd:List ByteArray}{od:List Ky}(hn:hd.Nodup)(ho:dp hd od=0):∀x∈d5 hd od,0≤x∧x<(hd.length:Int):=fun x hx=>by
 unfold d5 aC at hx
 obtain⟨s,hs,rfl⟩:=jG.1 hx
 have h1:=(ph ho).1 hs
 rw[fC hn h1]
 have:=bR h1
 omega
theorem keys_eq{hd:List ByteArray}{od:List Ky}(hn:hd.Nodup)(ho:dp hd od=0){a b:List Vl}(ha:a.length=hd.length)(hb:b.length=hd.length)(h:fy a b (cN hd od)=0):a=b:=by
 refine zf (ha.trans hb.symm) (fun i h1 h2=>?_)
 have hi:i<hd.length:=by omega
 have hm:hd[i]∈(aP hd od).map Ky.var:=(ph ho).2 (jf hi)
 obtain⟨j,hj,e⟩:=jx hm
 have se:j<(aP hd od).length:=by simpa using hj
 have hk:j<(cN hd od).length:=by
  unfold cN
  rw[zu,iA,jk]
  omega
 have h3:=qD_zero (oM h _ (jf hk))
 have h4:((cN hd od)[j]).1=(i:Int):=by
  have h7:(cN hd od)[j]=((d5 hd od)[j]'(by rw[iA];exact se),((aP hd od).map Ky.desc)[j]'(by rw[jk];exact se)):=zB
  rw[h7]
  have h8:(d5 hd od)[j]'(by rw[iA];exact se)=bW hd ((aP hd od).map Ky.var)[j]:=jy _
  show (d5 hd od)[j]'(by rw[iA];exact se)=_
  rw[h8,e,fC hn (jf hi)]
  have h5:=lT (jf hi)
  have h6:=lQ hn (bR (jf hi)) hi h5
  omega
 rw[h4,jL,bA h1,bA h2]at h3
 exact h3
theorem mZ{hd:List ByteArray}{od:List Ky}(hn:hd.Nodup)(ho:dp hd od=0):∀{l:List (List Vl)},lD (cN hd od) l→l.Nodup→(∀x∈l,x.length=hd.length)→l.Pairwise (fun a b=>fy a b (cN hd od)<0)
 | [],_,_,_=>List.Pairwise.nil
 | a::l,h1,h2,h3=>by
  unfold lD at h1
  rw[zL]at h1 ⊢
  rw[List.nodup_cons]at h2
  refine⟨fun b hb=>?_,mZ hn ho h1.2 h2.2 (fun x hx=>h3 x (js _ hx))⟩
  have h4:=h1.1 b hb
  by_cases e:fy a b (cN hd od)=0
  ·have:=keys_eq hn ho (h3 a (by simp)) (h3 b (js _ hb)) e
   exact absurd (this ▸ hb) h2.1
  ·omega
structure iP(M:Dm)(q:Qy)(R:List (List Vl)):Prop where
 mem:∀x,x∈R↔ansP M q x
 asc:R.Pairwise (fun a b=>fy a b (cN q.hd q.od)<0)
theorem iP.uniq{M:Dm}{q q':Qy}{R R':List (List Vl)}(h:iP M q R)(h':iP M q' R')(e1:q.hd=q'.hd)(e2:q.od=q'.od)(e3:∀x,ansP M q x↔ansP M q' x):R=R':=by
 refine i8 (c:=fun a b=>fy a b (cN q.hd q.od)) (fun a=>?_) (fun a b d h1 h2=>?_) h.asc (by rw[e1,e2];exact h'.asc) (fun x=>by rw[h.mem,e3,←h'.mem])
 ·have:=(cQ (cN q.hd q.od)).self a
  omega
 ·exact(cQ (cN q.hd q.od)).lt_le h1 (by omega)
end Go.Proofs.YtplldnnnhgnbjaaGreatDoor
namespace Go.Proofs.YtplldnnnhgnbjaaGreatDoor
open Go.RowKit Go.Maps
def aK(n:Nat):Code→Option Code
 | .region i ops b=>if i=n then some (.region i ops b) else none
 | .seq a b=>match aK n a with
  | some c=>some c
  | none=>aK n b
 | .cond _ a b=>match aK n a with
  | some c=>some c
  | none=>aK n b
 | .block _ c=>aK n c
 | .scope c=>aK n c
 | .loop c=>aK n c
 | _=>none
theorem cR{P:Program}{c:Code}{K:Act→World→Prop}{Q:Exit→Act→World→Prop}{a:Act}{w:World}(h:c.wp P (Exit.then K (fun _ _ _=>False)) a w):c.wp P (Exit.then K Q) a w :=
 wp_mono h (fun e _ _ hq=>by cases e <;> first|exact hq|exact False.elim hq)
theorem cS{P:Program}{c:Code}{Q:Exit→Act→World→Prop}{a:Act}{w:World}(h:∀K:Act→World→Prop,(∀a' w',K a' w'=Q .normal a' w')→c.wp P (Exit.then K Q) a w):c.wp P Q a w:=by
 refine wp_mono (h (Q .normal) (fun _ _=>rfl)) (fun e _ _ hq=>?_)
 cases e <;> exact hq
section
variable {P:Program} {md:Region.Mode} {ops:Array Oper} {Q:Exit→Act→World→Prop}
theorem cD{S:World→Prop}{I:Nat→Array Bool→Act→World→Prop}(hS:∀n l a w,I n l a w→S w)(h0:∀l a w,I 0 l a w→Region.ready md ops l=[]∧Q .normal a w)(h1:∀n l a w,I (n+1) l a w→(Region.ready md ops l=[]→Q .normal a w)∧∀i∈Region.ready md ops l,wpOp P ops Q i (I n (l.setIfInBounds i true)) a w):∀(n:Nat) (l:Array Bool) (a:Act) (w:World),I n l a w→wpAnyH P md ops Q S n l a w
 | 0,l,a,w,h=>h0 l a w h
 | n+1,l,a,w,h=>⟨(h1 n l a w h).1,fun i hi=>wpOp_mono (fun a' w' h'=>⟨hS _ _ _ _ h',cD hS h0 h1 n _ a' w' h'⟩) ((h1 n l a w h).2 i hi)⟩
theorem ab{J:Nat→Act→World→Prop}{l:Array Bool}{rs:List Nat}{a:Act}{w:World}(hr:Region.ready md ops l=rs)(se:rs≠[])(h:∀i∈rs,wpOp P ops Q i (J i) a w):(Region.ready md ops l=[]→Q .normal a w)∧∀i∈Region.ready md ops l,wpOp P ops Q i (J i) a w :=
 ⟨fun e=>absurd (hr.symm.trans e) se,hr ▸ h⟩
theorem aa{J:Nat→Act→World→Prop}{a:Act}{w:World}{i:Nat}{o:Oper}{rs:List Nat}(ho:ops[i]?=some o)(h:∀K':Act→World→Prop,Shut (∀a w,J i a w→K' a w)→if Region.wanted o (yielded ops a.tmps)=true then Oper.wp P o a w K' Q else K' (a.put o.dst undef) w)(hs:∀j∈rs,wpOp P ops Q j (J j) a w):∀j∈i::rs,wpOp P ops Q j (J j) a w:=fun j hj=>by
 rcases jB.1 hj with rfl|hj
 ·exact wpOp_step ho (fun K' hK=>h K' hK)
 ·exact hs j hj
theorem ah{J:Nat→Act→World→Prop}{a:Act}{w:World}:∀j∈([]:List Nat),wpOp P ops Q j (J j) a w:=fun j hj=>by cases hj
end
noncomputable def cmpRg:Code:=((Tryz.f54.body.bind (aK 1)).getD .skip)
structure dZ(w1:World)(ol:List Ky)(cq:List Int)(p:Nat)(a b:Bool)(t3 t4 t6 t8:Value)(W:World):Prop where
 ext:Ext w1 W
 ky : 1≤p→∃B,w1.heap.size≤B∧W.ownsRow B 208 2 t6 ol.length (cL ol)
 cl : 2≤p→∃B,w1.heap.size≤B∧W.ownsRow B 3 1 t8 cq.length (cq.map I64)
 bk:a=true→∃g,t3=.pointer (some ⟨g,0,none⟩)∧w1.heap.size≤g∧Bk W g 26 [if 3≤p then t6 else .slice none 0 0]
 bc:b=true→∃g,t4=.pointer (some ⟨g,0,none⟩)∧w1.heap.size≤g∧Bk W g 63 [if 4≤p then t8 else .slice none 0 0]
section
variable {w1 W W':World} {ol:List Ky} {cq:List Int} {p:Nat} {a b:Bool} {t3 t4 t6 t8 v:Value} {o:Obj}
theorem dZ.more(h:dZ w1 ol cq p a b t3 t4 t6 t8 W)(he:Ext W W'):dZ w1 ol cq p a b t3 t4 t6 t8 W' :=
 ⟨h.ext.trans he,fun k=>let ⟨B,h1,h2⟩:=h.ky k;⟨B,h1,aD h2 he⟩,fun k=>let ⟨B,h1,h2⟩:=h.cl k;⟨B,h1,aD h2 he⟩,fun k=>let ⟨g,h1,h2,h3⟩:=h.bk k;⟨g,h1,h2,h3.ext he⟩,fun k=>let ⟨g,h1,h2,h3⟩:=h.bc k;⟨g,h1,h2,h3.ext he⟩⟩
theorem dZ.boxK(h:dZ w1 ol cq p false b t3 t4 t6 t8 W)(hp:p≤2):dZ w1 ol cq p true b (.pointer (some ⟨W.heap.size,0,none⟩)) t4 t6 t8 (W.alloc (.cells #[.slice none 0 0] 26)):=by
 have h2:=h.more ((Ext.refl W).alloc (.cells #[.slice none 0 0] 26))
 exact⟨h2.ext,h2.ky,h2.cl,fun _=>⟨_,rfl,h.ext.size,by rw[if_neg (by omega)];exact Bk.new W _ _⟩,h2.bc⟩
theorem dZ.boxC(h:dZ w1 ol cq p a false t3 t4 t6 t8 W)(hp:p≤2):dZ w1 ol cq p a true t3 (.pointer (some ⟨W.heap.size,0,none⟩)) t6 t8 (W.alloc (.cells #[.slice none 0 0] 63)):=by
 have h2:=h.more ((Ext.refl W).alloc (.cells #[.slice none 0 0] 63))
 exact⟨h2.ext,h2.ky,h2.cl,h2.bk,fun _=>⟨_,rfl,h.ext.size,by rw[if_neg (by omega)];exact Bk.new W _ _⟩⟩
theorem dZ.call1(h:dZ w1 ol cq 0 a b t3 t4 t6 t8 W)(he:Ext W W')(hv:W'.ownsRow W.heap.size 208 2 v ol.length (cL ol)):dZ w1 ol cq 1 a b t3 t4 v t8 W':=by
 have h2:=h.more he
 exact⟨h2.ext,fun _=>⟨_,h.ext.size,hv⟩,fun k=>by omega,fun k=>h2.bk k,fun k=>h2.bc k⟩
theorem dZ.call2{B:Nat}(h:dZ w1 ol cq 1 a b t3 t4 t6 t8 W)(he:Ext W W')(hB:W.heap.size≤B)(hv:W'.ownsRow B 3 1 v cq.length (cq.map I64)):dZ w1 ol cq 2 a b t3 t4 t6 v W':=by
 have h2:=h.more he
 exact⟨h2.ext,fun _=>h2.ky (by omega),fun _=>⟨_,jr h.ext.size hB,hv⟩,fun k=>h2.bk k,fun k=>h2.bc k⟩
theorem dZ.store1{g:Nat}(h:dZ w1 ol cq 2 true true (.pointer (some ⟨g,0,none⟩)) t4 t6 t8 W):dZ w1 ol cq 3 true true (.pointer (some ⟨g,0,none⟩)) t4 t6 t8 (W.setCell ⟨g,0,none⟩ t6):=by
 have hf:Fr (fun k=>k=g) W (W.setCell ⟨g,0,none⟩ t6):=(Fr.refl (fun k=>k=g) W).setCell (p:=⟨g,0,none⟩) (.inl rfl) t6
 obtain⟨g',e,hg,hb⟩:=h.bk rfl
 injection e with e
 injection e with e
 injection e with e
 subst e
 obtain⟨gc,ec,sg,se⟩:=h.bc rfl
 obtain⟨B1,k1,k2⟩:=h.ky (by omega)
 obtain⟨B2,k3,k4⟩:=h.cl (by omega)
 refine⟨hf.new h.ext (fun q hq=>by omega),fun _=>⟨B1,k1,bo k2 hf (fun k hk=>aQ k2 hb (by decide) hk)⟩,fun _=>⟨B2,k3,bo k4 hf (fun k hk=>aQ k4 hb (by decide) hk)⟩,fun _=>⟨g,rfl,hg,?_⟩,fun _=>⟨gc,ec,sg,se.fr hf (se.ne hb (by decide))⟩⟩
 rw[if_pos (by omega)]
 exact hb.set 0 t6
theorem dZ.store2{g:Nat}(h:dZ w1 ol cq 3 true true t3 (.pointer (some ⟨g,0,none⟩)) t6 t8 W):dZ w1 ol cq 4 true true t3 (.pointer (some ⟨g,0,none⟩)) t6 t8 (W.setCell ⟨g,0,none⟩ t8):=by
 have hf:Fr (fun k=>k=g) W (W.setCell ⟨g,0,none⟩ t8):=(Fr.refl (fun k=>k=g) W).setCell (p:=⟨g,0,none⟩) (.inl rfl) t8
 obtain⟨g',e,hg,hb⟩:=h.bc rfl
 injection e with e
 injection e with e
 injection e with e
 subst e
 obtain⟨gc,ec,sg,se⟩:=h.bk rfl
 obtain⟨B1,k1,k2⟩:=h.ky (by omega)
 obtain⟨B2,k3,k4⟩:=h.cl (by omega)
 refine⟨hf.new h.ext (fun q hq=>by omega),fun _=>⟨B1,k1,bo k2 hf (fun k hk=>aQ k2 hb (by decide) hk)⟩,fun _=>⟨B2,k3,bo k4 hf (fun k hk=>aQ k4 hb (by decide) hk)⟩,fun _=>⟨gc,ec,sg,?_⟩,fun _=>⟨g,rfl,hg,?_⟩⟩
 ·rw[if_pos (by omega)]at se ⊢
  exact se.fr hf (se.ne hb (by decide))
 ·rw[if_pos (by omega)]
  exact hb.set 0 t8
end
def lC(p:Nat)(a b:Bool):Array Bool:=#[true,decide (1≤p),true,decide (2≤p),a,b,decide (3≤p),decide (4≤p)]
def CmpJ(w1:World)(ol:List Ky)(cq:List Int)(F:Value→Value→Value→Value→Act)(n:Nat)(l:Array Bool)(act:Act)(W:World):Prop :=
 ∃p a b t3 t4 t6 t8,n+p+a.toNat+b.toNat=6∧p≤4∧(3≤p→a=true∧b=true)∧l=lC p a b∧act=F t3 t4 t6 t8∧dZ w1 ol cq p a b t3 t4 t6 t8 W
theorem cmp_reg{K:Act→World→Prop}{Q:Exit→Act→World→Prop}{w1:World}{g0:Nat}{c0 c1 c2 c3 c4 u0 u2 u3 u4 u5 u6 u7 u8 u9:Value}{ol:List Ky}{cq:List Int}(b0:w1.cell? ⟨g0,0,none⟩=some c0)(b1:w1.cell? ⟨g0,1,none⟩=some c1)(b2:w1.cell? ⟨g0,2,none⟩=some c2)(b3:w1.cell? ⟨g0,3,none⟩=some c3)(b4:w1.cell? ⟨g0,4,none⟩=some c4)(sj:Hid (∀V,Ext w1 V→Calls Tryz.prog 124 #[.agg #[c0,c1,c2,c3,c4]] V (Ret (fun x w'=>w'.ownsRow V.heap.size 208 2 x ol.length (cL ol)) V)))(si:Hid (∀V,Ext w1 V→Calls Tryz.prog 125 #[.agg #[c0,c1,c2,c3,c4]] V (Ret (fun x w'=>∃b,V.heap.size≤b∧w'.ownsRow b 3 1 x cq.length (cq.map I64)) V)))(hK:∀t3 t4 t6 t8 W,dZ w1 ol cq 4 true true t3 t4 t6 t8 W→K ⟨#[u0,.pointer (some ⟨g0,0,none⟩),u2,t3,t4,.agg #[c0,c1,c2,c3,c4],t6,.agg #[c0,c1,c2,c3,c4],t8,u9],[]⟩ W) :
  Code.wp Tryz.prog cmpRg (Exit.then K Q) ⟨#[u0,.pointer (some ⟨g0,0,none⟩),u2,u3,u4,u5,u6,u7,u8,u9],[]⟩ w1:=by
 have HK:=zN hK
 clear hK
 conv=>arg 2;whnf
 refine cR ?_
 refine wp_region_held_drew (S:=fun V=>Ext w1 V) (by kernel_rfl) (Ext.refl w1).drew (fun sg=>?_)
 refine wpAnyH_take (i:=0) (oi:=?ox1) (v:=.agg #[c0,c1,c2,c3,c4]) ?hx1 (by kernel_rfl) (by kernel_rfl) (by kernel_rfl) (fun _ _ _ h=>h) (Or.inl ⟨?wx1,?yx1⟩) sg ?rx1
 case hx1=>simp only[jd,jb,jc];rfl
 case wx1=>rfl
 case yx1 =>
  intro V se
  have q0:=Ext.cell se b0;have q1:=Ext.cell se b1;have q2:=Ext.cell se b2;have q3:=Ext.cell se b3;have q4:=Ext.cell se b4
  simp[go_sem,q0,q1,q2,q3,q4] <;> with_reducible rfl
 (try simp only[Act.put,jg,jh,ji])
 refine wpAnyH_take (i:=2) (oi:=?ox2) (v:=.agg #[c0,c1,c2,c3,c4]) ?hx2 (by kernel_rfl) (by kernel_rfl) (by kernel_rfl) (fun _ _ _ h=>h) (Or.inl ⟨?wx2,?yx2⟩) sg ?rx2
 case hx2=>simp only[jd,jb,jc];rfl
 case wx2=>rfl
 case yx2 =>
  intro V se
  have q0:=Ext.cell se b0;have q1:=Ext.cell se b1;have q2:=Ext.cell se b2;have q3:=Ext.cell se b3;have q4:=Ext.cell se b4
  simp[go_sem,q0,q1,q2,q3,q4] <;> with_reducible rfl
 (try simp only[Act.put,jg,jh,ji])
 clear b0 b1 b2 b3 b4
 refine cD (I:=CmpJ w1 ol cq (fun t3 t4 t6 t8=>⟨#[u0,.pointer (some ⟨g0,0,none⟩),u2,t3,t4,.agg #[c0,c1,c2,c3,c4],t6,.agg #[c0,c1,c2,c3,c4],t8,u9],[]⟩)) ?hS ?h0 ?h1 _ _ _ _ ?st
 case hS =>
  rintro n l a w ⟨p,a,b,t3,t4,t6,t8,-,-,-,-,-,h⟩
  exact h.ext
 case st=>exact⟨0,false,false,u3,u4,u6,u8,rfl,by omega,fun h=>by omega,rfl,rfl,⟨(Ext.refl w1).drew,fun h=>by omega,fun h=>by omega,(fun h=>by cases h),(fun h=>by cases h)⟩⟩
 case h0 =>
  rintro l sp W ⟨p,a,b,t3,t4,t6,t8,hn,hp,sh,rfl,rfl,h⟩
  obtain⟨rfl,rfl,rfl⟩:p=4∧a=true∧b=true:=by
   cases a <;> cases b <;> simp at hn sh ⊢ <;> omega
  refine⟨by kernel_rfl,?_⟩
  exact HK.out _ _ _ _ _ h
 case h1 =>
  rintro n l sp W ⟨p,a,b,t3,t4,t6,t8,hn,hp,sh,rfl,rfl,h⟩
  obtain rfl|rfl|rfl|rfl|rfl:p=0∨p=1∨p=2∨p=3∨p=4:=by omega
  ·rcases a with _|_ <;> rcases b with _|_
   ·refine ab (rs:=[1,4,5]) (by kernel_rfl) (by simp) ?_
    refine aa (o:=?ow2) ?ho2 (fun K hK=>?c2) ?d2
    case ho2=>simp only[jd,jb,jc];rfl
    case c2 =>
     go_simp
     go_at_call 124
     (with_reducible refine(sj.out _ h.ext).mono ?_)
     rintro e W2 ⟨v,rfl,he,hv⟩
     (try simp only[Act.put,jg,jh,ji])
     exact hK.out _ _ ⟨1,false,false,t3,t4,v,t8,by simp at hn ⊢;omega,by omega,fun h=>by omega,rfl,rfl,h.call1 he hv⟩
    refine aa (o:=?ow11) ?ho11 (fun K hK=>?c11) ?d11
    case ho11=>simp only[jd,jb,jc];rfl
    case c11 =>
     go_simp
     exact hK.out _ _ ⟨0,true,false,_,t4,t6,t8,by simp at hn ⊢;omega,by omega,fun h=>by omega,rfl,rfl,h.boxK (by omega)⟩
    refine aa (o:=?ow16) ?ho16 (fun K hK=>?c16) ?d16
    case ho16=>simp only[jd,jb,jc];rfl
    case c16 =>
     go_simp
     exact hK.out _ _ ⟨0,false,true,t3,_,t6,t8,by simp at hn ⊢;omega,by omega,fun h=>by omega,rfl,rfl,h.boxC (by omega)⟩
    exact ah
   ·refine ab (rs:=[1,4]) (by kernel_rfl) (by simp) ?_
    refine aa (o:=?ow23) ?ho23 (fun K hK=>?c23) ?d23
    case ho23=>simp only[jd,jb,jc];rfl
    case c23 =>
     go_simp
     go_at_call 124
     (with_reducible refine(sj.out _ h.ext).mono ?_)
     rintro e W2 ⟨v,rfl,he,hv⟩
     (try simp only[Act.put,jg,jh,ji])
     exact hK.out _ _ ⟨1,false,true,t3,t4,v,t8,by simp at hn ⊢;omega,by omega,fun h=>by omega,rfl,rfl,h.call1 he hv⟩
    refine aa (o:=?ow32) ?ho32 (fun K hK=>?c32) ?d32
    case ho32=>simp only[jd,jb,jc];rfl
    case c32 =>
     go_simp
     exact hK.out _ _ ⟨0,true,true,_,t4,t6,t8,by simp at hn ⊢;omega,by omega,fun h=>by omega,rfl,rfl,h.boxK (by omega)⟩
    exact ah
   ·refine ab (rs:=[1,5]) (by kernel_rfl) (by simp) ?_
    refine aa (o:=?ow39) ?ho39 (fun K hK=>?c39) ?d39
    case ho39=>simp only[jd,jb,jc];rfl
    case c39 =>
     go_simp
     go_at_call 124
     (with_reducible refine(sj.out _ h.ext).mono ?_)
     rintro e W2 ⟨v,rfl,he,hv⟩
     (try simp only[Act.put,jg,jh,ji])
     exact hK.out _ _ ⟨1,true,false,t3,t4,v,t8,by simp at hn ⊢;omega,by omega,fun h=>by omega,rfl,rfl,h.call1 he hv⟩
    refine aa (o:=?ow48) ?ho48 (fun K hK=>?c48) ?d48
    case ho48=>simp only[jd,jb,jc];rfl
    case c48 =>
     go_simp
     exact hK.out _ _ ⟨0,true,true,t3,_,t6,t8,by simp at hn ⊢;omega,by omega,fun h=>by omega,rfl,rfl,h.boxC (by omega)⟩
    exact ah
   ·refine ab (rs:=[1]) (by kernel_rfl) (by simp) ?_
    refine aa (o:=?ow55) ?ho55 (fun K hK=>?c55) ?d55
    case ho55=>simp only[jd,jb,jc];rfl
    case c55 =>
     go_simp
     go_at_call 124
     (with_reducible refine(sj.out _ h.ext).mono ?_)
     rintro e W2 ⟨v,rfl,he,hv⟩
     (try simp only[Act.put,jg,jh,ji])
     exact hK.out _ _ ⟨1,true,true,t3,t4,v,t8,by simp at hn ⊢;omega,by omega,fun h=>by omega,rfl,rfl,h.call1 he hv⟩
    exact ah
  ·rcases a with _|_ <;> rcases b with _|_
   ·refine ab (rs:=[3,4,5]) (by kernel_rfl) (by simp) ?_
    refine aa (o:=?ow67) ?ho67 (fun K hK=>?c67) ?d67
    case ho67=>simp only[jd,jb,jc];rfl
    case c67 =>
     go_simp
     go_at_call 125
     (with_reducible refine(si.out _ h.ext).mono ?_)
     rintro e W2 ⟨v,rfl,he,B,hB,hv⟩
     (try simp only[Act.put,jg,jh,ji])
     exact hK.out _ _ ⟨2,false,false,t3,t4,t6,v,by simp at hn ⊢;omega,by omega,fun h=>by omega,rfl,rfl,h.call2 he hB hv⟩
    refine aa (o:=?ow76) ?ho76 (fun K hK=>?c76) ?d76
    case ho76=>simp only[jd,jb,jc];rfl
    case c76 =>
     go_simp
     exact hK.out _ _ ⟨1,true,false,_,t4,t6,t8,by simp at hn ⊢;omega,by omega,fun h=>by omega,rfl,rfl,h.boxK (by omega)⟩
    refine aa (o:=?ow81) ?ho81 (fun K hK=>?c81) ?d81
    case ho81=>simp only[jd,jb,jc];rfl
    case c81 =>
     go_simp
     exact hK.out _ _ ⟨1,false,true,t3,_,t6,t8,by simp at hn ⊢;omega,by omega,fun h=>by omega,rfl,rfl,h.boxC (by omega)⟩
    exact ah
   ·refine ab (rs:=[3,4]) (by kernel_rfl) (by simp) ?_
    refine aa (o:=?ow88) ?ho88 (fun K hK=>?c88) ?d88
    case ho88=>simp only[jd,jb,jc];rfl
    case c88 =>
     go_simp
     go_at_call 125
     (with_reducible refine(si.out _ h.ext).mono ?_)
     rintro e W2 ⟨v,rfl,he,B,hB,hv⟩
     (try simp only[Act.put,jg,jh,ji])
     exact hK.out _ _ ⟨2,false,true,t3,t4,t6,v,by simp at hn ⊢;omega,by omega,fun h=>by omega,rfl,rfl,h.call2 he hB hv⟩
    refine aa (o:=?ow97) ?ho97 (fun K hK=>?c97) ?d97
    case ho97=>simp only[jd,jb,jc];rfl
    case c97 =>
     go_simp
     exact hK.out _ _ ⟨1,true,true,_,t4,t6,t8,by simp at hn ⊢;omega,by omega,fun h=>by omega,rfl,rfl,h.boxK (by omega)⟩
    exact ah
   ·refine ab (rs:=[3,5]) (by kernel_rfl) (by simp) ?_
    refine aa (o:=?ow104) ?ho104 (fun K hK=>?c104) ?d104
    case ho104=>simp only[jd,jb,jc];rfl
    case c104 =>
     go_simp
     go_at_call 125
     (with_reducible refine(si.out _ h.ext).mono ?_)
     rintro e W2 ⟨v,rfl,he,B,hB,hv⟩
     (try simp only[Act.put,jg,jh,ji])
     exact hK.out _ _ ⟨2,true,false,t3,t4,t6,v,by simp at hn ⊢;omega,by omega,fun h=>by omega,rfl,rfl,h.call2 he hB hv⟩
    refine aa (o:=?ow113) ?ho113 (fun K hK=>?c113) ?d113
    case ho113=>simp only[jd,jb,jc];rfl
    case c113 =>
     go_simp
     exact hK.out _ _ ⟨1,true,true,t3,_,t6,t8,by simp at hn ⊢;omega,by omega,fun h=>by omega,rfl,rfl,h.boxC (by omega)⟩
    exact ah
   ·refine ab (rs:=[3]) (by kernel_rfl) (by simp) ?_
    refine aa (o:=?ow120) ?ho120 (fun K hK=>?c120) ?d120
    case ho120=>simp only[jd,jb,jc];rfl
    case c120 =>
     go_simp
     go_at_call 125
     (with_reducible refine(si.out _ h.ext).mono ?_)
     rintro e W2 ⟨v,rfl,he,B,hB,hv⟩
     (try simp only[Act.put,jg,jh,ji])
     exact hK.out _ _ ⟨2,true,true,t3,t4,t6,v,by simp at hn ⊢;omega,by omega,fun h=>by omega,rfl,rfl,h.call2 he hB hv⟩
    exact ah
  ·rcases a with _|_ <;> rcases b with _|_
   ·refine ab (rs:=[4,5]) (by kernel_rfl) (by simp) ?_
    refine aa (o:=?ow132) ?ho132 (fun K hK=>?c132) ?d132
    case ho132=>simp only[jd,jb,jc];rfl
    case c132 =>
     go_simp
     exact hK.out _ _ ⟨2,true,false,_,t4,t6,t8,by simp at hn ⊢;omega,by omega,fun h=>by omega,rfl,rfl,h.boxK (by omega)⟩
    refine aa (o:=?ow137) ?ho137 (fun K hK=>?c137) ?d137
    case ho137=>simp only[jd,jb,jc];rfl
    case c137 =>
     go_simp
     exact hK.out _ _ ⟨2,false,true,t3,_,t6,t8,by simp at hn ⊢;omega,by omega,fun h=>by omega,rfl,rfl,h.boxC (by omega)⟩
    exact ah
   ·refine ab (rs:=[4]) (by kernel_rfl) (by simp) ?_
    refine aa (o:=?ow144) ?ho144 (fun K hK=>?c144) ?d144
    case ho144=>simp only[jd,jb,jc];rfl
    case c144 =>
     go_simp
     exact hK.out _ _ ⟨2,true,true,_,t4,t6,t8,by simp at hn ⊢;omega,by omega,fun h=>by omega,rfl,rfl,h.boxK (by omega)⟩
    exact ah
   ·refine ab (rs:=[5]) (by kernel_rfl) (by simp) ?_
    refine aa (o:=?ow151) ?ho151 (fun K hK=>?c151) ?d151
    case ho151=>simp only[jd,jb,jc];rfl
    case c151 =>
     go_simp
     exact hK.out _ _ ⟨2,true,true,t3,_,t6,t8,by simp at hn ⊢;omega,by omega,fun h=>by omega,rfl,rfl,h.boxC (by omega)⟩
    exact ah
   ·refine ab (rs:=[6]) (by kernel_rfl) (by simp) ?_
    refine aa (o:=?ow158) ?ho158 (fun K hK=>?c158) ?d158
    case ho158=>simp only[jd,jb,jc];rfl
    case c158 =>
     obtain⟨B6,-,kO⟩:=h.ky (by omega)
     obtain⟨A6,c6,rfl⟩:=af kO
     clear kO
     obtain⟨g,rfl,hg,hb⟩:=h.bk rfl
     have k0:=hb.c0;have k1:=hb.free 0
     clear hb
     go_simp
     exact hK.out _ _ ⟨3,true,true,_,t4,_,t8,by simp at hn ⊢;omega,by omega,fun _=>⟨rfl,rfl⟩,rfl,rfl,h.store1⟩
    exact ah
  ·rcases a with _|_ <;> rcases b with _|_
   ·exact absurd (sh (by omega)) (by simp)
   ·exact absurd (sh (by omega)) (by simp)
   ·exact absurd (sh (by omega)) (by simp)
   ·refine ab (rs:=[7]) (by kernel_rfl) (by simp) ?_
    refine aa (o:=?ow176) ?ho176 (fun K hK=>?c176) ?d176
    case ho176=>simp only[jd,jb,jc];rfl
    case c176 =>
     obtain⟨B6,-,kO⟩:=h.cl (by omega)
     obtain⟨A6,c6,rfl⟩:=af kO
     clear kO
     obtain⟨g,rfl,hg,hb⟩:=h.bc rfl
     have k0:=hb.c0;have k1:=hb.free 0
     clear hb
     go_simp
     exact hK.out _ _ ⟨4,true,true,t3,_,t6,_,by simp at hn ⊢;omega,by omega,fun _=>⟨rfl,rfl⟩,rfl,rfl,h.store2⟩
    exact ah
  ·rcases a with _|_ <;> rcases b with _|_
   ·exact absurd (sh (by omega)) (by simp)
   ·exact absurd (sh (by omega)) (by simp)
   ·exact absurd (sh (by omega)) (by simp)
   ·exact absurd hn (by simp)
def dm(hd:List ByteArray)(od:List Ky)(w:World)(e:Ending)(w':World):Prop :=
 Ext w w'∧∃gC gK C D c3 c4,e=.returned (.func (.func 126) #[] #[.pointer (some ⟨gC,0,none⟩),.pointer (some ⟨gK,0,none⟩)])∧w.heap.size≤gC∧w.heap.size≤gK∧Bk w' gC 63 [.slice C (aP hd od).length c3]∧Bk w' gK 26 [.slice D (aP hd od).length c4]∧Ins (fun k=>w.heap.size≤k) w' (.slice C (aP hd od).length c3) (d5 hd od)∧Sl iO (fun k=>w.heap.size≤k) w' (.slice D (aP hd od).length c4) (aP hd od)
theorem dZ.post{w w1 W:World}{hd:List ByteArray}{od:List Ky}{t3 t4 t6 t8:Value}(hx:Ext w w1)(h:dZ w1 (aP hd od) (d5 hd od) 4 true true t3 t4 t6 t8 W):dm hd od w (.returned (.func (.func 126) #[] #[t4,t3])) W:=by
 have se:(d5 hd od).length=(aP hd od).length:=by unfold d5 aC;rw[jk,jk]
 obtain⟨gK,rfl,k1,k2⟩:=h.bk rfl
 obtain⟨gC,rfl,k3,k4⟩:=h.bc rfl
 obtain⟨B6,k5,k6⟩:=h.ky (by omega)
 obtain⟨B8,k7,k8⟩:=h.cl (by omega)
 obtain⟨D,c4,rfl⟩:=af k6
 obtain⟨C,c3,rfl⟩:=af k8
 rw[if_pos (by omega)]at k2 k4
 have hs:=hx.size
 refine⟨hx.trans h.ext,gC,gK,C,D,c3,c4,rfl,by omega,by omega,?_,k2,?_,?_⟩
 ·rw[se]at k4
  exact k4
 ·have h9:=(Ins.of_own k8).mono (G:=fun k=>w.heap.size≤k) (fun k _ hk=>by have:=hk.2;omega)
  rw[se]at h9
  exact h9
 ·exact(ky_of k6 rfl).mono (by decide) (fun k _ hk=>by omega)
theorem gW{F:Nat→Prop}{w:World}{A B O:Option Addr}{ca cb co nb:Nat}{ag:Int}{av:ByteArray}{hd:List ByteArray}{od:List Ky}(hH:Strs F w (.slice A hd.length ca) hd)(hO:Sl iO F w (.slice O od.length co) od)(sg:∀s∈hd,s.size≤maxLen)(sh:∀k∈od,k.var.size≤maxLen)(sj:hd.length≤100000)(sp:od.length≤100000) :
  Calls Tryz.prog 54 #[.agg #[.slice A hd.length ca,.int .i64 ag,.string av,.slice B nb cb,.slice O od.length co]] w (dm hd od w):=by
 have hx:Ext w (w.alloc (.cells #[.slice A hd.length ca,.int .i64 ag,.string av,.slice B nb cb,.slice O od.length co] 28)):=(Ext.refl w).alloc _
 have kb:=Bk.new w 28 [.slice A hd.length ca,.int .i64 ag,.string av,.slice B nb cb,.slice O od.length co]
 change Bk (w.alloc (.cells #[.slice A hd.length ca,.int .i64 ag,.string av,.slice B nb cb,.slice O od.length co] 28)) _ _ _ at kb
 have b0:=kb.c0;have b1:=kb.c1;have b2:=kb.c2;have b3:=kb.c3;have b4:=kb.c4
 have sr:=zN (fun (V:World) (hV:Ext (w.alloc (.cells #[.slice A hd.length ca,.int .i64 ag,.string av,.slice B nb cb,.slice O od.length co] 28)) V)=>pg (ca:=ca) (cb:=cb) (co:=co) (nb:=nb) (ag:=ag) (av:=av) (B:=B) (hH.ext (hx.trans hV)) (hO.ext (hx.trans hV)) sg sh (by omega) (by omega))
 have sq:=zN (fun (V:World) (hV:Ext (w.alloc (.cells #[.slice A hd.length ca,.int .i64 ag,.string av,.slice B nb cb,.slice O od.length co] 28)) V)=>colsq_any (ca:=ca) (cb:=cb) (co:=co) (nb:=nb) (ag:=ag) (av:=av) (B:=B) (hH.ext (hx.trans hV)) (hO.ext (hx.trans hV)) sg sh sj sp)
 have HX:=zN hx
 obtain⟨PP,se⟩:=sd (dm hd od w)
 have su:=zN se
 rw[←se]
 clear hH hO sg sh sj sp kb hx se
 go_enter Tryz.func54,Tryz.ntmps54
 go_upto_region 1 with fail
 refine cS ?_
 intro KK si
 refine cmp_reg b0 b1 b2 b3 b4 sr sq ?_
 intro t3 t4 t6 t8 W hC
 have HQ:Hid (PP (.returned (.func (.func 126) #[] #[t4,t3])) W):=zN (by rw[su.out];exact hC.post HX.out)
 clear hC b0 b1 b2 b3 b4
 rw[si]
 clear si
 go_wp2_with fail
 exact HQ.out
end Go.Proofs.YtplldnnnhgnbjaaGreatDoor
