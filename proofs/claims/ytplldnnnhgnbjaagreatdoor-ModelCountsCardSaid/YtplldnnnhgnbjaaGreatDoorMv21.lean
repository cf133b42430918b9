/- packed -/
import Derived.Test.YtplldnnnhgnbjaaGreatDoorMv18
import Derived.Test.YtplldnnnhgnbjaaGreatDoorMv19
import Derived.Test.YtplldnnnhgnbjaaGreatDoorMv20
set_option maxRecDepth 20000
set_option maxHeartbeats 3200000
namespace Go.Proofs.YtplldnnnhgnbjaaGreatDoor
open Go.RowKit Go.Maps
def numF(vars:List ByteArray):ByteArray→Option Value:=fun s=>if s=⟨#[]⟩ then some (.int .i64 (-1)) else if s∈vars then some (.int .i64 (posN vars s:Int)) else none
theorem lk(vars:List ByteArray)(s:ByteArray):(numF vars s).getD (.int .i64 0)=.int .i64 (dl vars s):=by
 unfold numF dl
 split
 ·rfl
 ·split <;> rfl
abbrev dw (l:List Nat):List Int:=l.map (fun k:Nat=>(k:Int))
def nQ:Rdg (List Cd) where
 sz:=1
 R:=fun F w cs x=>∃u,cs=[u]∧Sl eL F w u x
 len:=fun ⟨_,e,_⟩=>by rw[e];rfl
 fr:=fun ⟨u,e,h⟩ hf hs=>⟨u,e,h.fr hf hs⟩
 mono:=fun ⟨u,e,h⟩ hs=>⟨u,e,h.mono (by decide) hs⟩
theorem Sl.cds{F:Nat→Prop}{w:World}{A:Option Addr}{n c:Nat}{xs:List (List Cd)}(h:Sl nQ F w (.slice A n c) xs){i:Nat}(hi:i<xs.length):∃ad B d,A=some ad∧F ad.block∧w.cell? (ad.add i)=some (.slice B xs[i].length d)∧Sl eL F w (.slice B xs[i].length d) xs[i]:=by
 obtain⟨ad,cs,h1,h2,⟨u,rfl,h3⟩,h4,-⟩:=h.at hi
 obtain⟨B,d,rfl⟩:=h3.sl
 exact⟨ad,B,d,h1,h2,by simpa [nQ] using h4 (by simp),h3⟩
def IdxZ(l:List Int)(v:Int)(r:Int):Prop:=(r<0∧v ∉ l)∨∃i:Nat,∃h:i<l.length,r=(i:Int)∧l[i]=v
def IdxZP(l:List Int)(v:Int)(w:World)(e:Ending)(w':World):Prop:=w=w'∧∃r,e=.returned (.int .i64 r)∧IdxZ l v r
theorem index_z{F:Nat→Prop}{w:World}{A:Option Addr}{n c:Nat}{l:List Int}{v:Int}(h:Ins F w (.slice A n c) l)(hl:n≤1048576) :
  Calls Tryz.prog 269 #[.slice A n c,.int .i64 v] w (IdxZP l v w):=by
 obtain⟨A',c',e,-,sh⟩:=h
 injection e with e1 e2 e3
 subst e1
 have HN:=zN e2;have si:=zN sh
 have HQ:=zN (fun (r:Int) (h:IdxZ l v r)=>(show IdxZP l v w (.returned (.int .i64 r)) w from ⟨rfl,r,rfl,h⟩))
 clear sh e2 e3
 go_enter Tryz.func269,Tryz.ntmps269
 go_wp2_with fail
 go_loopw [8] (fun q wr=>∃i:Nat,i≤n∧q=.int .i64 (i:Int)∧Hid (∀j (h:j<l.length),j<i→l[j]≠v)∧w=wr) (fun q _=>n-(intOf q).toNat)
 case atStart=>exact⟨0,jn _,rfl,zN (fun _ _ h=>absurd h (by omega)),by trivial⟩
 case round =>
  obtain⟨i,hi,rfl,sg,rfl⟩:=hrel
  by_cases hlt:i<n
  ·have i1:(0:Int)≤(i:Int):=by omega
   have i2:(i:Int)<(n:Int):=by omega
   have se:i<l.length:=by have:=HN.out;omega
   obtain⟨ad,rfl,-,c0⟩:=si.out.int se
   by_cases he:l[i]=v
   ·have HV:Hid (IdxZ l v (i:Int)):=zN (.inr ⟨i,se,rfl,he⟩)
    rw[he]at c0
    clear he se
    go_wp2_with fail
    go_ret
    exact HQ.out _ HV.out
   ·obtain⟨x,hx⟩:=sd (l[i])
    rw[←hx]at c0 he
    have sr:(v == x)=false:=beq_eq_false_iff_ne.2 (fun e=>he e.symm)
    have sj:Hid (∀j (h:j<l.length),j<i+1→l[j]≠v):=zN (fun j hj sq=>by
     rcases jz j i with h|h
     ·exact sg.out j hj h
     ·obtain rfl:j=i:=by omega
      rw[←hx];exact he)
    clear he hx se
    go_wp2_with fail
    go_roundw
    case rel=>exact⟨i+1,by omega,by go_num,sj,by trivial⟩
    case measure=>simp[intOf];omega
  ·obtain rfl:i=n:=by omega
   have sp:¬(i:Int)<(i:Int):=by omega
   have HV:Hid (IdxZ l v (-1)):=zN (.inl ⟨by decide,fun hm=>by
    obtain⟨j,hj,e⟩:=jx hm
    exact sg.out j hj (by have:=HN.out;omega) e⟩)
   go_wp2_with fail
   go_ret
   exact HQ.out _ HV.out
theorem contains_z{F:Nat→Prop}{w:World}{A:Option Addr}{n c:Nat}{l:List Int}{v:Int}(h:Ins F w (.slice A n c) l)(hl:n≤1048576) :
  Calls Tryz.prog 238 #[.slice A n c,.int .i64 v] w (fun e w'=>e=.returned (.bool (decide (v∈l)))∧w=w'):=by
 have HI:=zN (index_z (v:=v) h hl)
 clear h
 obtain⟨z,hz⟩:=sd (decide (v∈l))
 rw[←hz]
 have HZ:=zN hz
 clear hz
 go_enter Tryz.func238,Tryz.ntmps238
 go_wp2_with fail
 refine HI.out.mono ?_
 rintro e w' ⟨rfl,r,rfl,hr⟩
 rcases hr with ⟨h0,h1⟩|⟨i,hi,rfl,h1⟩
 ·have HR:Hid (z=false):=zN (by rw[HZ.out];exact decide_eq_false h1)
  have g0:decide ((0:Int)≤r)=false:=decide_eq_false (by omega)
  clear h1
  go_wp2_with fail
  go_ret
  exact⟨by rw[HR.out];rfl,rfl⟩
 ·have HR:Hid (z=true):=zN (by rw[HZ.out];exact decide_eq_true (h1 ▸ jf hi))
  have g0:decide ((0:Int)≤(i:Int))=true:=decide_eq_true (by omega)
  clear h1 hi
  go_wp2_with fail
  go_ret
  exact⟨by rw[HR.out];rfl,rfl⟩
theorem holds_ok{w:World}{a b:Vl}{op:Int}(ha:okV a=true∧a.str.size≤maxLen)(hb:okV b=true∧b.str.size≤maxLen)(h0 : 0≤op)(h5:op≤5) :
  Calls Tryz.prog 270 #[rX a,.int .i64 op,rX b] w (fun e w'=>e=.returned (.tuple #[.bool (qR op (cT a b)),.int .i64 0])∧Ext w w'):=by
 refine(holds_any (op:=op) ha.2 hb.2).mono ?_
 rintro e w' ⟨h1,⟨-,-,-,-,h⟩|⟨c,-,h,-⟩⟩
 ·exact⟨h,h1⟩
 ·rcases h with h|h|h|h
  ·omega
  ·omega
  ·rw[ha.1]at h;cases h
  ·rw[hb.1]at h;cases h
theorem frm_at{s:NsT}(hn:s.fresh.Nodup)(hl:s.fresh.length=s.frm.length){i:Nat}(hi:i<s.fresh.length):my s s.fresh[i]=some (s.frm[i]'(by omega)):=by
 refine(fX hn).2 ?_
 have:=jf (l:=s.fresh.zip s.frm) (n:=i) (by rw[zu];omega)
 rwa [zB]at this
theorem eq_dec(x y:Vl):(decide (x=y):Bool)=((x.kind == y.kind) && ((x.int == y.int) && (x.str == y.str))):=by
 obtain⟨a,b,s⟩:=x
 obtain⟨c,d,t⟩:=y
 rw[Bool.eq_iff_iff]
 simp only[decide_eq_true_eq,Vl.mk.injEq,Bool.and_eq_true,beq_iff_eq,beq_toListBytes]
 constructor
 ·rintro⟨h1,h2,h3⟩
  exact⟨h1,h2,by rw[h3]⟩
 ·rintro⟨h1,h2,h3⟩
  exact⟨h1,h2,dX h3⟩
theorem eqv_any(x y:Vl)(w:World):(Op.equalIn 10000 51 (.agg #[.int .i64 x.kind,.int .i64 x.int,.string x.str]) (.agg #[.int .i64 y.kind,.int .i64 y.int,.string y.str])).run Tryz.prog w=.ok (decide (x=y)) w:=by
 rw[eq_val,eq_dec]
def pc(vars:List ByteArray)(ts:List Tm)(s:NsT)(x:List Vl):Bool:=(List.range ts.length).all (fun j=>mtC vars s x (ts.getD j zt) j)
def np(vars:List ByteArray)(cds:List Cd)(s:NsT)(x:List Vl):Bool:=(s.fresh.zip s.frm).all (fun p=>(bK vars cds p.1).all (d9 (x.getD p.2 zv)))
theorem mtB_eq(vars:List ByteArray)(ts:List Tm)(cds:List Cd)(s:NsT)(x:List Vl):mtB vars ts cds s x=(pc vars ts s x && np vars cds s x):=rfl
theorem mtAll_no{vars:List ByteArray}{ts:List Tm}{s:NsT}{x:List Vl}{j:Nat}(hj:j<ts.length)(h:mtC vars s x ts[j] j=false):pc vars ts s x=false:=by
 unfold pc
 rw[List.all_eq_false]
 exact⟨j,by simpa using hj,by rw[bA hj,h];simp⟩
theorem mtAll_yes{vars:List ByteArray}{ts:List Tm}{s:NsT}{x:List Vl}(h:∀j (hj:j<ts.length),mtC vars s x ts[j] j=true):pc vars ts s x=true:=by
 unfold pc
 rw[jA]
 intro j hj
 have se:j<ts.length:=by simpa using hj
 rw[bA se]
 exact h j se
theorem zip_at{s:NsT}(hl:s.fresh.length=s.frm.length){i:Nat}(hi:i<s.fresh.length):(s.fresh[i],s.frm[i]'(by omega))∈s.fresh.zip s.frm:=by
 have:=jf (l:=s.fresh.zip s.frm) (n:=i) (by rw[zu];omega)
 rwa [zB]at this
theorem cdAll_no{vars:List ByteArray}{cds:List Cd}{s:NsT}{x:List Vl}(hl:s.fresh.length=s.frm.length){i k:Nat}(hi:i<s.fresh.length)(hk:k<(bK vars cds s.fresh[i]).length)(h:d9 (x.getD (s.frm[i]'(by omega)) zv) (bK vars cds s.fresh[i])[k]=false):np vars cds s x=false:=by
 unfold np
 rw[List.all_eq_false]
 refine⟨_,zip_at hl hi,?_⟩
 rw[Bool.not_eq_true,List.all_eq_false]
 exact⟨_,jf hk,by rw[h];simp⟩
theorem cdAll_yes{vars:List ByteArray}{cds:List Cd}{s:NsT}{x:List Vl}(hl:s.fresh.length=s.frm.length)(h:∀i (hi:i<s.fresh.length),∀c∈bK vars cds s.fresh[i],d9 (x.getD (s.frm[i]'(by omega)) zv) c=true):np vars cds s x=true:=by
 unfold np
 rw[jA]
 intro p hp
 obtain⟨i,hi,rfl⟩:=jx hp
 rw[zB]
 rw[jA]
 have se:i<s.fresh.length:=by rw[zu]at hi;omega
 exact fun c hc=>h i se c hc
theorem cond_ok{c:Cd}(h:eI c=0) : 0≤c.op∧c.op≤5∧okV ⟨c.kind,c.int,c.str⟩=true:=by
 unfold eI at h
 split at h
 ·cases h
 ·rename_i h1
  split at h
  ·rename_i h2
   exact⟨by omega,by omega,h2⟩
  ·cases h
theorem rm{F G H I K:Nat→Prop}{w:World}{mb:Option Nat}{u1 u4:Value}{b2 n2:Nat}{FA RA B X C:Option Addr}{nf fc nr rc d nx cx nc cc:Nat}{ng:Bool}{rl:ByteArray}{ts:List Tm}{vars:List ByteArray}{cds:List Cd}{ns:NsT}{x:List Vl}(hF:Ins F w (.slice FA nf fc) (dw ns.fresh))(hR:Ins G w (.slice RA nr rc) (dw ns.frm))(hT:Cl H w B (dM ts))(hX:Sl aM I w (.slice X nx cx) x)(hN:aI w b2 n2 (numF vars))(hC:Sl nQ K w (.slice C nc cc) ((List.range vars.length).map (bK vars cds)))(sV:ns.fresh.length=ns.frm.length)(tZ:ns.fresh.Nodup)(tT:∀v∈ns.fresh,v<vars.length)(tR:∀c∈ns.frm,c<x.length)(tD:x.length=ts.length)(ub:∀t∈ts,t.var.size≤maxLen)(ua:∀v∈x,okV v=true∧v.str.size≤maxLen)(tP:∀c∈cds,eI c=0∧c.str.size≤maxLen)(uC:ts.length≤1000000)(tO:cds.length≤1000000)(uW:nf≤1000000)(uD:vars.length≤1000000) :
  Calls Tryz.prog 239 #[.agg #[.map mb,u1,.slice FA nf fc,.slice RA nr rc,u4],.agg #[.bool ng,.string rl,.slice B ts.length d],.slice X nx cx,.map (some b2),.slice C nc cc] w (Ret (fun y _=>y=.bool (mtB vars ts cds ns x)) w):=by
 have uf:=hX.cap.1;have tq:=hC.cap.1
 rw[jk,List.length_range]at tq
 have uq:=zN (fun (V:World) (hV:Ext w V) (v:Int)=>index_z (v:=v) (hF.ext hV) (show nf≤1048576 by omega))
 obtain⟨uL,uV,e,-,tM⟩:=hF
 injection e with e1 e2 e3
 subst e1
 obtain⟨uP,vh,e,-,tN⟩:=hR
 injection e with e4 e5 e6
 subst e4
 rw[jk]at e2 e5
 clear e3 e6
 obtain⟨nt,tB⟩:=sd ts.length
 rw[←tB]at uC tD ⊢
 obtain⟨z,hz⟩:=sd (mtB vars ts cds ns x)
 rw[←hz]
 have HZ:Hid (z=(pc vars ts ns x && np vars cds ns x)):=zN (by rw[hz,mtB_eq])
 have HF:=zN tM;have HR:=zN tN;have HT:=zN hT;have th:=zN hX;have HN:=zN hN;have HC:=zN hC;have sg:=zN sV;have uv:=zN tZ;have un:=zN tT;have sC:=zN tR;have uO:=zN tD;have ux:=zN ub;have uw:=zN ua;have um:=zN tP;have tK:=zN tB;have td:=zN e2;have uM:=zN e5;have tg:=zN uf;have uk:=zN tq;have ui:=zN tO
 have uH:nf=nr:=by omega
 have uI:nx=nt:=by omega
 have uG:nc≤1000000:=by omega
 subst uH
 have k2:=bH w 229 49 [.map mb,u1,.slice FA nf fc,.slice RA nf rc,u4] [.bool ng,.string rl,.slice B nt d]
 have hx:Ext w ((w.alloc (.cells #[.map mb,u1,.slice FA nf fc,.slice RA nf rc,u4] 229)).alloc (.cells #[.bool ng,.string rl,.slice B nt d] 49)):=((Ext.refl w).alloc _).alloc _
 clear hz tM tN hT hX hN hC sV tZ tT tR tD ub ua tP tB e2 e5 uf tq tO uD
 subst uI
 go_enter Tryz.func239,Tryz.ntmps239
 go_upto_region 1 with fail
 change Bk ((w.alloc (.cells #[.map mb,u1,.slice FA nf fc,.slice RA nf rc,u4] 229)).alloc (.cells #[.bool ng,.string rl,.slice B nx d] 49)) _ _ _∧Bk ((w.alloc (.cells #[.map mb,u1,.slice FA nf fc,.slice RA nf rc,u4] 229)).alloc (.cells #[.bool ng,.string rl,.slice B nx d] 49)) _ _ _ at k2
 obtain⟨ka,kb⟩:=k2
 generalize ((w.alloc (.cells #[.map mb,u1,.slice FA nf fc,.slice RA nf rc,u4] 229)).alloc (.cells #[.bool ng,.string rl,.slice B nx d] 49))=w1 at *
 have se:=zN hx;have sE:=zN ka;have uN:=zN kb
 have b2:=kb.c2
 clear ka kb hx
 go_wp2_with fail
 clear b2
 go_loopw [23] (fun t wr=>∃j:Nat,j≤nx∧t=.int .i64 (j:Int)∧Hid (∀i (_:i<j) (hi:i<ts.length),mtC vars ns x ts[i] i=true)∧Hid (Ext w1 wr)) (fun t _=>nx-(intOf t).toNat)
 case atStart=>exact⟨0,jn _,rfl,zN (fun j h=>absurd h (by omega)),zN (Ext.refl _)⟩
 case round =>
  obtain⟨j,hj,rfl,tH,sj⟩:=hrel
  obtain⟨W,rfl⟩:∃W:World,W=wr:=⟨_,rfl⟩
  by_cases hlt:j<nx
  ·have i1:(0:Int)≤(j:Int):=by omega
   have i2:(j:Int)<(nx:Int):=by omega
   have tu:j<ts.length:=by have:=tK.out;omega
   have tX:j<x.length:=by have:=tg.out;omega
   obtain⟨uT,rfl,-,d0,d1,d2,d3⟩:=HT.out.term tu
   replace d0:=(se.out.trans sj.out).cell d0;replace d1:=(se.out.trans sj.out).cell d1;replace d2:=(se.out.trans sj.out).cell d2;replace d3:=(se.out.trans sj.out).cell d3
   obtain⟨uB,rfl,-,x0,x1,x2⟩:=th.out.vl tX
   replace x0:=(se.out.trans sj.out).cell x0;replace x1:=(se.out.trans sj.out).cell x1;replace x2:=(se.out.trans sj.out).cell x2
   have uh:=ux.out _ (jf tu)
   have sw:Hid (mtC vars ns x ts[j] j=false→z=false):=zN (fun h=>by rw[HZ.out,mtAll_no tu h];rfl)
   have sp:Hid (mtC vars ns x ts[j] j=true→∀i (_:i<j+1) (hi:i<ts.length),mtC vars ns x ts[i] i=true):=zN (fun h i hi uF=>by
    rcases jz i j with h1|h1
    ·exact tH.out i h1 uF
    ·obtain rfl:i=j:=by omega
     exact h)
   have sU:x.getD j zv=x[j]:=bA tX
   have tf:=zN sU
   have sy:=lk vars ts[j].var
   obtain⟨t,ht⟩:=sd (ts[j])
   obtain⟨xv,sW⟩:=sd (x[j])
   rw[←ht]at d0 d1 d2 d3 uh sw sp sy
   rw[←sW]at x0 x1 x2 tf
   have sG:=zN sy
   have kt:=Bk.new W 132 [.string t.var,.int .i64 t.kind,.int .i64 t.int,.string t.str]
   change Bk (W.alloc (.cells #[.string t.var,.int .i64 t.kind,.int .i64 t.int,.string t.str] 132)) _ _ _ at kt
   have hx4:Ext W (W.alloc (.cells #[.string t.var,.int .i64 t.kind,.int .i64 t.int,.string t.str] 132)):=(Ext.refl W).alloc _
   have q0:=kt.c0;have q1:=kt.c1;have q2:=kt.c2;have q3:=kt.c3
   replace x0:=hx4.cell x0;replace x1:=hx4.cell x1;replace x2:=hx4.cell x2
   have si:=zN (sj.out.trans hx4)
   clear ht sW kt hx4 sU sy
   go_upto_region 4 with fail
   generalize (W.alloc (.cells #[.string t.var,.int .i64 t.kind,.int .i64 t.int,.string t.str] 132))=V at *
   clear d0 d1 d2 d3
   by_cases hv:t.var=⟨#[]⟩
   ·have uK:=gw hv
    have te:=zN (fun W=>eqv_any xv t.vl W)
    have sA:Hid (mtC vars ns x t j=decide (xv=t.vl)):=zN (by unfold mtC;rw[if_pos hv,tf.out])
    obtain⟨r,hr⟩:=sd (decide (xv=t.vl))
    rw[←hr]at te sA
    clear hr hv
    have sx:=te.out
    unfold Tm.vl at sx
    simp only at sx
    clear te
    go_upto_region 5 with fail
    rcases r with _|_
    ·have HQ:=zN (sw.out sA.out)
     go_quiet (fail)
     have sr:=zN (si.out.drewN nq)
     generalize (V.drewN nq)=V2 at *
     clear sx q0 q1 q2 q3 x0 x1 x2
     go_wp2_with fail
     go_ret
     exact Ret.mk (se.out.trans sr.out) (by rw[HQ.out];rfl)
    ·have HG:=zN (sp.out sA.out)
     go_quiet (fail)
     have sr:=zN (si.out.drewN nq)
     generalize (V.drewN nq)=V2 at *
     clear sx q0 q1 q2 q3 x0 x1 x2
     go_wp2_with fail
     go_roundw
     case rel=>exact⟨j+1,by omega,by go_num,HG,sr⟩
     case measure=>simp[intOf];omega
   ·have uK:=gy hv
    have a2:=(sE.out.ext si.out).c2
    have a3:=(sE.out.ext si.out).c3
    have ut:=zN (HN.out.ext (se.out.trans si.out))
    obtain⟨v,ta⟩:=sd (dl vars t.var)
    rw[←ta]at sG
    have uc : 0≤v:=by
     rw[ta];unfold dl;rw[if_neg hv];split <;> omega
    have sA:Hid (mtC vars ns x t j=match my ns v.toNat with|none=>true|some c=>decide (xv=x.getD c zv)):=zN (by unfold mtC;rw[if_neg hv,tf.out,ta];rfl)
    have uo:=zN (uq.out V (se.out.trans si.out) v)
    have uy:=zN uc
    clear ta hv uc
    go_wp2_with (first
     | (refine ao rfl _ _ 145 3 rfl Tryz.underlying145 (.int .i64 0) (aO _) b2 n2 _ rfl ut.out t.var rfl uh (.int .i64 v) sG.out ?_))
    refine uo.out.mono ?_
    rintro e w' ⟨rfl,r,rfl,hr⟩
    rcases hr with ⟨h0,h1⟩|⟨i,hi,rfl,h1⟩
    ·have g0:decide ((0:Int)≤r)=false:=decide_eq_false (by omega)
     have HG:=zN (sp.out (by
      rw[sA.out,(frmOf_none sg.out).2 (fun hm=>h1 (jG.2 ⟨_,hm,by have:=uy.out;omega⟩))]))
     clear h0 h1
     go_upto_region 8 with fail
     go_quiet (fail)
     have sr:=zN (si.out.drewN nq)
     generalize (V.drewN nq)=V2 at *
     clear q0 q1 q2 q3 x0 x1 x2 a2 a3
     go_wp2_with fail
     go_roundw
     case rel=>exact⟨j+1,by omega,by go_num,HG,sr⟩
     case measure=>simp[intOf];omega
    ·have g0:decide ((0:Int)≤(i:Int))=true:=decide_eq_true (by omega)
     rw[jk]at hi
     have sB:i<ns.frm.length:=by have:=sg.out;omega
     have vd:i<nf:=by have:=td.out;omega
     simp only[jy]at h1
     have tS:=frm_at uv.out sg.out hi
     have ue:v.toNat=ns.fresh[i]:=by rw[←h1];simp
     obtain⟨tj,rfl,-,r0⟩:=HR.out.int (i:=i) (by simpa using sB)
     simp only[jy]at r0
     replace r0:=(se.out.trans si.out).cell r0
     have su:=sC.out _ (jf sB)
     have sh:Hid (mtC vars ns x t j=decide (xv=x.getD ns.frm[i] zv)):=zN (by rw[sA.out,ue,tS])
     obtain⟨ci,sR⟩:=sd (ns.frm[i])
     rw[←sR]at r0 su sh
     obtain⟨uU,ey,-,y0,y1,y2⟩:=th.out.vl su
     injection ey with ey
     subst ey
     replace y0:=(se.out.trans si.out).cell y0;replace y1:=(se.out.trans si.out).cell y1;replace y2:=(se.out.trans si.out).cell y2
     have tU:x.getD ci zv=x[ci]:=bA su
     rw[tU]at sh
     have tQ:ci<nx:=by have:=tg.out;omega
     obtain⟨yv,ug⟩:=sd (x[ci])
     rw[←ug]at y0 y1 y2 sh
     have sx:=eqv_any xv yv
     obtain⟨z2,tE⟩:=sd (decide (xv=yv))
     rw[←tE]at sh
     have sS:∀W,(Op.equalIn 10000 51 (.agg #[.int .i64 xv.kind,.int .i64 xv.int,.string xv.str]) (.agg #[.int .i64 yv.kind,.int .i64 yv.int,.string yv.str])).run Tryz.prog W=.ok z2 W:=fun W=>by rw[tE];exact sx W
     have j1:(0:Int)≤(i:Int):=by omega
     have j2:(i:Int)<(nf:Int):=by omega
     have j3:(0:Int)≤(ci:Int):=by omega
     have j4:(ci:Int)<(nx:Int):=by omega
     clear h1 tS ue sR tU ug tE sx sB hi su
     go_upto_region 8 with fail
     rcases z2 with _|_
     ·have HQ:=zN (sw.out sh.out)
      go_quiet (fail)
      have sr:=zN (si.out.drewN nq)
      generalize (V.drewN nq)=V2 at *
      clear sS q0 q1 q2 q3 x0 x1 x2 y0 y1 y2 a2 a3 r0
      go_wp2_with fail
      go_ret
      exact Ret.mk (se.out.trans sr.out) (by rw[HQ.out];rfl)
     ·have HG:=zN (sp.out sh.out)
      go_quiet (fail)
      have sr:=zN (si.out.drewN nq)
      generalize (V.drewN nq)=V2 at *
      clear sS q0 q1 q2 q3 x0 x1 x2 y0 y1 y2 a2 a3 r0
      go_wp2_with fail
      go_roundw
      case rel=>exact⟨j+1,by omega,by go_num,HG,sr⟩
      case measure=>simp[intOf];omega
  ·obtain rfl:j=nx:=by omega
   have uY:¬(j:Int)<(j:Int):=by omega
   have tI:Hid (z=np vars cds ns x):=zN (by rw[HZ.out,mtAll_yes (fun i hi=>tH.out i (by have:=tK.out;omega) hi),Bool.true_and])
   have a2:=(sE.out.ext sj.out).c2
   go_wp2_with fail
   clear a2
   go_loopw [66] (fun t wr=>∃i:Nat,i≤nf∧t=.int .i64 (i:Int)∧Hid (∀k (_:k<i) (hk:k<ns.fresh.length),∀c∈bK vars cds ns.fresh[k],d9 (x.getD (ns.frm[k]'(by have:=sg.out;omega)) zv) c=true)∧Hid (Ext w1 wr)) (fun t _=>nf-(intOf t).toNat)
   case atStart=>exact⟨0,jn _,rfl,zN (fun j h=>absurd h (by omega)),sj⟩
   case round =>
    obtain⟨i,hi,rfl,tF,sq⟩:=hrel
    obtain⟨W2,rfl⟩:∃W:World,W=wr:=⟨_,rfl⟩
    by_cases hlt:i<nf
    ·have i1:(0:Int)≤(i:Int):=by omega
     have i2:(i:Int)<(nf:Int):=by omega
     have tt:i<ns.fresh.length:=by have:=td.out;omega
     have sB:i<ns.frm.length:=by have:=sg.out;omega
     obtain⟨uR,rfl,-,f0⟩:=HF.out.int (i:=i) (by simpa using tt)
     simp only[jy]at f0
     obtain⟨tj,rfl,-,r0⟩:=HR.out.int (i:=i) (by simpa using sB)
     simp only[jy]at r0
     replace f0:=(se.out.trans sq.out).cell f0;replace r0:=(se.out.trans sq.out).cell r0
     have tC:=un.out _ (jf tt)
     have su:=sC.out _ (jf sB)
     obtain⟨uQ,Bc,dc,rfl,-,c0,sP⟩:=HC.out.cds (i:=ns.fresh[i]) (by simpa using tC)
     simp only[jy,zK]at c0 sP
     replace c0:=(se.out.trans sq.out).cell c0
     have sw:Hid (∀k (hk:k<(bK vars cds ns.fresh[i]).length),d9 (x.getD ns.frm[i] zv) (bK vars cds ns.fresh[i])[k]=false→z=false):=zN (fun k hk h=>by rw[tI.out];exact cdAll_no sg.out tt hk h)
     have sp:Hid ((∀c∈bK vars cds ns.fresh[i],d9 (x.getD ns.frm[i] zv) c=true)→∀k (_:k<i+1) (hk:k<ns.fresh.length),∀c∈bK vars cds ns.fresh[k],d9 (x.getD (ns.frm[k]'(by have:=sg.out;omega)) zv) c=true):=zN (fun h k hk tY=>by
      rcases jz k i with h1|h1
      ·exact tF.out k h1 tY
      ·obtain rfl:k=i:=by omega
       exact h)
     have sJ:Hid (∀c∈bK vars cds ns.fresh[i],c∈cds):=zN (fun c hc=>(jC.1 hc).1)
     obtain⟨uB,ex,-,x0,x1,x2⟩:=th.out.vl su
     obtain⟨X',rfl⟩:∃X',X=some X':=⟨_,ex⟩
     injection ex with ex
     subst ex
     have sI:=zN (uw.out _ (jf su))
     have sU:x.getD ns.frm[i] zv=x[ns.frm[i]]:=bA su
     rw[sU]at sw sp
     have tQ:ns.frm[i]<j:=by have:=tg.out;omega
     obtain⟨xv,sW⟩:=sd (x[ns.frm[i]])
     rw[←sW]at x0 x1 x2 sw sp sI
     obtain⟨lc,tw⟩:=sd (bK vars cds ns.fresh[i])
     have tz:lc.length≤1000000:=by
      have h1:lc.length≤cds.length:=by rw[tw];exact jF _ _
      have:=ui.out
      omega
     rw[←tw]at c0 sP sw sp sJ
     obtain⟨ci,sR⟩:=sd (ns.frm[i])
     obtain⟨vi,ud⟩:=sd (ns.fresh[i])
     rw[←sR]at r0 x0 x1 x2 tQ
     rw[←ud]at f0 c0 tC
     obtain⟨ml,tA⟩:=sd lc.length
     rw[←tA]at c0 sP tz
     have tJ:=zN tA;have tc:=zN sP
     have ve:vi<nc:=by have:=uk.out;omega
     have j3:(0:Int)≤(ci:Int):=by omega
     have j4:(ci:Int)<(j:Int):=by omega
     have j5:(0:Int)≤(vi:Int):=by omega
     have j6:(vi:Int)<(nc:Int):=by omega
     have a2:=(sE.out.ext sq.out).c2
     clear tC su sP sU sW tw sR ud tA
     go_wp2_with fail
     clear f0 c0 a2
     go_loopw [76] (fun t wr=>∃k:Nat,k≤ml∧t=.int .i64 (k:Int)∧Hid (∀q (_:q<k) (hq:q<lc.length),d9 xv lc[q]=true)∧Hid (Ext W2 wr)) (fun t _=>ml-(intOf t).toNat)
     case atStart=>exact⟨0,jn _,rfl,zN (fun j h=>absurd h (by omega)),zN (Ext.refl _)⟩
     case round =>
      obtain⟨k,hk,rfl,tG,sK⟩:=hrel
      obtain⟨W3,rfl⟩:∃W:World,W=wr:=⟨_,rfl⟩
      by_cases tY:k<ml
      ·have k1:(0:Int)≤(k:Int):=by omega
       have k2:(k:Int)<(ml:Int):=by omega
       have sZ:k<lc.length:=by have:=tJ.out;omega
       obtain⟨uS,rfl,-,d0,d1,d2,d3,d4⟩:=tc.out.cd sZ
       have hx0:=se.out.trans (sq.out.trans sK.out)
       replace d0:=hx0.cell d0;replace d1:=hx0.cell d1;replace d2:=hx0.cell d2;replace d3:=hx0.cell d3;replace d4:=hx0.cell d4
       have tn:=sw.out k sZ
       have tp:d9 xv lc[k]=true→∀q (_:q<k+1) (hq:q<lc.length),d9 xv lc[q]=true:=fun h q hq uJ=>by
        rcases jz q k with h1|h1
        ·exact tG.out q h1 uJ
        ·obtain rfl:q=k:=by omega
         exact h
       have sY:=um.out _ (sJ.out _ (jf sZ))
       obtain⟨c,sQ⟩:=sd (lc[k])
       rw[←sQ]at d0 d1 d2 d3 d4 tn tp sY
       obtain⟨o1,o2,o3⟩:=cond_ok sY.1
       have sD:=zN (fun (V:World)=>holds_ok (w:=V) (a:=xv) (b:=⟨c.kind,c.int,c.str⟩) (op:=c.op) sI.out ⟨o3,sY.2⟩ o1 o2)
       have sF:=zN tn;have sH:=zN tp
       obtain⟨h,hh⟩:=sd (d9 xv c)
       have tW:qR c.op (cT xv ⟨c.kind,c.int,c.str⟩)=h:=by rw[hh];rfl
       rw[tW]at sD
       rw[←hh]at sF sH
       obtain⟨sX,sN,sM,sL,sO⟩:=c
       simp only at d0 d1 d2 d3 d4 sD
       have kt:=Bk.new W3 53 [.string sX,.int .i64 sN,.int .i64 sM,.int .i64 sL,.string sO]
       change Bk (W3.alloc (.cells #[.string sX,.int .i64 sN,.int .i64 sM,.int .i64 sL,.string sO] 53)) _ _ _ at kt
       have hx4:Ext W3 (W3.alloc (.cells #[.string sX,.int .i64 sN,.int .i64 sM,.int .i64 sL,.string sO] 53)):=(Ext.refl W3).alloc _
       have q1:=kt.c1;have q2:=kt.c2;have q3:=kt.c3;have q4:=kt.c4
       have hx5:=(sq.out.trans sK.out).trans hx4
       have a3:=(sE.out.ext hx5).c3
       have r1:=(sK.out.trans hx4).cell r0
       have y0:=(se.out.trans hx5).cell x0;have y1:=(se.out.trans hx5).cell x1;have y2:=(se.out.trans hx5).cell x2
       have uA:=zN (sK.out.trans hx4)
       clear tn tp sY sQ hh tW o1 o2 o3 kt hx4 hx5 hx0 sZ
       go_upto_region 17 with fail
       generalize (W3.alloc (.cells #[.string sX,.int .i64 sN,.int .i64 sM,.int .i64 sL,.string sO] 53))=V at *
       clear d0 d1 d2 d3 d4
       unfold rX at sD
       simp only at sD
       go_region_held3 (fun X=>Ext V X∧X.cell? ⟨w.heap.size,3,none⟩=some (.slice (some tj) nf rc)∧X.cell? (tj.add i)=some (.int .i64 (ci:Int))∧X.cell? (X'.add (ci*3))=some (.int .i64 xv.kind)∧X.cell? ⟨(X'.add (ci*3)).block,(X'.add (ci*3)).off+1,none⟩=some (.int .i64 xv.int)∧X.cell? ⟨(X'.add (ci*3)).block,(X'.add (ci*3)).off+2,none⟩=some (.string xv.str)∧X.cell? ⟨W3.heap.size,1,none⟩=some (.int .i64 sN)∧X.cell? ⟨W3.heap.size,2,none⟩=some (.int .i64 sM)∧X.cell? ⟨W3.heap.size,3,none⟩=some (.int .i64 sL)∧X.cell? ⟨W3.heap.size,4,none⟩=some (.string sO))
        ((refine(fun he=>⟨he,Ext.cell he a3,Ext.cell he r1,Ext.cell he y0,Ext.cell he y1,Ext.cell he y2,Ext.cell he q1,Ext.cell he q2,Ext.cell he q3,Ext.cell he q4⟩) ?_;repeat (first|exact Ext.refl _|exact(Ext.refl _).drew|refine Ext.drew ?_|refine Ext.trans ?_ (by assumption))))
        (first
         | (go_at_call 270;(with_reducible refine(sD.out _).mono ?_);rintro e wi ⟨rfl,uE⟩))
       have sT:=And.left (b:=_∧_) (by assumption)
       obtain⟨Z,rfl⟩:∃X:World,X=wi:=⟨_,rfl⟩
       have tL:=zN (uA.out.trans sT)
       clear sT uE y0 y1 y2 q1 q2 q3 q4 a3 r1
       rcases h with _|_
       ·have HQ:=zN (sF.out rfl)
        go_wp2_with fail
        go_ret
        exact Ret.mk (se.out.trans (sq.out.trans tL.out)) (by rw[HQ.out];rfl)
       ·have HG:=zN (sH.out rfl)
        go_wp2_with fail
        go_roundw
        case rel=>exact⟨k+1,by omega,by go_num,HG,tL⟩
        case measure=>simp[intOf];omega
      ·obtain rfl:k=ml:=by omega
       have uZ:¬(k:Int)<(k:Int):=by omega
       have HG:=zN (sp.out (fun c hc=>by
        obtain⟨q,hq,rfl⟩:=jx hc
        exact tG.out q (by have:=tJ.out;omega) hq))
       go_wp2_with fail
       go_roundw
       case rel=>exact⟨i+1,by omega,by go_num,HG,zN (sq.out.trans sK.out)⟩
       case measure=>simp[intOf];omega
    ·obtain rfl:i=nf:=by omega
     have uX:¬(i:Int)<(i:Int):=by omega
     have HQ:Hid (z=true):=zN (by
      rw[tI.out]
      exact cdAll_yes sg.out (fun k hk=>tF.out k (by have:=td.out;omega) hk))
     go_wp2_with fail
     go_ret
     exact Ret.mk (se.out.trans sq.out) (by rw[HQ.out];rfl)
