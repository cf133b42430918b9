/- packed -/
import Derived.Test.YtplldnnnhgnbjaaGreatDoorMu17
import Derived.Test.YtplldnnnhgnbjaaGreatDoorMu20
import Derived.Test.YtplldnnnhgnbjaaGreatDoorMu21
namespace Go.Proofs.YtplldnnnhgnbjaaGreatDoor
open Go.RowKit Go.Maps
def numF(vars:List ByteArray):ByteArray→Option Value:=fun s=>if s=⟨#[]⟩ then some (.int .i64 (-1)) else if s∈vars then some (.int .i64 (posN vars s:Int)) else none
theorem numF_get(vars:List ByteArray)(s:ByteArray):(numF vars s).getD (.int .i64 0)=.int .i64 (numN vars s):=by
 unfold numF numN
 split
 ·rfl
 ·split <;> rfl
abbrev natI (l:List Nat):List Int:=l.map (fun k:Nat=>(k:Int))
def rdCds:Rdg (List Cd) where
 sz:=1
 R:=fun F w cs x=>∃u,cs=[u]∧Sl rdCd F w u x
 len:=fun ⟨_,e,_⟩=>by rw[e];rfl
 fr:=fun ⟨u,e,h⟩ hf hs=>⟨u,e,h.fr hf hs⟩
 mono:=fun ⟨u,e,h⟩ hs=>⟨u,e,h.mono (by decide) hs⟩
theorem Sl.cds{F:Nat→Prop}{w:World}{A:Option Addr}{n c:Nat}{xs:List (List Cd)}(h:Sl rdCds F w (.slice A n c) xs){i:Nat}(hi:i<xs.length):∃ad B d,A=some ad∧F ad.block∧w.cell? (ad.add i)=some (.slice B xs[i].length d)∧Sl rdCd F w (.slice B xs[i].length d) xs[i]:=by
 obtain⟨ad,cs,h1,h2,⟨u,rfl,h3⟩,h4,-⟩:=h.at hi
 obtain⟨B,d,rfl⟩:=h3.sl
 exact⟨ad,B,d,h1,h2,by simpa [rdCds] using h4 (by simp),h3⟩
def IdxZ(l:List Int)(v:Int)(r:Int):Prop:=(r<0∧v ∉ l)∨∃i:Nat,∃h:i<l.length,r=(i:Int)∧l[i]=v
def IdxZP(l:List Int)(v:Int)(w:World)(e:Ending)(w':World):Prop:=w=w'∧∃r,e=.returned (.int .i64 r)∧IdxZ l v r
set_option maxRecDepth 20000 in
set_option maxHeartbeats 800000 in
theorem index_z{F:Nat→Prop}{w:World}{A:Option Addr}{n c:Nat}{l:List Int}{v:Int}(h:Ins F w (.slice A n c) l)(hl:n≤1048576) :
  Calls Tryz.prog 269 #[.slice A n c,.int .i64 v] w (IdxZP l v w):=by
 obtain⟨A',c',e,-,hat⟩:=h
 injection e with e1 e2 e3
 subst e1
 have HN:=zO e2;have HAT:=zO hat
 have HQ:=zO (fun (r:Int) (h:IdxZ l v r)=>(show IdxZP l v w (.returned (.int .i64 r)) w from ⟨rfl,r,rfl,h⟩))
 clear hat e2 e3
 go_enter Tryz.func269,Tryz.ntmps269
 go_wp2_with fail
 go_loopw [8] (fun q wr=>∃i:Nat,i≤n∧q=.int .i64 (i:Int)∧Hid (∀j (h:j<l.length),j<i→l[j]≠v)∧w=wr) (fun q _=>n-(intOf q).toNat)
 case atStart=>exact⟨0,jn _,rfl,zO (fun _ _ h=>absurd h (by omega)),by trivial⟩
 case round =>
  obtain⟨i,hi,rfl,HGO,rfl⟩:=hrel
  by_cases hlt:i<n
  ·have i1:(0:Int)≤(i:Int):=by omega
   have i2:(i:Int)<(n:Int):=by omega
   have hix:i<l.length:=by have:=HN.out;omega
   obtain⟨ad,rfl,-,c0⟩:=HAT.out.int hix
   by_cases he:l[i]=v
   ·have HV:Hid (IdxZ l v (i:Int)):=zO (.inr ⟨i,hix,rfl,he⟩)
    rw[he]at c0
    clear he hix
    go_wp2_with fail
    go_ret
    exact HQ.out _ HV.out
   ·obtain⟨x,hx⟩:∃x,x=l[i]:=⟨_,rfl⟩
    rw[←hx]at c0 he
    have hne:(v == x)=false:=beq_eq_false_iff_ne.2 (fun e=>he e.symm)
    have HG2:Hid (∀j (h:j<l.length),j<i+1→l[j]≠v):=zO (fun j hj hji=>by
     rcases jB j i with h|h
     ·exact HGO.out j hj h
     ·obtain rfl:j=i:=by omega
      rw[←hx];exact he)
    clear he hx hix
    go_wp2_with fail
    go_roundw
    case rel=>exact⟨i+1,by omega,by go_num,HG2,by trivial⟩
    case measure=>simp[intOf];omega
  ·obtain rfl:i=n:=by omega
   have hdn:¬(i:Int)<(i:Int):=by omega
   have HV:Hid (IdxZ l v (-1)):=zO (.inl ⟨by decide,fun hm=>by
    obtain⟨j,hj,e⟩:=jv hm
    exact HGO.out j hj (by have:=HN.out;omega) e⟩)
   go_wp2_with fail
   go_ret
   exact HQ.out _ HV.out
set_option maxRecDepth 20000 in
theorem contains_z{F:Nat→Prop}{w:World}{A:Option Addr}{n c:Nat}{l:List Int}{v:Int}(h:Ins F w (.slice A n c) l)(hl:n≤1048576) :
  Calls Tryz.prog 238 #[.slice A n c,.int .i64 v] w (fun e w'=>e=.returned (.bool (decide (v∈l)))∧w=w'):=by
 have HI:=zO (index_z (v:=v) h hl)
 clear h
 obtain⟨z,hz⟩:∃z,z=decide (v∈l):=⟨_,rfl⟩
 rw[←hz]
 have HZ:=zO hz
 clear hz
 go_enter Tryz.func238,Tryz.ntmps238
 go_wp2_with fail
 refine HI.out.mono ?_
 rintro e w' ⟨rfl,r,rfl,hr⟩
 rcases hr with ⟨h0,h1⟩|⟨i,hi,rfl,h1⟩
 ·have HR:Hid (z=false):=zO (by rw[HZ.out];exact decide_eq_false h1)
  have g0:decide ((0:Int)≤r)=false:=decide_eq_false (by omega)
  clear h1
  go_wp2_with fail
  go_ret
  exact⟨by rw[HR.out];rfl,rfl⟩
 ·have HR:Hid (z=true):=zO (by rw[HZ.out];exact decide_eq_true (h1 ▸ jg hi))
  have g0:decide ((0:Int)≤(i:Int))=true:=decide_eq_true (by omega)
  clear h1 hi
  go_wp2_with fail
  go_ret
  exact⟨by rw[HR.out];rfl,rfl⟩
theorem holds_ok{w:World}{a b:Vl}{op:Int}(ha:okV a=true∧a.str.size≤maxLen)(hb:okV b=true∧b.str.size≤maxLen)(h0 : 0≤op)(h5:op≤5) :
  Calls Tryz.prog 270 #[vagg a,.int .i64 op,vagg b] w (fun e w'=>e=.returned (.tuple #[.bool (holdI op (cmpV a b)),.int .i64 0])∧Ext w w'):=by
 refine(holds_any (op:=op) ha.2 hb.2).mono ?_
 rintro e w' ⟨h1,⟨-,-,-,-,h⟩|⟨c,-,h,-⟩⟩
 ·exact⟨h,h1⟩
 ·rcases h with h|h|h|h
  ·omega
  ·omega
  ·rw[ha.1]at h;cases h
  ·rw[hb.1]at h;cases h
theorem frm_at{s:NsT}(hn:s.fresh.Nodup)(hl:s.fresh.length=s.frm.length){i:Nat}(hi:i<s.fresh.length):frmOf s s.fresh[i]=some (s.frm[i]'(by omega)):=by
 refine(frmOf_some hn).2 ?_
 have:=jg (l:=s.fresh.zip s.frm) (n:=i) (by rw[zr];omega)
 rwa [zA]at this
theorem eq_dec(x y:Vl):(decide (x=y):Bool)=((x.kind == y.kind) && ((x.int == y.int) && (x.str == y.str))):=by
 obtain⟨a,b,s⟩:=x
 obtain⟨c,d,t⟩:=y
 rw[Bool.eq_iff_iff]
 simp only[decide_eq_true_eq,Vl.mk.injEq,Bool.and_eq_true,beq_iff_eq,beq_toListBytes]
 constructor
 ·rintro⟨h1,h2,h3⟩
  exact⟨h1,h2,by rw[h3]⟩
 ·rintro⟨h1,h2,h3⟩
  exact⟨h1,h2,toList_inj' h3⟩
theorem eqv_any(x y:Vl)(w:World):(Op.equalIn 10000 51 (.agg #[.int .i64 x.kind,.int .i64 x.int,.string x.str]) (.agg #[.int .i64 y.kind,.int .i64 y.int,.string y.str])).run Tryz.prog w=.ok (decide (x=y)) w:=by
 rw[eq_val,eq_dec]
def mtAll(vars:List ByteArray)(ts:List Tm)(s:NsT)(x:List Vl):Bool:=(List.range ts.length).all (fun j=>mtC vars s x (ts.getD j zt) j)
def cdAll(vars:List ByteArray)(cds:List Cd)(s:NsT)(x:List Vl):Bool:=(s.fresh.zip s.frm).all (fun p=>(cdsAt vars cds p.1).all (holdV (x.getD p.2 zv)))
theorem mtB_eq(vars:List ByteArray)(ts:List Tm)(cds:List Cd)(s:NsT)(x:List Vl):mtB vars ts cds s x=(mtAll vars ts s x && cdAll vars cds s x):=rfl
theorem mtAll_no{vars:List ByteArray}{ts:List Tm}{s:NsT}{x:List Vl}{j:Nat}(hj:j<ts.length)(h:mtC vars s x ts[j] j=false):mtAll vars ts s x=false:=by
 unfold mtAll
 rw[List.all_eq_false]
 exact⟨j,by simpa using hj,by rw[getD_at hj,h];simp⟩
theorem mtAll_yes{vars:List ByteArray}{ts:List Tm}{s:NsT}{x:List Vl}(h:∀j (hj:j<ts.length),mtC vars s x ts[j] j=true):mtAll vars ts s x=true:=by
 unfold mtAll
 rw[jz]
 intro j hj
 have hjt:j<ts.length:=by simpa using hj
 rw[getD_at hjt]
 exact h j hjt
theorem zip_at{s:NsT}(hl:s.fresh.length=s.frm.length){i:Nat}(hi:i<s.fresh.length):(s.fresh[i],s.frm[i]'(by omega))∈s.fresh.zip s.frm:=by
 have:=jg (l:=s.fresh.zip s.frm) (n:=i) (by rw[zr];omega)
 rwa [zA]at this
theorem cdAll_no{vars:List ByteArray}{cds:List Cd}{s:NsT}{x:List Vl}(hl:s.fresh.length=s.frm.length){i k:Nat}(hi:i<s.fresh.length)(hk:k<(cdsAt vars cds s.fresh[i]).length)(h:holdV (x.getD (s.frm[i]'(by omega)) zv) (cdsAt vars cds s.fresh[i])[k]=false):cdAll vars cds s x=false:=by
 unfold cdAll
 rw[List.all_eq_false]
 refine⟨_,zip_at hl hi,?_⟩
 rw[Bool.not_eq_true,List.all_eq_false]
 exact⟨_,jg hk,by rw[h];simp⟩
theorem cdAll_yes{vars:List ByteArray}{cds:List Cd}{s:NsT}{x:List Vl}(hl:s.fresh.length=s.frm.length)(h:∀i (hi:i<s.fresh.length),∀c∈cdsAt vars cds s.fresh[i],holdV (x.getD (s.frm[i]'(by omega)) zv) c=true):cdAll vars cds s x=true:=by
 unfold cdAll
 rw[jz]
 intro p hp
 obtain⟨i,hi,rfl⟩:=jv hp
 rw[zA]
 rw[jz]
 have hif:i<s.fresh.length:=by rw[zr]at hi;omega
 exact fun c hc=>h i hif c hc
theorem cond_ok{c:Cd}(h:condV c=0) : 0≤c.op∧c.op≤5∧okV ⟨c.kind,c.int,c.str⟩=true:=by
 unfold condV at h
 split at h
 ·cases h
 ·rename_i h1
  split at h
  ·rename_i h2
   exact⟨by omega,by omega,h2⟩
  ·cases h
set_option maxRecDepth 20000 in
set_option maxHeartbeats 3200000 in
theorem matches_any{F G H I K:Nat→Prop}{w:World}{mb:Option Nat}{u1 u4:Value}{b2 n2:Nat}{FA RA B X C:Option Addr}{nf fc nr rc d nx cx nc cc:Nat}{ng:Bool}{rl:ByteArray}{ts:List Tm}{vars:List ByteArray}{cds:List Cd}{ns:NsT}{x:List Vl}(hF:Ins F w (.slice FA nf fc) (natI ns.fresh))(hR:Ins G w (.slice RA nr rc) (natI ns.frm))(hT:Cl H w B (tcells ts))(hX:Sl rdVl I w (.slice X nx cx) x)(hN:MapV w b2 n2 (numF vars))(hC:Sl rdCds K w (.slice C nc cc) ((List.range vars.length).map (cdsAt vars cds)))(hlen:ns.fresh.length=ns.frm.length)(hnd:ns.fresh.Nodup)(hfr:∀v∈ns.fresh,v<vars.length)(hfc:∀c∈ns.frm,c<x.length)(hxl:x.length=ts.length)(hts:∀t∈ts,t.var.size≤maxLen)(hok:∀v∈x,okV v=true∧v.str.size≤maxLen)(hcd:∀c∈cds,condV c=0∧c.str.size≤maxLen)(hb1:ts.length≤1000000)(hb2:cds.length≤1000000)(hb3:nf≤1000000)(hb4:vars.length≤1000000) :
  Calls Tryz.prog 239 #[.agg #[.map mb,u1,.slice FA nf fc,.slice RA nr rc,u4],.agg #[.bool ng,.string rl,.slice B ts.length d],.slice X nx cx,.map (some b2),.slice C nc cc] w (Ret (fun y _=>y=.bool (mtB vars ts cds ns x)) w):=by
 have hxc:=hX.cap.1;have hcc:=hC.cap.1
 rw[jm,List.length_range]at hcc
 have HIX:=zO (fun (V:World) (hV:Ext w V) (v:Int)=>index_z (v:=v) (hF.ext hV) (show nf≤1048576 by omega))
 obtain⟨FA',fc',e,-,hFc⟩:=hF
 injection e with e1 e2 e3
 subst e1
 obtain⟨RA',rc',e,-,hRc⟩:=hR
 injection e with e4 e5 e6
 subst e4
 rw[jm]at e2 e5
 clear e3 e6
 obtain⟨nt,hnt⟩:∃k,k=ts.length:=⟨_,rfl⟩
 rw[←hnt]at hb1 hxl ⊢
 obtain⟨z,hz⟩:∃z,z=mtB vars ts cds ns x:=⟨_,rfl⟩
 rw[←hz]
 have HZ:Hid (z=(mtAll vars ts ns x && cdAll vars cds ns x)):=zO (by rw[hz,mtB_eq])
 have HF:=zO hFc;have HR:=zO hRc;have HT:=zO hT;have HXX:=zO hX;have HN:=zO hN;have HC:=zO hC;have HLEN:=zO hlen;have HND:=zO hnd;have HFR:=zO hfr;have HFCC:=zO hfc;have HXL:=zO hxl;have HTS:=zO hts;have HOK:=zO hok;have HCD:=zO hcd;have HNT:=zO hnt;have HE2:=zO e2;have HE5:=zO e5;have HXC:=zO hxc;have HCC:=zO hcc;have HB2:=zO hb2
 have hnn:nf=nr:=by omega
 have hnx:nx=nt:=by omega
 have hncb:nc≤1000000:=by omega
 subst hnn
 have k2:=two_blk w 229 49 [.map mb,u1,.slice FA nf fc,.slice RA nf rc,u4] [.bool ng,.string rl,.slice B nt d]
 have hx:Ext w ((w.alloc (.cells #[.map mb,u1,.slice FA nf fc,.slice RA nf rc,u4] 229)).alloc (.cells #[.bool ng,.string rl,.slice B nt d] 49)):=((Ext.refl w).alloc _).alloc _
 clear hz hFc hRc hT hX hN hC hlen hnd hfr hfc hxl hts hok hcd hnt e2 e5 hxc hcc hb2 hb4
 subst hnx
 go_enter Tryz.func239,Tryz.ntmps239
 go_upto_region 1 with fail
 change Bk ((w.alloc (.cells #[.map mb,u1,.slice FA nf fc,.slice RA nf rc,u4] 229)).alloc (.cells #[.bool ng,.string rl,.slice B nx d] 49)) _ _ _∧Bk ((w.alloc (.cells #[.map mb,u1,.slice FA nf fc,.slice RA nf rc,u4] 229)).alloc (.cells #[.bool ng,.string rl,.slice B nx d] 49)) _ _ _ at k2
 obtain⟨ka,kb⟩:=k2
 generalize ((w.alloc (.cells #[.map mb,u1,.slice FA nf fc,.slice RA nf rc,u4] 229)).alloc (.cells #[.bool ng,.string rl,.slice B nx d] 49))=w1 at *
 have HX1:=zO hx;have HKA:=zO ka;have HKB:=zO kb
 have b2:=kb.cell (i:=2) (by simp)
 simp only[ja,je]at b2
 clear ka kb hx
 go_wp2_with fail
 clear b2
 go_loopw [23] (fun t wr=>∃j:Nat,j≤nx∧t=.int .i64 (j:Int)∧Hid (∀i (_:i<j) (hi:i<ts.length),mtC vars ns x ts[i] i=true)∧Hid (Ext w1 wr)) (fun t _=>nx-(intOf t).toNat)
 case atStart=>exact⟨0,jn _,rfl,zO (fun j h=>absurd h (by omega)),zO (Ext.refl _)⟩
 case round =>
  obtain⟨j,hj,rfl,HGO,HXR⟩:=hrel
  obtain⟨W,rfl⟩:∃W:World,W=wr:=⟨_,rfl⟩
  by_cases hlt:j<nx
  ·have i1:(0:Int)≤(j:Int):=by omega
   have i2:(j:Int)<(nx:Int):=by omega
   have hjt:j<ts.length:=by have:=HNT.out;omega
   have hjx:j<x.length:=by have:=HXC.out;omega
   obtain⟨adt,rfl,-,d0,d1,d2,d3⟩:=HT.out.term hjt
   replace d0:=(HX1.out.trans HXR.out).cell d0;replace d1:=(HX1.out.trans HXR.out).cell d1;replace d2:=(HX1.out.trans HXR.out).cell d2;replace d3:=(HX1.out.trans HXR.out).cell d3
   obtain⟨adx,rfl,-,x0,x1,x2⟩:=HXX.out.vl hjx
   replace x0:=(HX1.out.trans HXR.out).cell x0;replace x1:=(HX1.out.trans HXR.out).cell x1;replace x2:=(HX1.out.trans HXR.out).cell x2
   have hzt:=HTS.out _ (jg hjt)
   have HNO:Hid (mtC vars ns x ts[j] j=false→z=false):=zO (fun h=>by rw[HZ.out,mtAll_no hjt h];rfl)
   have HNX:Hid (mtC vars ns x ts[j] j=true→∀i (_:i<j+1) (hi:i<ts.length),mtC vars ns x ts[i] i=true):=zO (fun h i hi hit=>by
    rcases jB i j with h1|h1
    ·exact HGO.out i h1 hit
    ·obtain rfl:i=j:=by omega
     exact h)
   have hgx:x.getD j zv=x[j]:=getD_at hjx
   have HGX:=zO hgx
   have hnum:=numF_get vars ts[j].var
   obtain⟨t,ht⟩:∃t,t=ts[j]:=⟨_,rfl⟩
   obtain⟨xv,hxv⟩:∃t,t=x[j]:=⟨_,rfl⟩
   rw[←ht]at d0 d1 d2 d3 hzt HNO HNX hnum
   rw[←hxv]at x0 x1 x2 HGX
   have HNUM:=zO hnum
   have kt:=Bk.new W 132 [.string t.var,.int .i64 t.kind,.int .i64 t.int,.string t.str]
   change Bk (W.alloc (.cells #[.string t.var,.int .i64 t.kind,.int .i64 t.int,.string t.str] 132)) _ _ _ at kt
   have hx4:Ext W (W.alloc (.cells #[.string t.var,.int .i64 t.kind,.int .i64 t.int,.string t.str] 132)):=(Ext.refl W).alloc _
   have q0:=kt.cell (i:=0) (by simp);have q1:=kt.cell (i:=1) (by simp);have q2:=kt.cell (i:=2) (by simp);have q3:=kt.cell (i:=3) (by simp)
   simp only[ja,je]at q0 q1 q2 q3
   replace x0:=hx4.cell x0;replace x1:=hx4.cell x1;replace x2:=hx4.cell x2
   have HX4:=zO (HXR.out.trans hx4)
   clear ht hxv kt hx4 hgx hnum
   go_upto_region 4 with fail
   generalize (W.alloc (.cells #[.string t.var,.int .i64 t.kind,.int .i64 t.int,.string t.str] 132))=V at *
   clear d0 d1 d2 d3
   by_cases hv:t.var=⟨#[]⟩
   ·have hve:=var_eq hv
    have HEQ:=zO (fun W=>eqv_any xv t.vl W)
    have HMT:Hid (mtC vars ns x t j=decide (xv=t.vl)):=zO (by unfold mtC;rw[if_pos hv,HGX.out])
    obtain⟨r,hr⟩:∃r,r=decide (xv=t.vl):=⟨_,rfl⟩
    rw[←hr]at HEQ HMT
    clear hr hv
    have heq:=HEQ.out
    unfold Tm.vl at heq
    simp only at heq
    clear HEQ
    go_upto_region 5 with fail
    rcases r with _|_
    ·have HQ:=zO (HNO.out HMT.out)
     go_quiet (fail)
     have HXQ:=zO (HX4.out.drewN nq)
     generalize (V.drewN nq)=V2 at *
     clear heq q0 q1 q2 q3 x0 x1 x2
     go_wp2_with fail
     go_ret
     exact Ret.mk (HX1.out.trans HXQ.out) (by rw[HQ.out];rfl)
    ·have HG:=zO (HNX.out HMT.out)
     go_quiet (fail)
     have HXQ:=zO (HX4.out.drewN nq)
     generalize (V.drewN nq)=V2 at *
     clear heq q0 q1 q2 q3 x0 x1 x2
     go_wp2_with fail
     go_roundw
     case rel=>exact⟨j+1,by omega,by go_num,HG,HXQ⟩
     case measure=>simp[intOf];omega
   ·have hve:=var_ne hv
    have a2:=(HKA.out.ext HX4.out).cell (i:=2) (by simp)
    have a3:=(HKA.out.ext HX4.out).cell (i:=3) (by simp)
    simp only[ja,je]at a2 a3
    have HN4:=zO (HN.out.ext (HX1.out.trans HX4.out))
    obtain⟨v,hvn⟩:∃v,v=numN vars t.var:=⟨_,rfl⟩
    rw[←hvn]at HNUM
    have hv0 : 0≤v:=by
     rw[hvn];unfold numN;rw[if_neg hv];split <;> omega
    have HMT:Hid (mtC vars ns x t j=match frmOf ns v.toNat with|none=>true|some c=>decide (xv=x.getD c zv)):=zO (by unfold mtC;rw[if_neg hv,HGX.out,hvn];rfl)
    have HID:=zO (HIX.out V (HX1.out.trans HX4.out) v)
    have HV0:=zO hv0
    clear hvn hv hv0
    go_wp2_with (first
     | (refine wpList_lookup_V rfl _ _ 145 3 rfl Tryz.underlying145 (.int .i64 0) (zero_int _) b2 n2 _ rfl HN4.out t.var rfl hzt (.int .i64 v) HNUM.out ?_))
    refine HID.out.mono ?_
    rintro e w' ⟨rfl,r,rfl,hr⟩
    rcases hr with ⟨h0,h1⟩|⟨i,hi,rfl,h1⟩
    ·have g0:decide ((0:Int)≤r)=false:=decide_eq_false (by omega)
     have HG:=zO (HNX.out (by
      rw[HMT.out,(frmOf_none HLEN.out).2 (fun hm=>h1 (jE.2 ⟨_,hm,by have:=HV0.out;omega⟩))]))
     clear h0 h1
     go_upto_region 8 with fail
     go_quiet (fail)
     have HXQ:=zO (HX4.out.drewN nq)
     generalize (V.drewN nq)=V2 at *
     clear q0 q1 q2 q3 x0 x1 x2 a2 a3
     go_wp2_with fail
     go_roundw
     case rel=>exact⟨j+1,by omega,by go_num,HG,HXQ⟩
     case measure=>simp[intOf];omega
    ·have g0:decide ((0:Int)≤(i:Int))=true:=decide_eq_true (by omega)
     rw[jm]at hi
     have hir:i<ns.frm.length:=by have:=HLEN.out;omega
     have hi2:i<nf:=by have:=HE2.out;omega
     simp only[jy]at h1
     have hfm:=frm_at HND.out HLEN.out hi
     have hvv:v.toNat=ns.fresh[i]:=by rw[←h1];simp
     obtain⟨adr,rfl,-,r0⟩:=HR.out.int (i:=i) (by simpa using hir)
     simp only[jy]at r0
     replace r0:=(HX1.out.trans HX4.out).cell r0
     have hcx:=HFCC.out _ (jg hir)
     have HMT2:Hid (mtC vars ns x t j=decide (xv=x.getD ns.frm[i] zv)):=zO (by rw[HMT.out,hvv,hfm])
     obtain⟨ci,hci⟩:∃c,c=ns.frm[i]:=⟨_,rfl⟩
     rw[←hci]at r0 hcx HMT2
     obtain⟨ady,ey,-,y0,y1,y2⟩:=HXX.out.vl hcx
     injection ey with ey
     subst ey
     replace y0:=(HX1.out.trans HX4.out).cell y0;replace y1:=(HX1.out.trans HX4.out).cell y1;replace y2:=(HX1.out.trans HX4.out).cell y2
     have hgy:x.getD ci zv=x[ci]:=getD_at hcx
     rw[hgy]at HMT2
     have hcn:ci<nx:=by have:=HXC.out;omega
     obtain⟨yv,hyv⟩:∃y,y=x[ci]:=⟨_,rfl⟩
     rw[←hyv]at y0 y1 y2 HMT2
     have heq:=eqv_any xv yv
     obtain⟨z2,hz2⟩:∃z2,z2=decide (xv=yv):=⟨_,rfl⟩
     rw[←hz2]at HMT2
     have heq2:∀W,(Op.equalIn 10000 51 (.agg #[.int .i64 xv.kind,.int .i64 xv.int,.string xv.str]) (.agg #[.int .i64 yv.kind,.int .i64 yv.int,.string yv.str])).run Tryz.prog W=.ok z2 W:=fun W=>by rw[hz2];exact heq W
     have j1:(0:Int)≤(i:Int):=by omega
     have j2:(i:Int)<(nf:Int):=by omega
     have j3:(0:Int)≤(ci:Int):=by omega
     have j4:(ci:Int)<(nx:Int):=by omega
     clear h1 hfm hvv hci hgy hyv hz2 heq hir hi hcx
     go_upto_region 8 with fail
     rcases z2 with _|_
     ·have HQ:=zO (HNO.out HMT2.out)
      go_quiet (fail)
      have HXQ:=zO (HX4.out.drewN nq)
      generalize (V.drewN nq)=V2 at *
      clear heq2 q0 q1 q2 q3 x0 x1 x2 y0 y1 y2 a2 a3 r0
      go_wp2_with fail
      go_ret
      exact Ret.mk (HX1.out.trans HXQ.out) (by rw[HQ.out];rfl)
     ·have HG:=zO (HNX.out HMT2.out)
      go_quiet (fail)
      have HXQ:=zO (HX4.out.drewN nq)
      generalize (V.drewN nq)=V2 at *
      clear heq2 q0 q1 q2 q3 x0 x1 x2 y0 y1 y2 a2 a3 r0
      go_wp2_with fail
      go_roundw
      case rel=>exact⟨j+1,by omega,by go_num,HG,HXQ⟩
      case measure=>simp[intOf];omega
  ·obtain rfl:j=nx:=by omega
   have hdj:¬(j:Int)<(j:Int):=by omega
   have HMA:Hid (z=cdAll vars cds ns x):=zO (by rw[HZ.out,mtAll_yes (fun i hi=>HGO.out i (by have:=HNT.out;omega) hi),Bool.true_and])
   have a2:=(HKA.out.ext HXR.out).cell (i:=2) (by simp)
   simp only[ja,je]at a2
   go_wp2_with fail
   clear a2
   go_loopw [66] (fun t wr=>∃i:Nat,i≤nf∧t=.int .i64 (i:Int)∧Hid (∀k (_:k<i) (hk:k<ns.fresh.length),∀c∈cdsAt vars cds ns.fresh[k],holdV (x.getD (ns.frm[k]'(by have:=HLEN.out;omega)) zv) c=true)∧Hid (Ext w1 wr)) (fun t _=>nf-(intOf t).toNat)
   case atStart=>exact⟨0,jn _,rfl,zO (fun j h=>absurd h (by omega)),HXR⟩
   case round =>
    obtain⟨i,hi,rfl,HGI,HXI⟩:=hrel
    obtain⟨W2,rfl⟩:∃W:World,W=wr:=⟨_,rfl⟩
    by_cases hlt:i<nf
    ·have i1:(0:Int)≤(i:Int):=by omega
     have i2:(i:Int)<(nf:Int):=by omega
     have hif:i<ns.fresh.length:=by have:=HE2.out;omega
     have hir:i<ns.frm.length:=by have:=HLEN.out;omega
     obtain⟨adf,rfl,-,f0⟩:=HF.out.int (i:=i) (by simpa using hif)
     simp only[jy]at f0
     obtain⟨adr,rfl,-,r0⟩:=HR.out.int (i:=i) (by simpa using hir)
     simp only[jy]at r0
     replace f0:=(HX1.out.trans HXI.out).cell f0;replace r0:=(HX1.out.trans HXI.out).cell r0
     have hvl:=HFR.out _ (jg hif)
     have hcx:=HFCC.out _ (jg hir)
     obtain⟨adc,Bc,dc,rfl,-,c0,hCd⟩:=HC.out.cds (i:=ns.fresh[i]) (by simpa using hvl)
     simp only[jy,zK]at c0 hCd
     replace c0:=(HX1.out.trans HXI.out).cell c0
     have HNO:Hid (∀k (hk:k<(cdsAt vars cds ns.fresh[i]).length),holdV (x.getD ns.frm[i] zv) (cdsAt vars cds ns.fresh[i])[k]=false→z=false):=zO (fun k hk h=>by rw[HMA.out];exact cdAll_no HLEN.out hif hk h)
     have HNX:Hid ((∀c∈cdsAt vars cds ns.fresh[i],holdV (x.getD ns.frm[i] zv) c=true)→∀k (_:k<i+1) (hk:k<ns.fresh.length),∀c∈cdsAt vars cds ns.fresh[k],holdV (x.getD (ns.frm[k]'(by have:=HLEN.out;omega)) zv) c=true):=zO (fun h k hk hkl=>by
      rcases jB k i with h1|h1
      ·exact HGI.out k h1 hkl
      ·obtain rfl:k=i:=by omega
       exact h)
     have HSUB:Hid (∀c∈cdsAt vars cds ns.fresh[i],c∈cds):=zO (fun c hc=>(jA.1 hc).1)
     obtain⟨adx,ex,-,x0,x1,x2⟩:=HXX.out.vl hcx
     obtain⟨X',rfl⟩:∃X',X=some X':=⟨_,ex⟩
     injection ex with ex
     subst ex
     have HOKX:=zO (HOK.out _ (jg hcx))
     have hgx:x.getD ns.frm[i] zv=x[ns.frm[i]]:=getD_at hcx
     rw[hgx]at HNO HNX
     have hcn:ns.frm[i]<j:=by have:=HXC.out;omega
     obtain⟨xv,hxv⟩:∃y,y=x[ns.frm[i]]:=⟨_,rfl⟩
     rw[←hxv]at x0 x1 x2 HNO HNX HOKX
     obtain⟨lc,hlc⟩:∃l,l=cdsAt vars cds ns.fresh[i]:=⟨_,rfl⟩
     have hlcl:lc.length≤1000000:=by
      have h1:lc.length≤cds.length:=by rw[hlc];exact jG _ _
      have:=HB2.out
      omega
     rw[←hlc]at c0 hCd HNO HNX HSUB
     obtain⟨ci,hci⟩:∃c,c=ns.frm[i]:=⟨_,rfl⟩
     obtain⟨vi,hvi⟩:∃c,c=ns.fresh[i]:=⟨_,rfl⟩
     rw[←hci]at r0 x0 x1 x2 hcn
     rw[←hvi]at f0 c0 hvl
     obtain⟨ml,hml⟩:∃k,k=lc.length:=⟨_,rfl⟩
     rw[←hml]at c0 hCd hlcl
     have HML:=zO hml;have HCD2:=zO hCd
     have hvc:vi<nc:=by have:=HCC.out;omega
     have j3:(0:Int)≤(ci:Int):=by omega
     have j4:(ci:Int)<(j:Int):=by omega
     have j5:(0:Int)≤(vi:Int):=by omega
     have j6:(vi:Int)<(nc:Int):=by omega
     have a2:=(HKA.out.ext HXI.out).cell (i:=2) (by simp)
     simp only[ja,je]at a2
     clear hvl hcx hCd hgx hxv hlc hci hvi hml
     go_wp2_with fail
     clear f0 c0 a2
     go_loopw [76] (fun t wr=>∃k:Nat,k≤ml∧t=.int .i64 (k:Int)∧Hid (∀q (_:q<k) (hq:q<lc.length),holdV xv lc[q]=true)∧Hid (Ext W2 wr)) (fun t _=>ml-(intOf t).toNat)
     case atStart=>exact⟨0,jn _,rfl,zO (fun j h=>absurd h (by omega)),zO (Ext.refl _)⟩
     case round =>
      obtain⟨k,hk,rfl,HGK,HXK⟩:=hrel
      obtain⟨W3,rfl⟩:∃W:World,W=wr:=⟨_,rfl⟩
      by_cases hkl:k<ml
      ·have k1:(0:Int)≤(k:Int):=by omega
       have k2:(k:Int)<(ml:Int):=by omega
       have hkc:k<lc.length:=by have:=HML.out;omega
       obtain⟨adk,rfl,-,d0,d1,d2,d3,d4⟩:=HCD2.out.cd hkc
       have hx0:=HX1.out.trans (HXI.out.trans HXK.out)
       replace d0:=hx0.cell d0;replace d1:=hx0.cell d1;replace d2:=hx0.cell d2;replace d3:=hx0.cell d3;replace d4:=hx0.cell d4
       have hNO:=HNO.out k hkc
       have hNX:holdV xv lc[k]=true→∀q (_:q<k+1) (hq:q<lc.length),holdV xv lc[q]=true:=fun h q hq hql=>by
        rcases jB q k with h1|h1
        ·exact HGK.out q h1 hql
        ·obtain rfl:q=k:=by omega
         exact h
       have hcm:=HCD.out _ (HSUB.out _ (jg hkc))
       obtain⟨c,hcc2⟩:∃c,c=lc[k]:=⟨_,rfl⟩
       rw[←hcc2]at d0 d1 d2 d3 d4 hNO hNX hcm
       obtain⟨o1,o2,o3⟩:=cond_ok hcm.1
       have HHO:=zO (fun (V:World)=>holds_ok (w:=V) (a:=xv) (b:=⟨c.kind,c.int,c.str⟩) (op:=c.op) HOKX.out ⟨o3,hcm.2⟩ o1 o2)
       have HNO2:=zO hNO;have HNX2:=zO hNX
       obtain⟨h,hh⟩:∃h,h=holdV xv c:=⟨_,rfl⟩
       have hh2:holdI c.op (cmpV xv ⟨c.kind,c.int,c.str⟩)=h:=by rw[hh];rfl
       rw[hh2]at HHO
       rw[←hh]at HNO2 HNX2
       obtain⟨cvr,cop,ckd,cit,cst⟩:=c
       simp only at d0 d1 d2 d3 d4 HHO
       have kt:=Bk.new W3 53 [.string cvr,.int .i64 cop,.int .i64 ckd,.int .i64 cit,.string cst]
       change Bk (W3.alloc (.cells #[.string cvr,.int .i64 cop,.int .i64 ckd,.int .i64 cit,.string cst] 53)) _ _ _ at kt
       have hx4:Ext W3 (W3.alloc (.cells #[.string cvr,.int .i64 cop,.int .i64 ckd,.int .i64 cit,.string cst] 53)):=(Ext.refl W3).alloc _
       have q1:=kt.cell (i:=1) (by simp);have q2:=kt.cell (i:=2) (by simp);have q3:=kt.cell (i:=3) (by simp);have q4:=kt.cell (i:=4) (by simp)
       simp only[ja,je]at q1 q2 q3 q4
       have hx5:=(HXI.out.trans HXK.out).trans hx4
       have a3:=(HKA.out.ext hx5).cell (i:=3) (by simp)
       simp only[ja,je]at a3
       have r1:=(HXK.out.trans hx4).cell r0
       have y0:=(HX1.out.trans hx5).cell x0;have y1:=(HX1.out.trans hx5).cell x1;have y2:=(HX1.out.trans hx5).cell x2
       have HX5:=zO (HXK.out.trans hx4)
       clear hNO hNX hcm hcc2 hh hh2 o1 o2 o3 kt hx4 hx5 hx0 hkc
       go_upto_region 17 with fail
       generalize (W3.alloc (.cells #[.string cvr,.int .i64 cop,.int .i64 ckd,.int .i64 cit,.string cst] 53))=V at *
       clear d0 d1 d2 d3 d4
       unfold vagg at HHO
       simp only at HHO
       go_region_held3 (fun X=>Ext V X∧X.cell? ⟨w.heap.size,3,none⟩=some (.slice (some adr) nf rc)∧X.cell? (adr.add i)=some (.int .i64 (ci:Int))∧X.cell? (X'.add (ci*3))=some (.int .i64 xv.kind)∧X.cell? ⟨(X'.add (ci*3)).block,(X'.add (ci*3)).off+1,none⟩=some (.int .i64 xv.int)∧X.cell? ⟨(X'.add (ci*3)).block,(X'.add (ci*3)).off+2,none⟩=some (.string xv.str)∧X.cell? ⟨W3.heap.size,1,none⟩=some (.int .i64 cop)∧X.cell? ⟨W3.heap.size,2,none⟩=some (.int .i64 ckd)∧X.cell? ⟨W3.heap.size,3,none⟩=some (.int .i64 cit)∧X.cell? ⟨W3.heap.size,4,none⟩=some (.string cst))
        ((refine(fun he=>⟨he,Ext.cell he a3,Ext.cell he r1,Ext.cell he y0,Ext.cell he y1,Ext.cell he y2,Ext.cell he q1,Ext.cell he q2,Ext.cell he q3,Ext.cell he q4⟩) ?_;repeat (first|exact Ext.refl _|exact(Ext.refl _).drew|refine Ext.drew ?_|refine Ext.trans ?_ (by assumption))))
        (first
         | (go_at_call 270;(with_reducible refine(HHO.out _).mono ?_);rintro e wi ⟨rfl,hei⟩))
       have hfin:=And.left (b:=_∧_) (by assumption)
       obtain⟨Z,rfl⟩:∃X:World,X=wi:=⟨_,rfl⟩
       have HZ2:=zO (HX5.out.trans hfin)
       clear hfin hei y0 y1 y2 q1 q2 q3 q4 a3 r1
       rcases h with _|_
       ·have HQ:=zO (HNO2.out rfl)
        go_wp2_with fail
        go_ret
        exact Ret.mk (HX1.out.trans (HXI.out.trans HZ2.out)) (by rw[HQ.out];rfl)
       ·have HG:=zO (HNX2.out rfl)
        go_wp2_with fail
        go_roundw
        case rel=>exact⟨k+1,by omega,by go_num,HG,HZ2⟩
        case measure=>simp[intOf];omega
      ·obtain rfl:k=ml:=by omega
       have hdk:¬(k:Int)<(k:Int):=by omega
       have HG:=zO (HNX.out (fun c hc=>by
        obtain⟨q,hq,rfl⟩:=jv hc
        exact HGK.out q (by have:=HML.out;omega) hq))
       go_wp2_with fail
       go_roundw
       case rel=>exact⟨i+1,by omega,by go_num,HG,zO (HXI.out.trans HXK.out)⟩
       case measure=>simp[intOf];omega
    ·obtain rfl:i=nf:=by omega
     have hdi:¬(i:Int)<(i:Int):=by omega
     have HQ:Hid (z=true):=zO (by
      rw[HMA.out]
      exact cdAll_yes HLEN.out (fun k hk=>HGI.out k (by have:=HE2.out;omega) hk))
     go_wp2_with fail
     go_ret
     exact Ret.mk (HX1.out.trans HXI.out) (by rw[HQ.out];rfl)
