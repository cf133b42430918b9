/- packed -/
import Derived.Test.YtplldnnnhgnbjaaGreatDoorMv25
import Derived.Test.YtplldnnnhgnbjaaGreatDoorMv26
namespace Go.Proofs.YtplldnnnhgnbjaaGreatDoor
open Go.RowKit Go.Maps
structure CapX where
 (gS gV gX gE gF gx:Nat)
structure SmOk(n:Nat)(s:Sm):Prop where
 l2:s.fresh.length=s.frm.length
 fr:∀v∈s.fresh,v<n
 bd:∀v∈s.bound,v<n
 rows:∀c∈s.rows,(∀i∈s.frm,i<c.length)∧∀v∈c,VOk v
 nots:∀g∈s.nots,NgOk n g
 b1:s.rows.length≤1000000
 b2:s.frm.length≤10000
 b3:s.bound.length≤10000
 b4:s.nots.length≤1000000
structure ExI(c:CapX)(fv:Value)(wT:World)(K:Nat→Prop)(h1 n:Nat)(ss:List Sm)(S:Option Addr)(cs:Nat)(W:World)(O:Nat→Prop)(y:List Vl):Prop where
 bS:Bk W c.gS 215 [.slice S ss.length cs]
 bV:Bk W c.gV 126 [fv]
 bX:Bk W c.gX 74 [.slice (some ⟨c.gx,0,none⟩) n n]
 bE:Bk W c.gE 222 [.func (.func 115) #[] #[.pointer (some ⟨c.gX,0,none⟩)]]
 bF:Bk W c.gF 226 [.func (.func 120) #[] #[.pointer (some ⟨c.gS,0,none⟩),.pointer (some ⟨c.gV,0,none⟩),.pointer (some ⟨c.gX,0,none⟩),.pointer (some ⟨c.gE,0,none⟩),.pointer (some ⟨c.gF,0,none⟩)]]
 steps:Sl fo K W (.slice S ss.length cs) ss
 x:Bk W c.gx 51 (au y)
 len:y.length=n
 ok:∀v∈y,VOk v
 hK:∀q,K q→¬O q∧q≠c.gx∧q<h1
 oS:¬O c.gS
 oV:¬O c.gV
 oX:¬O c.gX
 oE:¬O c.gE
 oF:¬O c.gF
 ox:¬O c.gx
 hh:h1≤W.heap.size
 lt:c.gS<h1∧c.gV<h1∧c.gX<h1∧c.gE<h1∧c.gF<h1∧c.gx<h1
 ext:Ext wT W
 oT:∀q,O q→wT.heap.size≤q
 gT:wT.heap.size≤c.gx
structure qp(N fid:Nat)(caps:Array Value)(gx n:Nat)(wT:World)(h1:Nat)(St:List (List Vl)→(Nat→Prop)→World→Prop):Prop where
 lt:∀{L O W},St L O W→∀q,O q→q<W.heap.size
 keep:∀{L O W W' T},St L O W→Fr T W W'→(∀q,T q→¬O q)→St L O W'
 visit:∀{L O W y},St L O W→L.length<N→Ext wT W→h1≤W.heap.size→Bk W gx 51 (au y)→y.length=n→(∀v∈y,VOk v)→¬O gx →
  Calls Tryz.prog fid (#[.slice (some ⟨gx,0,none⟩) n n]++caps) W (fun e W'=>e=.returned (.tuple #[])∧∃O',St (L++[y]) O' W'∧Fr O W W'∧∀q,O' q→O q∨W.heap.size≤q)
section
variable {c:CapX} {fv:Value} {wT:World} {K:Nat→Prop} {h1 n:Nat} {ss:List Sm} {S:Option Addr} {cs:Nat} {W W':World} {O O':Nat→Prop} {y y':List Vl}
theorem ExI.turn(h:ExI c fv wT K h1 n ss S cs W O y)(hf:Fr (fun q=>O q∨q=c.gx) W W')(ho:∀q,O' q→O q∨W.heap.size≤q)(hx:Bk W' c.gx 51 (au y'))(hl:y'.length=n)(sg:∀v∈y',VOk v):ExI c fv wT K h1 n ss S cs W' O' y':=by
 have se:∀{g:Nat} {t:TypeId} {l:List Value},Bk W g t l→t≠51→g≠c.gx:=fun {g t l} hb ht e=>by
  subst e
  have h1:=h.x
  unfold Bk at hb h1
  rw[hb]at h1
  injection h1 with h1;injection h1 with _ h1
  exact ht h1
 have hb:∀{g:Nat} {t:TypeId} {l:List Value},Bk W g t l→t≠51→¬O g→Bk W' g t l:=fun hb ht hg=>hb.fr hf (fun e=>e.elim hg (se hb ht))
 have hn:∀{g:Nat},g<h1→¬O g→¬O' g:=fun hg hO e=>(ho _ e).elim hO (fun hq=>by have:=h.hh;omega)
 obtain⟨l1,l2,l3,l4,l5,l6⟩:=h.lt
 exact⟨hb h.bS (by decide) h.oS,hb h.bV (by decide) h.oV,hb h.bX (by decide) h.oX,hb h.bE (by decide) h.oE,hb h.bF (by decide) h.oF,h.steps.fr hf (fun q hq e=>e.elim (h.hK q hq).1 (h.hK q hq).2.1),hx,hl,sg,fun q hq=>⟨hn (h.hK q hq).2.2 (h.hK q hq).1,(h.hK q hq).2⟩,hn l1 h.oS,hn l2 h.oV,hn l3 h.oX,hn l4 h.oE,hn l5 h.oF,hn l6 h.ox,jr h.hh hf.size,h.lt,hf.new h.ext (fun q hq=>hq.elim (h.oT q) (fun e=>e ▸ h.gT)),fun q hq=>(ho q hq).elim (h.oT q) (fun h2=>jr h.ext.size h2),h.gT⟩
theorem ExI.more(h:ExI c fv wT K h1 n ss S cs W O y)(he:Ext W W'):ExI c fv wT K h1 n ss S cs W' O y:=h.turn (he.fr _) (fun _ hq=>.inl hq) (h.x.ext he) h.len h.ok
end
def dV(s:Stp)(f:List Vl→List (List Vl)×List Vl)(acc:List (List Vl)×List Vl)(c:List Vl):List (List Vl)×List Vl :=
 if s.bad (cz acc.2 c (s.fresh.zip s.frm))=true then (acc.1,cz acc.2 c (s.fresh.zip s.frm)) else (acc.1++(f (cz acc.2 c (s.fresh.zip s.frm))).1,(f (cz acc.2 c (s.fresh.zip s.frm))).2)
theorem ni(s:Stp)(f:List Vl→List (List Vl)×List Vl):∀(l:List (List Vl)) (acc:List (List Vl)×List Vl),eH s f l acc=l.foldl (dV s f) acc
 | [],_=>rfl
 | c::l,acc=>by
  rw[eH,ni s f l,zr]
  rfl
theorem fold_take{α β : Type}(f : β→α→β)(a : β){l:List α}{j:Nat}(hj:j<l.length):(l.take (j+1)).foldl f a=f ((l.take j).foldl f a) l[j]:=by
 rw[jj hj,zD]
 rfl
theorem pp(c:List Vl)(p:Nat×Nat):∀(l:List (Nat×Nat)) (y:List Vl),cz y c (l++[p])=(cz y c l).set p.1 (c.getD p.2 zv)
 | [],_=>rfl
 | q::l,y=>by rw[zw,cz,pp c p l,cz]
theorem oh:∀(y:List Vl) (v:Nat) (a:Vl),v<y.length→au (y.set v a)=(((au y).set (v*3) (.int .i64 a.kind)).set (v*3+1) (.int .i64 a.int)).set (v*3+2) (.string a.str)
 | [],v,a,h=>by simp at h
 | b::y,0,a,_=>rfl
 | b::y,v+1,a,h=>by
  have ih:=oh y v a (by simpa using h)
  have e1:∀l:List Vl,∀d:Vl,au (d::l)=.int .i64 d.kind::.int .i64 d.int::.string d.str::au l:=fun _ _=>rfl
  rw[ji,e1,ih,e1]
  rw[show (v+1)*3=v*3+1+1+1 by omega,show v*3+1+1+1+1=v*3+1+1+1+1 from rfl,show v*3+1+1+1+2=v*3+2+1+1+1 by omega]
  simp only[ji]
theorem setF_ok{c:List Vl}(hc:∀v∈c,VOk v):∀(l:List (Nat×Nat)) (y:List Vl),(∀p∈l,p.2<c.length)→(∀v∈y,VOk v)→∀v∈cz y c l,VOk v
 | [],_,_,h=>h
 | p::l,y,hl,h=>setF_ok hc l _ (fun q hq=>hl q (js _ hq)) (fun v hv=>by
  rcases List.mem_or_eq_of_mem_set hv with hv|rfl
  ·exact h v hv
  ·have h2:=hl p (by simp)
   rw[bA h2]
   exact hc _ (jf h2))
theorem kJ{w:World}{g n:Nat}{y:List Vl}(h:Bk w g 51 (au y))(hn:y.length=n):Sl aM (fun q=>q=g) w (.slice (some ⟨g,0,none⟩) n n) y:=by
 subst hn
 refine⟨_,_,rfl,jo _,fun i hi=>⟨_,_,rfl,rfl,rfl,fun j hj=>?_⟩⟩
 have se:j<3:=hj
 rw[cJ]
 have hl:=og y
 have hk:i*aM.sz+j<(au y).length:=by show i*3+j<_;omega
 have h2:=h.cell hk
 rw[h2]
 have e:∀(y:List Vl) (i:Nat) (hi:i<y.length) (j:Nat) (hj:j<3),(au y)[i*3+j]?=(Vl.cells y[i])[j]?:=by
  intro y
  induction y with
  | nil=>intro i hi;simp at hi
  | cons a l ih =>
   intro i hi j hj
   have e1:au (a::l)=Vl.cells a++au l:=rfl
   have e2:(Vl.cells a).length=3:=rfl
   rcases i with _|i
   ·rw[e1,zi (by rw[e2];omega)]
    simp
   ·rw[e1,zg (by rw[e2];omega),e2,show (i+1)*3+j-3=i*3+j by omega,ih i (by simpa using hi) j hj]
    rfl
 have h3:(au y)[i*aM.sz+j]?=(Vl.cells y[i])[j]?:=e y i hi j se
 rw[jl hk,jl hj]at h3
 exact h3
def pC(c:CapX)(fv:Value)(wT:World)(K:Nat→Prop)(h1 n:Nat)(ss:List Sm)(S:Option Addr)(cs:Nat)(St:List (List Vl)→(Nat→Prop)→World→Prop)(L:List (List Vl))(O:Nat→Prop)(R:List (List Vl)×List Vl)(W:World)(e:Ending)(W':World):Prop :=
 e=.returned (.tuple #[])∧∃O',St (L++R.1) O' W'∧ExI c fv wT K h1 n ss S cs W' O' R.2∧Fr (fun q=>O q∨q=c.gx) W W'∧∀q,O' q→O q∨W.heap.size≤q
theorem candS_len(s:Stp)(f:List Vl→List (List Vl)×List Vl)(se:List (List Vl)×List Vl)(c:List Vl):se.1.length≤(dV s f se c).1.length:=by
 unfold dV
 split
 ·exact jo _
 ·rw[jm]
  exact Nat.le_add_right _ _
theorem gO(s:Stp)(f:List Vl→List (List Vl)×List Vl):∀(l:List (List Vl)) (acc:List (List Vl)×List Vl),acc.1.length≤(l.foldl (dV s f) acc).1.length
 | [],_=>jo _
 | c::l,acc=>jr (candS_len s f acc c) (gO s f l _)
theorem nj(s:Stp)(f:List Vl→List (List Vl)×List Vl)(l:List (List Vl))(se:List (List Vl)×List Vl)(j:Nat):((l.take j).foldl (dV s f) se).1.length≤(l.foldl (dV s f) se).1.length:=by
 have h:=gO s f (l.drop j) ((l.take j).foldl (dV s f) se)
 rwa [←zD,jX]at h
set_option maxRecDepth 20000 in
set_option maxHeartbeats 3200000 in
theorem extend_any{c:CapX}{N fid:Nat}{caps:Array Value}{wT:World}{K:Nat→Prop}{h1 n:Nat}{ss:List Sm}{S:Option Addr}{cs:Nat}{St:List (List Vl)→(Nat→Prop)→World→Prop}(eg:∀args w,(callFunc fid args).run Tryz.prog w=.ok (.enter fid args) w)(hv:qp N fid caps c.gx n wT h1 St)(vD:∀s∈ss,SmOk n s)(hn:n≤100000)(hl:ss.length≤1000)(tK:eG wT) :
  ∀(m k:Nat),k+m=ss.length→∀(L:List (List Vl)) (O:Nat→Prop) (y:List Vl) (W:World),ExI c (.func (.func fid) #[] caps) wT K h1 n ss S cs W O y→St L O W→L.length+(cC ((ss.drop k).map stpM) y).1.length≤N →
  Calls Tryz.prog 120 #[.int .i64 (k:Int),.pointer (some ⟨c.gS,0,none⟩),.pointer (some ⟨c.gV,0,none⟩),.pointer (some ⟨c.gX,0,none⟩),.pointer (some ⟨c.gE,0,none⟩),.pointer (some ⟨c.gF,0,none⟩)] W
   (pC c (.func (.func fid) #[] caps) wT K h1 n ss S cs St L O (cC ((ss.drop k).map stpM) y) W):=by
 have HV:=zN hv;have wc:=zN vD;have um:=zN tK
 clear hv vD tK
 intro m
 induction m with
 | zero =>
  intro k hk L O y W hI hS hN
  have wf:=hI
  obtain⟨ns,tG⟩:=sd ss.length
  have wt:k=ns:=by omega
  have e0:ss.drop k=[]:=zb (by omega)
  rw[e0]at hN ⊢
  have s0:=hI.bS.c0;have v0:=hI.bV.c0;have x0:=hI.bX.c0
  rw[←tG]at s0
  have un:=zN (HV.out.visit hS (show L.length<N from hN) hI.ext hI.hh hI.x hI.len hI.ok hI.ox)
  have HI:=zN hI
  clear hI wf hS hk e0 tG hN
  subst wt
  go_enter Tryz.func120,Tryz.ntmps120
  go_wp2_with (go_at_fn fid;refine un.out.mono ?_;rintro e W' ⟨rfl,O',wj,uv,vA⟩)
  have sp:pC c (.func (.func fid) #[] caps) wT K h1 n ss S cs St L O ([y],y) W (.returned (.tuple #[])) W' :=
   ⟨rfl,O',wj,HI.out.turn (uv.mono (fun q _ hq=>.inl hq)) vA (HI.out.x.fr uv HI.out.ox) HI.out.len HI.out.ok,uv.mono (fun q _ hq=>.inl hq),vA⟩
  exact bodyPost_ret (v:=.tuple #[]) (by simp[results,Tryz.results120,go_sem]) rfl sp
 | succ m ih =>
  intro k hk L O y W hI hS hN
  have tW:k<ss.length:=by omega
  have sy:=wc.out _ (jf tW)
  have sD:ss.drop k=ss[k]::ss.drop (k+1):=jV tW
  rw[sD,jU]at hN ⊢
  obtain⟨ad,b,A1,c1,A2,c2,A3,c3,A4,c4,eS,y0,y1,y2,y3,y4,sJ,vC⟩:=hI.steps.sm tW
  subst eS
  have tR:=fun (L2:List (List Vl)) (O2:Nat→Prop) (z:List Vl) (W2:World) (h1:ExI c (.func (.func fid) #[] caps) wT K h1 n ss (some ad) cs W2 O2 z) (h2:St L2 O2 W2) (h3:L2.length+(cC ((ss.drop (k+1)).map stpM) z).1.length≤N)=>ih (k+1) (by omega) L2 O2 z W2 h1 h2 h3
  obtain⟨s,hs⟩:=sd (ss[k])
  rw[←hs]at y1 y2 y3 y4 vC sy hN ⊢
  obtain⟨rest,sF⟩:=sd ((ss.drop (k+1)).map stpM)
  rw[←sF]at tR hN ⊢
  rw[show cC (stpM s::rest) y=eH (stpM s) (cC rest) (fT (stpM s) y) ([],y) from rfl,ni]at hN ⊢
  have sC:((k+1:Nat):Int)=(k:Int)+1:=by omega
  rw[sC]at tR
  have vO:=zN tR
  obtain⟨ns,tG⟩:=sd ss.length
  have wy:ns≤1000:=by omega
  obtain⟨bq,v1,v2,v3,v4,eq,wl,ux,uy,uA,uB,uG⟩:=vC
  injection eq with q0 q1;injection q0 with q0;injection q0 with q0;subst q0
  injection q1 with q2 q3;subst q2;injection q3 with q2 q4;subst q2;injection q4 with q2 q5;subst q2;injection q5 with q2 q6;subst q2
  clear q6
  obtain⟨cds,su⟩:=sd (fT (stpM s) y)
  rw[←su]at hN ⊢
  have vh:∀j:Nat,L.length+((cds.take j).foldl (dV (stpM s) (cC rest)) ([],y)).1.length≤N:=fun j=>jr (Nat.add_le_add_left (nj (stpM s) (cC rest) cds ([],y) j) _) hN
  have vV:=zN vh
  clear hN vh
  have uw:∀V,ot K V b (lh s.rows s.key)→∃B d,(∃nn ff,aI V b nn ff∧(ff (di (aJ y s.bound))).getD aB=.slice B cds.length d)∧Sl aG K V (.slice B cds.length d) cds:=fun V hg=>by
   obtain⟨nn,ff,hm,hr⟩:=hg
   have h2:=hr (di (aJ y s.bound))
   rw[show lh s.rows s.key (di (aJ y s.bound))=cds from by rw[su];exact grp_cands (stpM s) y]at h2
   obtain⟨B,d,e⟩:=h2.sl
   rw[e]at h2
   exact⟨B,d,⟨nn,ff,hm,e⟩,h2⟩
  have ua:(aJ y s.bound).length=s.bound.length:=by unfold aJ;rw[jk]
  obtain⟨nb,uE⟩:=sd s.bound.length
  obtain⟨nf,tZ⟩:=sd s.fresh.length
  obtain⟨nr,uI⟩:=sd s.frm.length
  obtain⟨nn,uH⟩:=sd s.nots.length
  obtain⟨ks,tX⟩:=sd (di (aJ y s.bound))
  rw[←tX]at uw
  rw[←uE]at y1 uy ua;rw[←tZ]at y2 uA;rw[←uI]at y3 uB;rw[←uH]at y4 uG
  have wk:nb≤10000:=by rw[uE];exact sy.b3
  have wv:nf≤10000:=by rw[tZ,sy.l2];exact sy.b2
  have sP:∀v∈aJ y s.bound,VOk v:=fun v hv=>by
   obtain⟨i,hi,rfl⟩:=jG.1 hv
   have h2:=sy.bd i hi
   have h3:i<y.length:=by rw[hI.len];exact h2
   rw[bA h3]
   exact hI.ok _ (jf h3)
  have tD:ks.size≤maxLen:=by
   rw[tX,fH]
   have h2:=fF sP
   rw[ua]at h2
   have h3:nb*1048700≤10000*1048700:=jW _ wk
   simp only[maxLen]
   omega
  have hx1:Ext W (W.alloc (.cells #[.map (some b),.slice A1 nb c1,.slice A2 nf c2,.slice A3 nr c3,.slice A4 nn c4] 229)):=(Ext.refl W).alloc _
  have k7:=Bk.new W 229 [.map (some b),.slice A1 nb c1,.slice A2 nf c2,.slice A3 nr c3,.slice A4 nn c4]
  change Bk (W.alloc (.cells #[.map (some b),.slice A1 nb c1,.slice A2 nf c2,.slice A3 nr c3,.slice A4 nn c4] 229)) _ _ _ at k7
  have vZ:=zN (fun (V:World) (hV:Ext W V)=>(ll (kJ (hI.x.ext hV) hI.len) (uy.ext hV) (fun q hq=>by
   obtain⟨i,hi,rfl⟩:=jG.1 hq
   have:=sy.bd i hi
   omega) (show nb≤1048576 by omega)).mono (R':=fun e w'=>Ext V w'∧∃AP cp,e=.returned (.slice AP nb cp)∧Sl aM (fun q=>V.heap.size≤q) w' (.slice AP nb cp) (aJ y s.bound)) (by
   rintro e w' ⟨he,AP,cp,rfl,tI⟩
   rw[pm,ua]at *
   exact⟨he,AP,cp,rfl,tI⟩))
  have vR:=zN (fun (F:Nat→Prop) (V:World) (AP:Option Addr) (cp:Nat) (hV:Ext W V) (tI:Sl aM F V (.slice AP nb cp) (aJ y s.bound))=>(eM tI (show nb≤100000 by omega) sP (um.out.fore (hI.ext.trans hV))).mono (R':=fun e w'=>Ext V w'∧e=.returned (.string ks)) (by
   rintro e w' ⟨y9,rfl,he,rfl⟩
   exact⟨he,by rw[tX];rfl⟩))
  have wq:=ux.fr (hx1.fr (fun _=>False)) (fun h=>h) (fun _ _ h=>h)
  obtain⟨B,d,⟨mn,ff,vz,vw⟩,sU⟩:=uw W ux
  have uQ:=zN (fun (X:World) (hX:Ext W X)=>(vz.ext hX).look Tryz.underlying227 (z:=aB) (by kernel_rfl) tD vw)
  obtain⟨nc,tY⟩:=sd cds.length
  rw[←tY]at sU uQ
  have wu:nc≤1000000:=by
   rw[tY,su]
   exact jr (jF _ _) sy.b1
  have s0:=hI.bS.c0
  have x0:=hI.bX.c0
  rw[←tG]at s0
  have e0:((k:Int) == (ns:Int))=false:=by simp;omega
  have i1:(0:Int)≤(k:Int):=by omega
  have i2:(k:Int)<(ns:Int):=by omega
  have x1:=hx1.cell x0
  have HI:=zN hI;have uN:=zN (hI.more hx1);have tc:=zN sy;have uV:=zN hS;have uK:=zN sU;have uR:=zN tY;have ub:=zN su;have uO:=zN uA;have uP:=zN uB;have uT:=zN uG;have ug:=zN k7;have sS:=zN hx1
  have uS:=zN tZ;have vX:=zN uI;have vW:=zN uH
  have t0:=k7.c0;have t1:=k7.c1;have t2:=k7.c2
  have tE:=k7.lt
  clear hI hS hk sy sD tR sF sC tG wl ux uy uA uB uG su uw ua uE tZ uI uH tX sP k7 hx1 wq vz vw sU tY ih hs tW sJ tD
  go_enter Tryz.func120,Tryz.ntmps120
  go_upto_region 3 with fail
  obtain⟨g7,vy⟩:=sd W.heap.size
  have wP:W.heap.size≤g7:=by omega
  rw[←vy]at t0 t1 t2 ug tE ⊢
  obtain⟨W1,vp⟩:=sd ((W.alloc (.cells #[.map (some b),.slice A1 nb c1,.slice A2 nf c2,.slice A3 nr c3,.slice A4 nn c4] 229)))
  rw[←vp]at t0 t1 t2 ug tE sS uN x1 ⊢
  have tB:∀q,q<W.heap.size→q≠g7:=fun q hq=>by omega
  have uM:=zN tB
  have l0:=sS.out
  clear vy vp s0 x0 y0 y1 y2 y3 y4 tB
  go_region_held3 (fun V=>Ext W1 V∧V.cell? ⟨g7,0,none⟩=some (.map (some b))∧V.cell? ⟨g7,1,none⟩=some (.slice A1 nb c1)∧V.cell? ⟨c.gX,0,none⟩=some (.slice (some ⟨c.gx,0,none⟩) n n)∧(Instr.lookup 227 (.map (some b)) (.string ks) false).run Tryz.prog V=.ok (.slice B nc d) V)
   ((refine(fun he=>⟨he,Ext.cell he t0,Ext.cell he t1,Ext.cell he x1,uQ.out _ (sS.out.trans he)⟩) ?_;repeat (first|exact Ext.refl _|exact(Ext.refl _).drew|refine Ext.drew ?_|refine Ext.trans ?_ (by assumption))))
   (first
    | (go_at_call 51;(with_reducible refine(vZ.out _ (sS.out.trans (And.left (by assumption)))).mono ?_);rintro e wi ⟨wO,AP,cp,rfl,tI⟩)
    | (go_at_call 52;(with_reducible refine(vR.out _ _ _ _ (sS.out.trans (And.left (by assumption))) tI).mono ?_);rintro e wA ⟨wm,rfl⟩))
  have sp:=And.left (b:=_∧_) (by assumption)
  obtain⟨X,rfl⟩:∃X:World,X=wA:=⟨_,rfl⟩
  have sQ:=sS.out.trans sp
  have vP:=zN (uN.out.more sp);have wd:=zN ((HV.out.keep uV.out (sQ.fr (fun _=>False)) (fun _ h=>h.elim)));have wD:=zN (uK.out.ext sQ);have vQ:=zN (ug.out.ext sp);have vM:=zN (uO.out.ext sQ);have vN:=zN (uP.out.ext sQ);have vU:=zN (uT.out.ext sQ);have we:=zN sQ
  have vn:¬O g7:=fun h=>uM.out _ (HV.out.lt uV.out _ h) rfl
  have vY:=zN vn
  clear sp sQ vn t0 t1 t2 x1 l0
  go_wp2_with fail
  go_loopw [32] (fun t wr=>∃(j:Nat) (O':Nat→Prop),j≤nc∧t=.int .i64 (j:Int)∧Hid (St (L++((cds.take j).foldl (dV (stpM s) (cC rest)) ([],y)).1) O' wr)∧Hid (ExI c (.func (.func fid) #[] caps) wT K h1 n ss (some ad) cs wr O' ((cds.take j).foldl (dV (stpM s) (cC rest)) ([],y)).2)∧Hid (Fr (fun q=>O q∨q=c.gx) W wr)∧Hid (∀q,O' q→O q∨W.heap.size≤q)∧Hid (¬O' g7)∧Hid (Bk wr g7 229 [.map (some b),.slice A1 nb c1,.slice A2 nf c2,.slice A3 nr c3,.slice A4 nn c4])) (fun t _=>nc-(intOf t).toNat)
  case atStart=>exact⟨0,O,jn _,rfl,zN (by simpa using wd.out),zN (by simpa using vP.out),zN (we.out.fr _),zN (fun q hq=>.inl hq),vY,vQ⟩
  case round =>
   obtain⟨j,O',hj,rfl,tQ,sq,sH,tP,HG,tO⟩:=hrel
   obtain⟨Y,rfl⟩:∃Y:World,Y=wr:=⟨_,rfl⟩
   by_cases hlt:j<nc
   ·have j1:(0:Int)≤(j:Int):=by omega
    have j2:(j:Int)<(nc:Int):=by omega
    have tU:j<cds.length:=by have:=uR.out;omega
    have tj:∀q,K q→¬(O q∨q=c.gx):=fun q hq e=>e.elim (HI.out.hK q hq).1 (HI.out.hK q hq).2.1
    obtain⟨wF,B',d',rfl,sJ,c0,sx⟩:=(uK.out.fr sH.out tj).row tU
    have wg:=uO.out.fr sH.out tj;have wh:=uP.out.fr sH.out tj;have tn:=uT.out.fr sH.out tj
    have si:=fold_take (dV (stpM s) (cC rest)) (([],y):List (List Vl)×List Vl) tU
    have tF:∀x∈cds,x∈s.rows:=by
     rw[ub.out]
     exact fun x hx=>(jC.1 hx).1
    have sN:=tc.out.rows cds[j] (tF _ (jf tU))
    clear tF
    obtain⟨cd,sU⟩:=sd (cds[j])
    rw[←sU]at c0 sx si sN
    obtain⟨sg,tq⟩:=sd ((cds.take j).foldl (dV (stpM s) (cC rest)) ([],y))
    rw[←tq]at tQ sq si
    obtain⟨nd,uF⟩:=sd cd.length
    rw[←uF]at c0 sx
    have sB:=zN si;have sI:=zN sN;have ui:=zN sx;have vT:=zN uF
    have y2:=tO.out.c2
    have uZ:∀v∈s.fresh,v<n:=tc.out.fr
    obtain⟨wB,wH,e2,-,tg⟩:=wg
    injection e2 with e2a e2b e2c
    subst e2a
    obtain⟨wC,wI,e3,-,th⟩:=wh
    injection e3 with e3a e3b e3c
    subst e3a
    have ue:=zN tg;have uf:=zN th;have uh:=zN tn;have vL:=zN uZ
    have tC:g7≠c.gx:=fun e=>by have:=HI.out.lt.2.2.2.2.2;have:=HI.out.hh;have:=uM.out c.gx (by omega);exact this e.symm
    have tp:c.gX≠c.gx:=fun e=>by
     have h3:=sq.out.bX
     have h4:=sq.out.x
     rw[e]at h3
     unfold Bk at h3 h4
     rw[h3]at h4
     injection h4 with h4;injection h4 with _ h4
     exact absurd h4 (by decide)
    have sw:=zN tC;have tf:=zN tp
    have ve:∀q,K q→q≠c.gx:=fun q hq=>(HI.out.hK q hq).2.1
    have se:=zN ve
    clear tj si sN sx sU tq uF tg th tn uZ e2b e2c e3b e3c sJ tU tC tp ve
    go_wp2_with fail
    clear c0 y2
    go_loopw [39] (fun t wr=>∃i:Nat,i≤nf∧t=.int .i64 (i:Int)∧Hid (Bk wr c.gx 51 (au (cz sg.2 cd ((s.fresh.zip s.frm).take i))))∧Hid (Fr (fun q=>q=c.gx) Y wr)) (fun t _=>nf-(intOf t).toNat)
    case atStart=>exact⟨0,jn _,rfl,zN (by simpa [cz] using sq.out.x),zN (Fr.refl _ _)⟩
    case round =>
     obtain⟨i,hi,rfl,sr,sh⟩:=hrel
     obtain⟨V,rfl⟩:∃V:World,V=wr:=⟨_,rfl⟩
     by_cases hil:i<nf
     ·have p1:(0:Int)≤(i:Int):=by omega
      have p2:(i:Int)<(nf:Int):=by omega
      have uC:i<s.fresh.length:=by have:=uS.out;omega
      have uD:i<s.frm.length:=by have:=tc.out.l2;omega
      have ww:i<nr:=by have:=vX.out;omega
      have p3:(i:Int)<(nr:Int):=by omega
      obtain⟨wG,rfl,vu,f0⟩:=ue.out.int (i:=i) (by simpa using uC)
      obtain⟨uo,rfl,uJ,r0⟩:=uf.out.int (i:=i) (by simpa using uD)
      simp only[jy]at f0 r0
      replace f0:=sh.out.cell f0 (by rw[aT];exact se.out _ vu)
      replace r0:=sh.out.cell r0 (by rw[aT];exact se.out _ uJ)
      have tT:=sI.out.1 _ (jf uD)
      obtain⟨sT,rfl,tu,q0,q1,q2⟩:=ui.out.vl tT
      replace q0:=sh.out.cell q0 (by rw[aT];exact se.out _ tu)
      replace q1:=sh.out.cell q1 (by simp only[aT];exact se.out _ tu)
      replace q2:=sh.out.cell q2 (by simp only[aT];exact se.out _ tu)
      have vE:=vL.out _ (jf uC)
      have tM:i<(s.fresh.zip s.frm).length:=by rw[zu];omega
      have tH:cz sg.2 cd ((s.fresh.zip s.frm).take (i+1))=(cz sg.2 cd ((s.fresh.zip s.frm).take i)).set s.fresh[i] cd[s.frm[i]]:=by
       rw[jj tM,pp,zB,bA tT]
      have sM:(cz sg.2 cd ((s.fresh.zip s.frm).take i)).length=n:=by rw[ls];exact sq.out.len
      have tL:=oh (cz sg.2 cd ((s.fresh.zip s.frm).take i)) s.fresh[i] cd[s.frm[i]] (by rw[sM];exact vE)
      rw[←tH]at tL
      have vt:(au (cz sg.2 cd ((s.fresh.zip s.frm).take i))).length=n*3:=by rw[og,sM]
      obtain⟨v,hv⟩:=sd (s.fresh[i])
      obtain⟨fi,sL⟩:=sd (s.frm[i])
      obtain⟨a,ha⟩:=sd (cd[s.frm[i]])
      rw[←ha]at q0 q1 q2 tL
      rw[←sL]at r0 q0 q1 q2
      rw[←hv]at f0 vE tL
      have wn:fi<nd:=by rw[sL,vT.out];exact tT
      have uW:=zN tL
      obtain⟨wJ,tw⟩:∃x:List Value,x=au (cz sg.2 cd ((s.fresh.zip s.frm).take i)):=⟨_,rfl⟩
      rw[←tw]at sr vt uW
      have g1:(0:Int)≤(fi:Int):=by omega
      have g2:(fi:Int)<(nd:Int):=by omega
      have g3:(0:Int)≤(v:Int):=by omega
      have g4:(v:Int)<(n:Int):=by omega
      have t3:=(tO.out.fr sh.out sw.out).c3
      have x0:=(sq.out.bX.fr sh.out tf.out).c0
      obtain⟨wQ,o0⟩:∃u,V.cell? ⟨c.gx,v*3,none⟩=some u:=⟨_,sr.out.cell (by omega)⟩
      obtain⟨wR,o1⟩:∃u,V.cell? ⟨c.gx,v*3+1,none⟩=some u:=⟨_,sr.out.cell (by omega)⟩
      obtain⟨wS,o2⟩:∃u,V.cell? ⟨c.gx,v*3+2,none⟩=some u:=⟨_,sr.out.cell (by omega)⟩
      have u0:=sr.out.free (v*3);have u1:=sr.out.free (v*3+1);have u2:=sr.out.free (v*3+2)
      have ut:=((sr.out.set (v*3) (.int .i64 a.kind)).set (v*3+1) (.int .i64 a.int)).set (v*3+2) (.string a.str)
      rw[←uW.out]at ut
      have vH:=zN ut
      have tA:Fr (fun q=>q=c.gx) Y (((V.setCell ⟨c.gx,v*3,none⟩ (.int .i64 a.kind)).setCell ⟨c.gx,v*3+1,none⟩ (.int .i64 a.int)).setCell ⟨c.gx,v*3+2,none⟩ (.string a.str)):=((sh.out.setCell (p:=⟨c.gx,v*3,none⟩) (.inl rfl) _).setCell (p:=⟨c.gx,v*3+1,none⟩) (.inl rfl) _).setCell (p:=⟨c.gx,v*3+2,none⟩) (.inl rfl) _
      have ud:=zN tA
      have sR:=zN (fun (Z:World) (hZ:Fr (fun q=>q=c.gx) V Z) (p:Addr) (u:Value) (hp:p.block≠c.gx) (hc:V.cell? p=some u)=>hZ.cell hc hp)
      have uX:=sw.out;have tp:=tf.out
      have vB:(uo.add i).block≠c.gx:=by rw[aT];exact se.out _ uJ
      have tS:(sT.add (fi*3)).block≠c.gx:=by rw[aT];exact se.out _ tu
      clear tT tH sM tL vt hv sL ha tw ut tA vu uJ tu uC uD tM
      go_upto_region 9 with fail
      clear f0
      go_region_held3 (fun Z=>Fr (fun q=>q=c.gx) V Z∧Z.cell? ⟨c.gX,0,none⟩=some (.slice (some ⟨c.gx,0,none⟩) n n)∧Z.cell? ⟨g7,3,none⟩=some (.slice (some uo) nr c3)∧Z.cell? (uo.add i)=some (.int .i64 (fi:Int))∧Z.cell? (sT.add (fi*3))=some (.int .i64 a.kind)∧Z.cell? ⟨(sT.add (fi*3)).block,(sT.add (fi*3)).off+1,none⟩=some (.int .i64 a.int)∧Z.cell? ⟨(sT.add (fi*3)).block,(sT.add (fi*3)).off+2,none⟩=some (.string a.str))
       ((refine(fun hf=>⟨hf,sR.out _ hf _ _ tp x0,sR.out _ hf _ _ uX t3,sR.out _ hf _ _ vB r0,sR.out _ hf _ _ tS q0,sR.out _ hf _ _ tS q1,sR.out _ hf _ _ tS q2⟩) ?_;repeat (first|exact Fr.refl _ _|assumption|refine Fr.drew ?_|refine Fr.setCell ?_ (by first|exact .inl rfl|(left;rfl)) _)))
       (fail)
      have vG:=zN (vH.out.ext (Ext.refl _).drew);have sA:=zN (ud.out.drew)
      clear o0 o1 o2 u0 u1 u2 q0 q1 q2 r0 t3 x0 uX tp vB tS
      go_wp2_with fail
      go_roundw
      case rel=>exact⟨i+1,by omega,by go_num,vG,sA⟩
      case measure=>simp[intOf];omega
     ·obtain rfl:i=nf:=by omega
      have wM:¬(i:Int)<(i:Int):=by omega
      have et:(s.fresh.zip s.frm).take i=s.fresh.zip s.frm:=jp (by rw[zu];have:=uS.out;omega)
      rw[et]at sr
      obtain⟨z2,sV⟩:=sd (cz sg.2 cd (s.fresh.zip s.frm))
      have tt:(stpM s).bad (cz sg.2 cd ((stpM s).fresh.zip (stpM s).frm))=s.nots.any (ngB z2):=by rw[sV];rfl
      have sO:dV (stpM s) (cC rest) sg cd=if s.nots.any (ngB z2)=true then (sg.1,z2) else (sg.1++(cC rest z2).1,(cC rest z2).2):=by
       unfold dV
       rw[tt,sV]
       rfl
      rw[←sV]at sr
      have tN:∀v∈z2,VOk v:=by
       rw[sV]
       exact setF_ok sI.out.2 _ _ (fun p hp=>sI.out.1 _ (List.of_mem_zip (a:=p.1) (b:=p.2) hp).2) sq.out.ok
      have tM:z2.length=n:=by rw[sV,ls];exact sq.out.len
      have sj:=sq.out.turn (sh.out.mono (T:=fun q=>O' q∨q=c.gx) (fun q _ e=>.inr e)) (fun q h=>.inl h) sr.out tM tN
      have tJ:=HV.out.keep tQ.out sh.out (fun q e=>by rw[e];exact sq.out.ox)
      have tn:=uh.out.fr sh.out se.out
      have uq:=mu sj.bX (kJ sj.x sj.len) tn tc.out.nots (by rw[vW.out];exact jr tc.out.b4 (by decide)) (show n≤1048576 by omega)
      obtain⟨bd,vq⟩:=sd (s.nots.any (ngB z2))
      rw[←vq]at uq sO
      have td:=zN sO;have uc:=zN sj;have uk:=zN tJ;have vJ:=zN uq
      have sX:=zN (tO.out.fr sh.out sw.out)
      have t4:=sX.out.c4
      have w4:=sj.bE.c0
      have ws:=tO.out.lt
      have wL:=sh.out.size
      clear et sV tt sO tN tM sj tJ tn uq vq
      go_wp2_with fail
      refine vJ.out.mono ?_
      rintro e V2 ⟨y9,rfl,sK,rfl⟩
      have wE:=zN sK
      have sG:=zN (uc.out.more sK);have te:=zN (HV.out.keep uk.out (sK.fr (fun _=>False)) (fun _ h=>h.elim));have sW:=zN (sX.out.ext sK)
      have sZ:=zN (((sH.out.trans (sh.out.mono (T:=fun q=>O q∨q=c.gx) (fun q _ e=>.inr e))).ext sK))
      have wK:=sK.size
      clear sK t4 w4
      rcases bd with _|_
      ·have tz:(cds.take (j+1)).foldl (dV (stpM s) (cC rest)) ([],y)=(sg.1++(cC rest z2).1,(cC rest z2).2):=by rw[sB.out,td.out,if_neg (by decide)]
       have sA:=zN tz
       have sY:=zN (vO.out (L++sg.1) O' z2 V2 sG.out te.out (by have h:=vV.out (j+1);rw[sA.out,jm]at h;rw[jm];omega))
       have f0:=sG.out.bF.c0
       clear tz
       go_wp2_with fail
       refine sY.out.mono ?_
       rintro e V3 ⟨rfl,O3,vo,uY,vd,vm⟩
       have wa:=zN vo;have vK:=zN uY;have uL:=zN vd;have uU:=zN vm
       clear vo uY vd vm f0
       go_wp2_with fail
       go_roundw
       case rel=>exact⟨j+1,O3,by omega,by go_num,zN (by rw[sA.out,←zh];exact wa.out),zN (by rw[sA.out];exact vK.out),zN (sZ.out.comp uL.out (fun q hq=>hq.elim (fun h=>(tP.out q h).elim (fun h2=>.inl (.inl h2)) .inr) (fun e=>.inl (.inr e)))),zN (fun q hq=>(uU.out q hq).elim (tP.out q) (fun h2=>.inr (by have:=sH.out.size;omega))),zN (fun h=>(uU.out _ h).elim HG.out (fun h2=>by omega)),zN (sW.out.fr uL.out (fun h=>h.elim HG.out sw.out))⟩
       case measure=>simp[intOf];omega
      ·have tz:(cds.take (j+1)).foldl (dV (stpM s) (cC rest)) ([],y)=(sg.1,z2):=by rw[sB.out,td.out,if_pos rfl]
       have sA:=zN tz
       clear tz
       go_wp2_with fail
       go_roundw
       case rel=>exact⟨j+1,O',by omega,by go_num,zN (by rw[sA.out];exact te.out),zN (by rw[sA.out];exact sG.out),sZ,tP,HG,sW⟩
       case measure=>simp[intOf];omega
   ·obtain rfl:j=nc:=by omega
    have wN:¬(j:Int)<(j:Int):=by omega
    have et:cds.take j=cds:=jp (by have:=uR.out;omega)
    rw[et]at tQ sq
    have sE:pC c (.func (.func fid) #[] caps) wT K h1 n ss (some ad) cs St L O (cds.foldl (dV (stpM s) (cC rest)) ([],y)) W (.returned (.tuple #[])) Y:=⟨rfl,O',tQ.out,sq.out,sH.out,tP.out⟩
    have ta:=zN sE
    clear et sE
    go_wp2_with fail
    exact bodyPost_ret (v:=.tuple #[]) (by simp[results,Tryz.results120,go_sem]) rfl ta.out
