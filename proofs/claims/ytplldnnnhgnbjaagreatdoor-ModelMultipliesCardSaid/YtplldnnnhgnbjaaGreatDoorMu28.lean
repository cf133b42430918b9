/- packed -/
import Derived.Test.YtplldnnnhgnbjaaGreatDoorMu26
import Derived.Test.YtplldnnnhgnbjaaGreatDoorMu27
namespace Go.Proofs.YtplldnnnhgnbjaaGreatDoor
open Go.RowKit Go.Maps
structure CapX where
 (gS gV gX gE gF gx:Nat)
structure SmOk(n:Nat)(s:Sm):Prop where
 l2:s.fresh.length=s.frm.length
 fr:∀v∈s.fresh,v<n
 bd:∀v∈s.bound,v<n
 rows:∀c∈s.rows,(∀i∈s.frm,i<c.length)∧∀v∈c,VOk v
 nots:∀g∈s.nots,NgOk n g
 b1:s.rows.length≤1000000
 b2:s.frm.length≤10000
 b3:s.bound.length≤10000
 b4:s.nots.length≤1000000
structure ExI(c:CapX)(fv:Value)(wT:World)(K:Nat→Prop)(h1 n:Nat)(ss:List Sm)(S:Option Addr)(cs:Nat)(W:World)(O:Nat→Prop)(y:List Vl):Prop where
 bS:Bk W c.gS 215 [.slice S ss.length cs]
 bV:Bk W c.gV 126 [fv]
 bX:Bk W c.gX 74 [.slice (some ⟨c.gx,0,none⟩) n n]
 bE:Bk W c.gE 222 [.func (.func 115) #[] #[.pointer (some ⟨c.gX,0,none⟩)]]
 bF:Bk W c.gF 226 [.func (.func 120) #[] #[.pointer (some ⟨c.gS,0,none⟩),.pointer (some ⟨c.gV,0,none⟩),.pointer (some ⟨c.gX,0,none⟩),.pointer (some ⟨c.gE,0,none⟩),.pointer (some ⟨c.gF,0,none⟩)]]
 steps:Sl rdSm K W (.slice S ss.length cs) ss
 x:Bk W c.gx 51 (vcells y)
 len:y.length=n
 ok:∀v∈y,VOk v
 hK:∀q,K q→¬O q∧q≠c.gx∧q<h1
 oS:¬O c.gS
 oV:¬O c.gV
 oX:¬O c.gX
 oE:¬O c.gE
 oF:¬O c.gF
 ox:¬O c.gx
 hh:h1≤W.heap.size
 lt:c.gS<h1∧c.gV<h1∧c.gX<h1∧c.gE<h1∧c.gF<h1∧c.gx<h1
 ext:Ext wT W
 oT:∀q,O q→wT.heap.size≤q
 gT:wT.heap.size≤c.gx
structure VisOk(N fid:Nat)(caps:Array Value)(gx n:Nat)(wT:World)(h1:Nat)(St:List (List Vl)→(Nat→Prop)→World→Prop):Prop where
 lt:∀{L O W},St L O W→∀q,O q→q<W.heap.size
 keep:∀{L O W W' T},St L O W→Fr T W W'→(∀q,T q→¬O q)→St L O W'
 visit:∀{L O W y},St L O W→L.length<N→Ext wT W→h1≤W.heap.size→Bk W gx 51 (vcells y)→y.length=n→(∀v∈y,VOk v)→¬O gx →
  Calls Tryz.prog fid (#[.slice (some ⟨gx,0,none⟩) n n]++caps) W (fun e W'=>e=.returned (.tuple #[])∧∃O',St (L++[y]) O' W'∧Fr O W W'∧∀q,O' q→O q∨W.heap.size≤q)
section
variable {c:CapX} {fv:Value} {wT:World} {K:Nat→Prop} {h1 n:Nat} {ss:List Sm} {S:Option Addr} {cs:Nat} {W W':World} {O O':Nat→Prop} {y y':List Vl}
theorem ExI.turn(h:ExI c fv wT K h1 n ss S cs W O y)(hf:Fr (fun q=>O q∨q=c.gx) W W')(ho:∀q,O' q→O q∨W.heap.size≤q)(hx:Bk W' c.gx 51 (vcells y'))(hl:y'.length=n)(hok:∀v∈y',VOk v):ExI c fv wT K h1 n ss S cs W' O' y':=by
 have hne:∀{g:Nat} {t:TypeId} {l:List Value},Bk W g t l→t≠51→g≠c.gx:=fun {g t l} hb ht e=>by
  subst e
  have h1:=h.x
  unfold Bk at hb h1
  rw[hb]at h1
  injection h1 with h1;injection h1 with _ h1
  exact ht h1
 have hb:∀{g:Nat} {t:TypeId} {l:List Value},Bk W g t l→t≠51→¬O g→Bk W' g t l:=fun hb ht hg=>hb.fr hf (fun e=>e.elim hg (hne hb ht))
 have hn:∀{g:Nat},g<h1→¬O g→¬O' g:=fun hg hO e=>(ho _ e).elim hO (fun hq=>by have:=h.hh;omega)
 obtain⟨l1,l2,l3,l4,l5,l6⟩:=h.lt
 exact⟨hb h.bS (by decide) h.oS,hb h.bV (by decide) h.oV,hb h.bX (by decide) h.oX,hb h.bE (by decide) h.oE,hb h.bF (by decide) h.oF,h.steps.fr hf (fun q hq e=>e.elim (h.hK q hq).1 (h.hK q hq).2.1),hx,hl,hok,fun q hq=>⟨hn (h.hK q hq).2.2 (h.hK q hq).1,(h.hK q hq).2⟩,hn l1 h.oS,hn l2 h.oV,hn l3 h.oX,hn l4 h.oE,hn l5 h.oF,hn l6 h.ox,js h.hh hf.size,h.lt,hf.new h.ext (fun q hq=>hq.elim (h.oT q) (fun e=>e ▸ h.gT)),fun q hq=>(ho q hq).elim (h.oT q) (fun h2=>js h.ext.size h2),h.gT⟩
theorem ExI.more(h:ExI c fv wT K h1 n ss S cs W O y)(he:Ext W W'):ExI c fv wT K h1 n ss S cs W' O y:=h.turn (he.fr _) (fun _ hq=>.inl hq) (h.x.ext he) h.len h.ok
end
def candS(s:Stp)(f:List Vl→List (List Vl)×List Vl)(acc:List (List Vl)×List Vl)(c:List Vl):List (List Vl)×List Vl :=
 if s.bad (setF acc.2 c (s.fresh.zip s.frm))=true then (acc.1,setF acc.2 c (s.fresh.zip s.frm)) else (acc.1++(f (setF acc.2 c (s.fresh.zip s.frm))).1,(f (setF acc.2 c (s.fresh.zip s.frm))).2)
theorem candL_fold(s:Stp)(f:List Vl→List (List Vl)×List Vl):∀(l:List (List Vl)) (acc:List (List Vl)×List Vl),candL s f l acc=l.foldl (candS s f) acc
 | [],_=>rfl
 | c::l,acc=>by
  rw[candL,candL_fold s f l,zm]
  rfl
theorem fold_take{α β : Type}(f : β→α→β)(a : β){l:List α}{j:Nat}(hj:j<l.length):(l.take (j+1)).foldl f a=f ((l.take j).foldl f a) l[j]:=by
 rw[jj hj,zD]
 rfl
theorem setF_snoc(c:List Vl)(p:Nat×Nat):∀(l:List (Nat×Nat)) (y:List Vl),setF y c (l++[p])=(setF y c l).set p.1 (c.getD p.2 zv)
 | [],_=>rfl
 | q::l,y=>by rw[zw,setF,setF_snoc c p l,setF]
theorem vcells_set:∀(y:List Vl) (v:Nat) (a:Vl),v<y.length→vcells (y.set v a)=(((vcells y).set (v*3) (.int .i64 a.kind)).set (v*3+1) (.int .i64 a.int)).set (v*3+2) (.string a.str)
 | [],v,a,h=>by simp at h
 | b::y,0,a,_=>rfl
 | b::y,v+1,a,h=>by
  have ih:=vcells_set y v a (by simpa using h)
  have e1:∀l:List Vl,∀d:Vl,vcells (d::l)=.int .i64 d.kind::.int .i64 d.int::.string d.str::vcells l:=fun _ _=>rfl
  rw[ji,e1,ih,e1]
  rw[show (v+1)*3=v*3+1+1+1 by omega,show v*3+1+1+1+1=v*3+1+1+1+1 from rfl,show v*3+1+1+1+2=v*3+2+1+1+1 by omega]
  simp only[ji]
theorem setF_ok{c:List Vl}(hc:∀v∈c,VOk v):∀(l:List (Nat×Nat)) (y:List Vl),(∀p∈l,p.2<c.length)→(∀v∈y,VOk v)→∀v∈setF y c l,VOk v
 | [],_,_,h=>h
 | p::l,y,hl,h=>setF_ok hc l _ (fun q hq=>hl q (jr _ hq)) (fun v hv=>by
  rcases List.mem_or_eq_of_mem_set hv with hv|rfl
  ·exact h v hv
  ·have h2:=hl p (by simp)
   rw[getD_at h2]
   exact hc _ (jg h2))
theorem row_bk{w:World}{g n:Nat}{y:List Vl}(h:Bk w g 51 (vcells y))(hn:y.length=n):Sl rdVl (fun q=>q=g) w (.slice (some ⟨g,0,none⟩) n n) y:=by
 subst hn
 refine⟨_,_,rfl,jq _,fun i hi=>⟨_,_,rfl,rfl,rfl,fun j hj=>?_⟩⟩
 have hj3:j<3:=hj
 rw[add_zero']
 have hl:=vcells_len y
 have hk:i*rdVl.sz+j<(vcells y).length:=by show i*3+j<_;omega
 have h2:=h.cell hk
 rw[h2]
 have e:∀(y:List Vl) (i:Nat) (hi:i<y.length) (j:Nat) (hj:j<3),(vcells y)[i*3+j]?=(Vl.cells y[i])[j]?:=by
  intro y
  induction y with
  | nil=>intro i hi;simp at hi
  | cons a l ih =>
   intro i hi j hj
   have e1:vcells (a::l)=Vl.cells a++vcells l:=rfl
   have e2:(Vl.cells a).length=3:=rfl
   rcases i with _|i
   ·rw[e1,zi (by rw[e2];omega)]
    simp
   ·rw[e1,ze (by rw[e2];omega),e2,show (i+1)*3+j-3=i*3+j by omega,ih i (by simpa using hi) j hj]
    rfl
 have h3:(vcells y)[i*rdVl.sz+j]?=(Vl.cells y[i])[j]?:=e y i hi j hj3
 rw[jk hk,jk hj]at h3
 exact h3
def ExtPost(c:CapX)(fv:Value)(wT:World)(K:Nat→Prop)(h1 n:Nat)(ss:List Sm)(S:Option Addr)(cs:Nat)(St:List (List Vl)→(Nat→Prop)→World→Prop)(L:List (List Vl))(O:Nat→Prop)(R:List (List Vl)×List Vl)(W:World)(e:Ending)(W':World):Prop :=
 e=.returned (.tuple #[])∧∃O',St (L++R.1) O' W'∧ExI c fv wT K h1 n ss S cs W' O' R.2∧Fr (fun q=>O q∨q=c.gx) W W'∧∀q,O' q→O q∨W.heap.size≤q
theorem candS_len(s:Stp)(f:List Vl→List (List Vl)×List Vl)(acc:List (List Vl)×List Vl)(c:List Vl):acc.1.length≤(candS s f acc c).1.length:=by
 unfold candS
 split
 ·exact jq _
 ·rw[jl]
  exact Nat.le_add_right _ _
theorem candS_fold_len(s:Stp)(f:List Vl→List (List Vl)×List Vl):∀(l:List (List Vl)) (acc:List (List Vl)×List Vl),acc.1.length≤(l.foldl (candS s f) acc).1.length
 | [],_=>jq _
 | c::l,acc=>js (candS_len s f acc c) (candS_fold_len s f l _)
theorem candS_take_len(s:Stp)(f:List Vl→List (List Vl)×List Vl)(l:List (List Vl))(acc:List (List Vl)×List Vl)(j:Nat):((l.take j).foldl (candS s f) acc).1.length≤(l.foldl (candS s f) acc).1.length:=by
 have h:=candS_fold_len s f (l.drop j) ((l.take j).foldl (candS s f) acc)
 rwa [←zD,za]at h
set_option maxRecDepth 20000 in
set_option maxHeartbeats 3200000 in
theorem extend_any{c:CapX}{N fid:Nat}{caps:Array Value}{wT:World}{K:Nat→Prop}{h1 n:Nat}{ss:List Sm}{S:Option Addr}{cs:Nat}{St:List (List Vl)→(Nat→Prop)→World→Prop}(eg:∀args w,(callFunc fid args).run Tryz.prog w=.ok (.enter fid args) w)(hv:VisOk N fid caps c.gx n wT h1 St)(hss:∀s∈ss,SmOk n s)(hn:n≤100000)(hl:ss.length≤1000)(htab:TabE wT) :
  ∀(m k:Nat),k+m=ss.length→∀(L:List (List Vl)) (O:Nat→Prop) (y:List Vl) (W:World),ExI c (.func (.func fid) #[] caps) wT K h1 n ss S cs W O y→St L O W→L.length+(visS ((ss.drop k).map stpM) y).1.length≤N →
  Calls Tryz.prog 120 #[.int .i64 (k:Int),.pointer (some ⟨c.gS,0,none⟩),.pointer (some ⟨c.gV,0,none⟩),.pointer (some ⟨c.gX,0,none⟩),.pointer (some ⟨c.gE,0,none⟩),.pointer (some ⟨c.gF,0,none⟩)] W
   (ExtPost c (.func (.func fid) #[] caps) wT K h1 n ss S cs St L O (visS ((ss.drop k).map stpM) y) W):=by
 have HV:=zO hv;have HSS:=zO hss;have HTAB:=zO htab
 clear hv hss htab
 intro m
 induction m with
 | zero =>
  intro k hk L O y W hI hS hN
  have hI':=hI
  obtain⟨ns,hns⟩:∃x,x=ss.length:=⟨_,rfl⟩
  have hkn:k=ns:=by omega
  have e0:ss.drop k=[]:=zu (by omega)
  rw[e0]at hN ⊢
  have s0:=hI.bS.cell (i:=0) (by simp);have v0:=hI.bV.cell (i:=0) (by simp);have x0:=hI.bX.cell (i:=0) (by simp)
  simp only[ja]at s0 v0 x0
  rw[←hns]at s0
  have HVIS:=zO (HV.out.visit hS (show L.length<N from hN) hI.ext hI.hh hI.x hI.len hI.ok hI.ox)
  have HI:=zO hI
  clear hI hI' hS hk e0 hns hN
  subst hkn
  go_enter Tryz.func120,Tryz.ntmps120
  go_wp2_with (go_at_fn fid;refine HVIS.out.mono ?_;rintro e W' ⟨rfl,O',hS',hf',ho'⟩)
  have hfin:ExtPost c (.func (.func fid) #[] caps) wT K h1 n ss S cs St L O ([y],y) W (.returned (.tuple #[])) W' :=
   ⟨rfl,O',hS',HI.out.turn (hf'.mono (fun q _ hq=>.inl hq)) ho' (HI.out.x.fr hf' HI.out.ox) HI.out.len HI.out.ok,hf'.mono (fun q _ hq=>.inl hq),ho'⟩
  exact bodyPost_ret (v:=.tuple #[]) (by simp[results,Tryz.results120,go_sem]) rfl hfin
 | succ m ih =>
  intro k hk L O y W hI hS hN
  have hkl:k<ss.length:=by omega
  have hsk:=HSS.out _ (jg hkl)
  have hdrop:ss.drop k=ss[k]::ss.drop (k+1):=zj hkl
  rw[hdrop,zf]at hN ⊢
  obtain⟨ad,b,A1,c1,A2,c2,A3,c3,A4,c4,eS,y0,y1,y2,y3,y4,hadK,hsm⟩:=hI.steps.sm hkl
  subst eS
  have hIH:=fun (L2:List (List Vl)) (O2:Nat→Prop) (z:List Vl) (W2:World) (h1:ExI c (.func (.func fid) #[] caps) wT K h1 n ss (some ad) cs W2 O2 z) (h2:St L2 O2 W2) (h3:L2.length+(visS ((ss.drop (k+1)).map stpM) z).1.length≤N)=>ih (k+1) (by omega) L2 O2 z W2 h1 h2 h3
  obtain⟨s,hs⟩:∃s,s=ss[k]:=⟨_,rfl⟩
  rw[←hs]at y1 y2 y3 y4 hsm hsk hN ⊢
  obtain⟨rest,hrest⟩:∃l,l=(ss.drop (k+1)).map stpM:=⟨_,rfl⟩
  rw[←hrest]at hIH hN ⊢
  rw[show visS (stpM s::rest) y=candL (stpM s) (visS rest) (candsP (stpM s) y) ([],y) from rfl,candL_fold]at hN ⊢
  have hcast:((k+1:Nat):Int)=(k:Int)+1:=by omega
  rw[hcast]at hIH
  have HIH:=zO hIH
  obtain⟨ns,hns⟩:∃x,x=ss.length:=⟨_,rfl⟩
  have hnsb:ns≤1000:=by omega
  obtain⟨bq,v1,v2,v3,v4,eq,hbK,hgr,hi1,hi2,hi3,hng⟩:=hsm
  injection eq with q0 q1;injection q0 with q0;injection q0 with q0;subst q0
  injection q1 with q2 q3;subst q2;injection q3 with q2 q4;subst q2;injection q4 with q2 q5;subst q2;injection q5 with q2 q6;subst q2
  clear q6
  obtain⟨cds,hcds⟩:∃l,l=candsP (stpM s) y:=⟨_,rfl⟩
  rw[←hcds]at hN ⊢
  have hNL:∀j:Nat,L.length+((cds.take j).foldl (candS (stpM s) (visS rest)) ([],y)).1.length≤N:=fun j=>js (Nat.add_le_add_left (candS_take_len (stpM s) (visS rest) cds ([],y) j) _) hN
  have HNL:=zO hNL
  clear hN hNL
  have hgk:∀V,GrpR K V b (grpL s.rows s.key)→∃B d,(∃nn ff,MapV V b nn ff∧(ff (keyS (pickN y s.bound))).getD nilS=.slice B cds.length d)∧Sl rdRow K V (.slice B cds.length d) cds:=fun V hg=>by
   obtain⟨nn,ff,hm,hr⟩:=hg
   have h2:=hr (keyS (pickN y s.bound))
   rw[show grpL s.rows s.key (keyS (pickN y s.bound))=cds from by rw[hcds];exact grp_cands (stpM s) y]at h2
   obtain⟨B,d,e⟩:=h2.sl
   rw[e]at h2
   exact⟨B,d,⟨nn,ff,hm,e⟩,h2⟩
  have hpl:(pickN y s.bound).length=s.bound.length:=by unfold pickN;rw[jm]
  obtain⟨nb,hnb⟩:∃x,x=s.bound.length:=⟨_,rfl⟩
  obtain⟨nf,hnf⟩:∃x,x=s.fresh.length:=⟨_,rfl⟩
  obtain⟨nr,hnr⟩:∃x,x=s.frm.length:=⟨_,rfl⟩
  obtain⟨nn,hnn⟩:∃x,x=s.nots.length:=⟨_,rfl⟩
  obtain⟨ks,hks⟩:∃x,x=keyS (pickN y s.bound):=⟨_,rfl⟩
  rw[←hks]at hgk
  rw[←hnb]at y1 hi1 hpl;rw[←hnf]at y2 hi2;rw[←hnr]at y3 hi3;rw[←hnn]at y4 hng
  have hb3:nb≤10000:=by rw[hnb];exact hsk.b3
  have hnfb:nf≤10000:=by rw[hnf,hsk.l2];exact hsk.b2
  have hvok:∀v∈pickN y s.bound,VOk v:=fun v hv=>by
   obtain⟨i,hi,rfl⟩:=jE.1 hv
   have h2:=hsk.bd i hi
   have h3:i<y.length:=by rw[hI.len];exact h2
   rw[getD_at h3]
   exact hI.ok _ (jg h3)
  have hksz:ks.size≤maxLen:=by
   rw[hks,keyS_size]
   have h2:=keyR_len hvok
   rw[hpl]at h2
   have h3:nb*1048700≤10000*1048700:=zg _ hb3
   simp only[maxLen]
   omega
  have hx1:Ext W (W.alloc (.cells #[.map (some b),.slice A1 nb c1,.slice A2 nf c2,.slice A3 nr c3,.slice A4 nn c4] 229)):=(Ext.refl W).alloc _
  have k7:=Bk.new W 229 [.map (some b),.slice A1 nb c1,.slice A2 nf c2,.slice A3 nr c3,.slice A4 nn c4]
  change Bk (W.alloc (.cells #[.map (some b),.slice A1 nb c1,.slice A2 nf c2,.slice A3 nr c3,.slice A4 nn c4] 229)) _ _ _ at k7
  have HPK:=zO (fun (V:World) (hV:Ext W V)=>(pick_any (row_bk (hI.x.ext hV) hI.len) (hi1.ext hV) (fun q hq=>by
   obtain⟨i,hi,rfl⟩:=jE.1 hq
   have:=hsk.bd i hi
   omega) (show nb≤1048576 by omega)).mono (R':=fun e w'=>Ext V w'∧∃AP cp,e=.returned (.slice AP nb cp)∧Sl rdVl (fun q=>V.heap.size≤q) w' (.slice AP nb cp) (pickN y s.bound)) (by
   rintro e w' ⟨he,AP,cp,rfl,hsp⟩
   rw[proj_pick,hpl]at *
   exact⟨he,AP,cp,rfl,hsp⟩))
  have HKY:=zO (fun (F:Nat→Prop) (V:World) (AP:Option Addr) (cp:Nat) (hV:Ext W V) (hsp:Sl rdVl F V (.slice AP nb cp) (pickN y s.bound))=>(rowkey_any hsp (show nb≤100000 by omega) hvok (HTAB.out.fore (hI.ext.trans hV))).mono (R':=fun e w'=>Ext V w'∧e=.returned (.string ks)) (by
   rintro e w' ⟨y9,rfl,he,rfl⟩
   exact⟨he,by rw[hks];rfl⟩))
  have hg0:=hgr.fr (hx1.fr (fun _=>False)) (fun h=>h) (fun _ _ h=>h)
  obtain⟨B,d,⟨mn,ff,hmv,hff⟩,hcd⟩:=hgk W hgr
  have HLK:=zO (fun (X:World) (hX:Ext W X)=>(hmv.ext hX).look Tryz.underlying227 (z:=nilS) (by kernel_rfl) hksz hff)
  obtain⟨nc,hnc⟩:∃x,x=cds.length:=⟨_,rfl⟩
  rw[←hnc]at hcd HLK
  have hncb:nc≤1000000:=by
   rw[hnc,hcds]
   exact js (jG _ _) hsk.b1
  have s0:=hI.bS.cell (i:=0) (by simp)
  have x0:=hI.bX.cell (i:=0) (by simp)
  simp only[ja]at s0 x0
  rw[←hns]at s0
  have e0:((k:Int) == (ns:Int))=false:=by simp;omega
  have i1:(0:Int)≤(k:Int):=by omega
  have i2:(k:Int)<(ns:Int):=by omega
  have x1:=hx1.cell x0
  have HI:=zO hI;have HI1:=zO (hI.more hx1);have HSK:=zO hsk;have HS1:=zO hS;have HCD:=zO hcd;have HNC:=zO hnc;have HCDS:=zO hcds;have HI2:=zO hi2;have HI3:=zO hi3;have HNG:=zO hng;have HK7:=zO k7;have HX1:=zO hx1
  have HNF:=zO hnf;have HNR:=zO hnr;have HNN:=zO hnn
  have t0:=k7.cell (i:=0) (by simp);have t1:=k7.cell (i:=1) (by simp);have t2:=k7.cell (i:=2) (by simp)
  simp only[ja,je]at t0 t1 t2
  have hlt7:=k7.lt
  clear hI hS hk hsk hdrop hIH hrest hcast hns hbK hgr hi1 hi2 hi3 hng hcds hgk hpl hnb hnf hnr hnn hks hvok k7 hx1 hg0 hmv hff hcd hnc ih hs hkl hadK hksz
  go_enter Tryz.func120,Tryz.ntmps120
  go_upto_region 3 with fail
  obtain⟨g7,hg7⟩:∃g,g=W.heap.size:=⟨_,rfl⟩
  have hw7:W.heap.size≤g7:=by omega
  rw[←hg7]at t0 t1 t2 HK7 hlt7 ⊢
  obtain⟨W1,hW1⟩:∃W1,W1=(W.alloc (.cells #[.map (some b),.slice A1 nb c1,.slice A2 nf c2,.slice A3 nr c3,.slice A4 nn c4] 229)):=⟨_,rfl⟩
  rw[←hW1]at t0 t1 t2 HK7 hlt7 HX1 HI1 x1 ⊢
  have hg7W:∀q,q<W.heap.size→q≠g7:=fun q hq=>by omega
  have HG7:=zO hg7W
  have l0:=HX1.out
  clear hg7 hW1 s0 x0 y0 y1 y2 y3 y4 hg7W
  go_region_held3 (fun V=>Ext W1 V∧V.cell? ⟨g7,0,none⟩=some (.map (some b))∧V.cell? ⟨g7,1,none⟩=some (.slice A1 nb c1)∧V.cell? ⟨c.gX,0,none⟩=some (.slice (some ⟨c.gx,0,none⟩) n n)∧(Instr.lookup 227 (.map (some b)) (.string ks) false).run Tryz.prog V=.ok (.slice B nc d) V)
   ((refine(fun he=>⟨he,Ext.cell he t0,Ext.cell he t1,Ext.cell he x1,HLK.out _ (HX1.out.trans he)⟩) ?_;repeat (first|exact Ext.refl _|exact(Ext.refl _).drew|refine Ext.drew ?_|refine Ext.trans ?_ (by assumption))))
   (first
    | (go_at_call 51;(with_reducible refine(HPK.out _ (HX1.out.trans (And.left (by assumption)))).mono ?_);rintro e wi ⟨hei,AP,cp,rfl,hsp⟩)
    | (go_at_call 52;(with_reducible refine(HKY.out _ _ _ _ (HX1.out.trans (And.left (by assumption))) hsp).mono ?_);rintro e wi2 ⟨hei2,rfl⟩))
  have hfin:=And.left (b:=_∧_) (by assumption)
  obtain⟨X,rfl⟩:∃X:World,X=wi2:=⟨_,rfl⟩
  have hxX:=HX1.out.trans hfin
  have HIX:=zO (HI1.out.more hfin);have HSX:=zO ((HV.out.keep HS1.out (hxX.fr (fun _=>False)) (fun _ h=>h.elim)));have HCX:=zO (HCD.out.ext hxX);have HKX:=zO (HK7.out.ext hfin);have HI2X:=zO (HI2.out.ext hxX);have HI3X:=zO (HI3.out.ext hxX);have HNGX:=zO (HNG.out.ext hxX);have HXX:=zO hxX
  have hO7:¬O g7:=fun h=>HG7.out _ (HV.out.lt HS1.out _ h) rfl
  have HO7:=zO hO7
  clear hfin hxX hO7 t0 t1 t2 x1 l0
  go_wp2_with fail
  go_loopw [32] (fun t wr=>∃(j:Nat) (O':Nat→Prop),j≤nc∧t=.int .i64 (j:Int)∧Hid (St (L++((cds.take j).foldl (candS (stpM s) (visS rest)) ([],y)).1) O' wr)∧Hid (ExI c (.func (.func fid) #[] caps) wT K h1 n ss (some ad) cs wr O' ((cds.take j).foldl (candS (stpM s) (visS rest)) ([],y)).2)∧Hid (Fr (fun q=>O q∨q=c.gx) W wr)∧Hid (∀q,O' q→O q∨W.heap.size≤q)∧Hid (¬O' g7)∧Hid (Bk wr g7 229 [.map (some b),.slice A1 nb c1,.slice A2 nf c2,.slice A3 nr c3,.slice A4 nn c4])) (fun t _=>nc-(intOf t).toNat)
  case atStart=>exact⟨0,O,jn _,rfl,zO (by simpa using HSX.out),zO (by simpa using HIX.out),zO (HXX.out.fr _),zO (fun q hq=>.inl hq),HO7,HKX⟩
  case round =>
   obtain⟨j,O',hj,rfl,HST,HEX,HFR,HOO,HG,HB7⟩:=hrel
   obtain⟨Y,rfl⟩:∃Y:World,Y=wr:=⟨_,rfl⟩
   by_cases hlt:j<nc
   ·have j1:(0:Int)≤(j:Int):=by omega
    have j2:(j:Int)<(nc:Int):=by omega
    have hjc:j<cds.length:=by have:=HNC.out;omega
    have hKf:∀q,K q→¬(O q∨q=c.gx):=fun q hq e=>e.elim (HI.out.hK q hq).1 (HI.out.hK q hq).2.1
    obtain⟨adB,B',d',rfl,hadK,c0,hrow⟩:=(HCD.out.fr HFR.out hKf).row hjc
    have hI2:=HI2.out.fr HFR.out hKf;have hI3:=HI3.out.fr HFR.out hKf;have hNG:=HNG.out.fr HFR.out hKf
    have hstep:=fold_take (candS (stpM s) (visS rest)) (([],y):List (List Vl)×List Vl) hjc
    have hmem:∀x∈cds,x∈s.rows:=by
     rw[HCDS.out]
     exact fun x hx=>(jA.1 hx).1
    have hrok:=HSK.out.rows cds[j] (hmem _ (jg hjc))
    clear hmem
    obtain⟨cd,hcd⟩:∃x,x=cds[j]:=⟨_,rfl⟩
    rw[←hcd]at c0 hrow hstep hrok
    obtain⟨acc,hacc⟩:∃x,x=(cds.take j).foldl (candS (stpM s) (visS rest)) ([],y):=⟨_,rfl⟩
    rw[←hacc]at HST HEX hstep
    obtain⟨nd,hnd⟩:∃x,x=cd.length:=⟨_,rfl⟩
    rw[←hnd]at c0 hrow
    have HSTEP:=zO hstep;have HROK:=zO hrok;have HROW:=zO hrow;have HND:=zO hnd
    have y2:=HB7.out.cell (i:=2) (by simp)
    simp only[ja,je]at y2
    have hF2:∀v∈s.fresh,v<n:=HSK.out.fr
    obtain⟨A2',c2',e2,-,hI2c⟩:=hI2
    injection e2 with e2a e2b e2c
    subst e2a
    obtain⟨A3',c3',e3,-,hI3c⟩:=hI3
    injection e3 with e3a e3b e3c
    subst e3a
    have HI2C:=zO hI2c;have HI3C:=zO hI3c;have HNGY:=zO hNG;have HFB:=zO hF2
    have hgx7:g7≠c.gx:=fun e=>by have:=HI.out.lt.2.2.2.2.2;have:=HI.out.hh;have:=HG7.out c.gx (by omega);exact this e.symm
    have hXx:c.gX≠c.gx:=fun e=>by
     have h3:=HEX.out.bX
     have h4:=HEX.out.x
     rw[e]at h3
     unfold Bk at h3 h4
     rw[h3]at h4
     injection h4 with h4;injection h4 with _ h4
     exact absurd h4 (by decide)
    have HG7X:=zO hgx7;have HXX2:=zO hXx
    have hKx:∀q,K q→q≠c.gx:=fun q hq=>(HI.out.hK q hq).2.1
    have HKX2:=zO hKx
    clear hKf hstep hrok hrow hcd hacc hnd hI2c hI3c hNG hF2 e2b e2c e3b e3c hadK hjc hgx7 hXx hKx
    go_wp2_with fail
    clear c0 y2
    go_loopw [39] (fun t wr=>∃i:Nat,i≤nf∧t=.int .i64 (i:Int)∧Hid (Bk wr c.gx 51 (vcells (setF acc.2 cd ((s.fresh.zip s.frm).take i))))∧Hid (Fr (fun q=>q=c.gx) Y wr)) (fun t _=>nf-(intOf t).toNat)
    case atStart=>exact⟨0,jn _,rfl,zO (by simpa [setF] using HEX.out.x),zO (Fr.refl _ _)⟩
    case round =>
     obtain⟨i,hi,rfl,HBX,HFI⟩:=hrel
     obtain⟨V,rfl⟩:∃V:World,V=wr:=⟨_,rfl⟩
     by_cases hil:i<nf
     ·have p1:(0:Int)≤(i:Int):=by omega
      have p2:(i:Int)<(nf:Int):=by omega
      have hif:i<s.fresh.length:=by have:=HNF.out;omega
      have hir:i<s.frm.length:=by have:=HSK.out.l2;omega
      have hnri:i<nr:=by have:=HNR.out;omega
      have p3:(i:Int)<(nr:Int):=by omega
      obtain⟨adf,rfl,hfK,f0⟩:=HI2C.out.int (i:=i) (by simpa using hif)
      obtain⟨adr,rfl,hrK,r0⟩:=HI3C.out.int (i:=i) (by simpa using hir)
      simp only[jy]at f0 r0
      replace f0:=HFI.out.cell f0 (by rw[block_add];exact HKX2.out _ hfK)
      replace r0:=HFI.out.cell r0 (by rw[block_add];exact HKX2.out _ hrK)
      have hfi:=HROK.out.1 _ (jg hir)
      obtain⟨adc,rfl,hcK,q0,q1,q2⟩:=HROW.out.vl hfi
      replace q0:=HFI.out.cell q0 (by rw[block_add];exact HKX2.out _ hcK)
      replace q1:=HFI.out.cell q1 (by simp only[block_add];exact HKX2.out _ hcK)
      replace q2:=HFI.out.cell q2 (by simp only[block_add];exact HKX2.out _ hcK)
      have hvn:=HFB.out _ (jg hif)
      have hzl:i<(s.fresh.zip s.frm).length:=by rw[zr];omega
      have hset:setF acc.2 cd ((s.fresh.zip s.frm).take (i+1))=(setF acc.2 cd ((s.fresh.zip s.frm).take i)).set s.fresh[i] cd[s.frm[i]]:=by
       rw[jj hzl,setF_snoc,zA,getD_at hfi]
      have hlen:(setF acc.2 cd ((s.fresh.zip s.frm).take i)).length=n:=by rw[setF_len];exact HEX.out.len
      have hvs:=vcells_set (setF acc.2 cd ((s.fresh.zip s.frm).take i)) s.fresh[i] cd[s.frm[i]] (by rw[hlen];exact hvn)
      rw[←hset]at hvs
      have hcl:(vcells (setF acc.2 cd ((s.fresh.zip s.frm).take i))).length=n*3:=by rw[vcells_len,hlen]
      obtain⟨v,hv⟩:∃x,x=s.fresh[i]:=⟨_,rfl⟩
      obtain⟨fi,hfi2⟩:∃x,x=s.frm[i]:=⟨_,rfl⟩
      obtain⟨a,ha⟩:∃x,x=cd[s.frm[i]]:=⟨_,rfl⟩
      rw[←ha]at q0 q1 q2 hvs
      rw[←hfi2]at r0 q0 q1 q2
      rw[←hv]at f0 hvn hvs
      have hfnd:fi<nd:=by rw[hfi2,HND.out];exact hfi
      have HVS:=zO hvs
      obtain⟨cur,hcur⟩:∃x:List Value,x=vcells (setF acc.2 cd ((s.fresh.zip s.frm).take i)):=⟨_,rfl⟩
      rw[←hcur]at HBX hcl HVS
      have g1:(0:Int)≤(fi:Int):=by omega
      have g2:(fi:Int)<(nd:Int):=by omega
      have g3:(0:Int)≤(v:Int):=by omega
      have g4:(v:Int)<(n:Int):=by omega
      have t3:=(HB7.out.fr HFI.out HG7X.out).cell (i:=3) (by simp)
      have x0:=(HEX.out.bX.fr HFI.out HXX2.out).cell (i:=0) (by simp)
      simp only[ja,je]at t3 x0
      obtain⟨ov0,o0⟩:∃u,V.cell? ⟨c.gx,v*3,none⟩=some u:=⟨_,HBX.out.cell (by omega)⟩
      obtain⟨ov1,o1⟩:∃u,V.cell? ⟨c.gx,v*3+1,none⟩=some u:=⟨_,HBX.out.cell (by omega)⟩
      obtain⟨ov2,o2⟩:∃u,V.cell? ⟨c.gx,v*3+2,none⟩=some u:=⟨_,HBX.out.cell (by omega)⟩
      have u0:=HBX.out.free (v*3);have u1:=HBX.out.free (v*3+1);have u2:=HBX.out.free (v*3+2)
      have hbs:=((HBX.out.set (v*3) (.int .i64 a.kind)).set (v*3+1) (.int .i64 a.int)).set (v*3+2) (.string a.str)
      rw[←HVS.out]at hbs
      have HBS:=zO hbs
      have hfr3:Fr (fun q=>q=c.gx) Y (((V.setCell ⟨c.gx,v*3,none⟩ (.int .i64 a.kind)).setCell ⟨c.gx,v*3+1,none⟩ (.int .i64 a.int)).setCell ⟨c.gx,v*3+2,none⟩ (.string a.str)):=((HFI.out.setCell (p:=⟨c.gx,v*3,none⟩) (.inl rfl) _).setCell (p:=⟨c.gx,v*3+1,none⟩) (.inl rfl) _).setCell (p:=⟨c.gx,v*3+2,none⟩) (.inl rfl) _
      have HFR3:=zO hfr3
      have HKC:=zO (fun (Z:World) (hZ:Fr (fun q=>q=c.gx) V Z) (p:Addr) (u:Value) (hp:p.block≠c.gx) (hc:V.cell? p=some u)=>hZ.cell hc hp)
      have h7x:=HG7X.out;have hXx:=HXX2.out
      have hrn:(adr.add i).block≠c.gx:=by rw[block_add];exact HKX2.out _ hrK
      have hcn:(adc.add (fi*3)).block≠c.gx:=by rw[block_add];exact HKX2.out _ hcK
      clear hfi hset hlen hvs hcl hv hfi2 ha hcur hbs hfr3 hfK hrK hcK hif hir hzl
      go_upto_region 9 with fail
      clear f0
      go_region_held3 (fun Z=>Fr (fun q=>q=c.gx) V Z∧Z.cell? ⟨c.gX,0,none⟩=some (.slice (some ⟨c.gx,0,none⟩) n n)∧Z.cell? ⟨g7,3,none⟩=some (.slice (some adr) nr c3)∧Z.cell? (adr.add i)=some (.int .i64 (fi:Int))∧Z.cell? (adc.add (fi*3))=some (.int .i64 a.kind)∧Z.cell? ⟨(adc.add (fi*3)).block,(adc.add (fi*3)).off+1,none⟩=some (.int .i64 a.int)∧Z.cell? ⟨(adc.add (fi*3)).block,(adc.add (fi*3)).off+2,none⟩=some (.string a.str))
       ((refine(fun hf=>⟨hf,HKC.out _ hf _ _ hXx x0,HKC.out _ hf _ _ h7x t3,HKC.out _ hf _ _ hrn r0,HKC.out _ hf _ _ hcn q0,HKC.out _ hf _ _ hcn q1,HKC.out _ hf _ _ hcn q2⟩) ?_;repeat (first|exact Fr.refl _ _|assumption|refine Fr.drew ?_|refine Fr.setCell ?_ (by first|exact .inl rfl|(left;rfl)) _)))
       (fail)
      have HBD:=zO (HBS.out.ext (Ext.refl _).drew);have HFD:=zO (HFR3.out.drew)
      clear o0 o1 o2 u0 u1 u2 q0 q1 q2 r0 t3 x0 h7x hXx hrn hcn
      go_wp2_with fail
      go_roundw
      case rel=>exact⟨i+1,by omega,by go_num,HBD,HFD⟩
      case measure=>simp[intOf];omega
     ·obtain rfl:i=nf:=by omega
      have hdi:¬(i:Int)<(i:Int):=by omega
      have et:(s.fresh.zip s.frm).take i=s.fresh.zip s.frm:=jo (by rw[zr];have:=HNF.out;omega)
      rw[et]at HBX
      obtain⟨z2,hz2⟩:∃z,z=setF acc.2 cd (s.fresh.zip s.frm):=⟨_,rfl⟩
      have hbad:(stpM s).bad (setF acc.2 cd ((stpM s).fresh.zip (stpM s).frm))=s.nots.any (ngB z2):=by rw[hz2];rfl
      have hst2:candS (stpM s) (visS rest) acc cd=if s.nots.any (ngB z2)=true then (acc.1,z2) else (acc.1++(visS rest z2).1,(visS rest z2).2):=by
       unfold candS
       rw[hbad,hz2]
       rfl
      rw[←hz2]at HBX
      have hzok:∀v∈z2,VOk v:=by
       rw[hz2]
       exact setF_ok HROK.out.2 _ _ (fun p hp=>HROK.out.1 _ (List.of_mem_zip (a:=p.1) (b:=p.2) hp).2) HEX.out.ok
      have hzl:z2.length=n:=by rw[hz2,setF_len];exact HEX.out.len
      have hexV:=HEX.out.turn (HFI.out.mono (T:=fun q=>O' q∨q=c.gx) (fun q _ e=>.inr e)) (fun q h=>.inl h) HBX.out hzl hzok
      have hstV:=HV.out.keep HST.out HFI.out (fun q e=>by rw[e];exact HEX.out.ox)
      have hNG:=HNGY.out.fr HFI.out HKX2.out
      have hCT:=contains_ng hexV.bX (row_bk hexV.x hexV.len) hNG HSK.out.nots (by rw[HNN.out];exact js HSK.out.b4 (by decide)) (show n≤1048576 by omega)
      obtain⟨bd,hbd⟩:∃x,x=s.nots.any (ngB z2):=⟨_,rfl⟩
      rw[←hbd]at hCT hst2
      have HST2:=zO hst2;have HEXV:=zO hexV;have HSTV:=zO hstV;have HCT:=zO hCT
      have HB7V:=zO (HB7.out.fr HFI.out HG7X.out)
      have t4:=HB7V.out.cell (i:=4) (by simp)
      have w4:=hexV.bE.cell (i:=0) (by simp)
      simp only[ja,je]at t4 w4
      have hg7Y:=HB7.out.lt
      have hYV:=HFI.out.size
      clear et hz2 hbad hst2 hzok hzl hexV hstV hNG hCT hbd
      go_wp2_with fail
      refine HCT.out.mono ?_
      rintro e V2 ⟨y9,rfl,he2,rfl⟩
      have HE2:=zO he2
      have HEX2:=zO (HEXV.out.more he2);have HST3:=zO (HV.out.keep HSTV.out (he2.fr (fun _=>False)) (fun _ h=>h.elim));have HB72:=zO (HB7V.out.ext he2)
      have HFR2:=zO (((HFR.out.trans (HFI.out.mono (T:=fun q=>O q∨q=c.gx) (fun q _ e=>.inr e))).ext he2))
      have hV2:=he2.size
      clear he2 t4 w4
      rcases bd with _|_
      ·have hfd:(cds.take (j+1)).foldl (candS (stpM s) (visS rest)) ([],y)=(acc.1++(visS rest z2).1,(visS rest z2).2):=by rw[HSTEP.out,HST2.out,if_neg (by decide)]
       have HFD:=zO hfd
       have HCALL:=zO (HIH.out (L++acc.1) O' z2 V2 HEX2.out HST3.out (by have h:=HNL.out (j+1);rw[HFD.out,jl]at h;rw[jl];omega))
       have f0:=HEX2.out.bF.cell (i:=0) (by simp)
       simp only[ja]at f0
       clear hfd
       go_wp2_with fail
       refine HCALL.out.mono ?_
       rintro e V3 ⟨rfl,O3,hS3,hE3,hF3,hO3⟩
       have HS3:=zO hS3;have HE3:=zO hE3;have HF3:=zO hF3;have HO3:=zO hO3
       clear hS3 hE3 hF3 hO3 f0
       go_wp2_with fail
       go_roundw
       case rel=>exact⟨j+1,O3,by omega,by go_num,zO (by rw[HFD.out,←zq];exact HS3.out),zO (by rw[HFD.out];exact HE3.out),zO (HFR2.out.comp HF3.out (fun q hq=>hq.elim (fun h=>(HOO.out q h).elim (fun h2=>.inl (.inl h2)) .inr) (fun e=>.inl (.inr e)))),zO (fun q hq=>(HO3.out q hq).elim (HOO.out q) (fun h2=>.inr (by have:=HFR.out.size;omega))),zO (fun h=>(HO3.out _ h).elim HG.out (fun h2=>by omega)),zO (HB72.out.fr HF3.out (fun h=>h.elim HG.out HG7X.out))⟩
       case measure=>simp[intOf];omega
      ·have hfd:(cds.take (j+1)).foldl (candS (stpM s) (visS rest)) ([],y)=(acc.1,z2):=by rw[HSTEP.out,HST2.out,if_pos rfl]
       have HFD:=zO hfd
       clear hfd
       go_wp2_with fail
       go_roundw
       case rel=>exact⟨j+1,O',by omega,by go_num,zO (by rw[HFD.out];exact HST3.out),zO (by rw[HFD.out];exact HEX2.out),HFR2,HOO,HG,HB72⟩
       case measure=>simp[intOf];omega
   ·obtain rfl:j=nc:=by omega
    have hdj:¬(j:Int)<(j:Int):=by omega
    have et:cds.take j=cds:=jo (by have:=HNC.out;omega)
    rw[et]at HST HEX
    have hpost:ExtPost c (.func (.func fid) #[] caps) wT K h1 n ss (some ad) cs St L O (cds.foldl (candS (stpM s) (visS rest)) ([],y)) W (.returned (.tuple #[])) Y:=⟨rfl,O',HST.out,HEX.out,HFR.out,HOO.out⟩
    have HPOST:=zO hpost
    clear et hpost
    go_wp2_with fail
    exact bodyPost_ret (v:=.tuple #[]) (by simp[results,Tryz.results120,go_sem]) rfl HPOST.out
