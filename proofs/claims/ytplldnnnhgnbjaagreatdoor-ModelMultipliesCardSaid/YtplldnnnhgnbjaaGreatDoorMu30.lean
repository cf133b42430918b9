/- packed -/
import Derived.Test.YtplldnnnhgnbjaaGreatDoorMu29
import Derived.Test.YtplldnnnhgnbjaaGreatDoorMu18
import Derived.Test.YtplldnnnhgnbjaaGreatDoorMu10
import Derived.Test.YtplldnnnhgnbjaaGreatDoorMu17
import Derived.Deep.RegionHeld3
namespace Go.Proofs.YtplldnnnhgnbjaaGreatDoor
open Go.RowKit Go.Maps
def haveR(rows:List (List Vl))(s:ByteArray):Bool:=rows.any (fun r=>decide (keyS r=s))
def seenR(rows:List (List Vl)):ByteArray→Option Value:=fun s=>if haveR rows s=true then some (.bool true) else none
def addR(rows:List (List Vl))(a:List Vl):List (List Vl):=if haveR rows (keyS a)=true then rows else rows++[a]
theorem haveR_iff{rows:List (List Vl)}{a:List Vl}:haveR rows (keyS a)=true↔a∈rows:=by
 unfold haveR
 rw[jL]
 constructor
 ·rintro⟨r,hr,h⟩
  rw[decide_eq_true_eq,keyS_eq]at h
  exact h ▸ hr
 ·intro h
  exact⟨a,h,by simp⟩
theorem seenR_add{rows:List (List Vl)}{a:List Vl}{s:ByteArray}(hs:s=keyS a)(h:haveR rows s=false):updV (seenR rows) s (some (.bool true))=seenR (rows++[a]):=by
 funext t
 unfold updV seenR haveR
 rw[List.any_append]
 by_cases e:t=s
 ·subst e
  rw[if_pos rfl]
  simp[hs]
 ·rw[if_neg e]
  have:decide (keyS a=t)=false:=decide_eq_false (fun h=>e (by rw[←h,hs]))
  simp[this]
def addsR(cols:List Int)(rows0 L:List (List Vl)):List (List Vl):=(L.map (projR cols)).foldl addR rows0
theorem addsR_snoc(cols:List Int)(rows0 L:List (List Vl))(y:List Vl):addsR cols rows0 (L++[y])=addR (addsR cols rows0 L) (projR cols y):=by
 unfold addsR
 rw[jI,zD]
 rfl
theorem addR_len(rows:List (List Vl))(a:List Vl):(addR rows a).length≤rows.length+1:=by
 unfold addR
 split
 ·omega
 ·rw[jl]
  exact jq _
theorem foldR_len:∀(l rows:List (List Vl)),(l.foldl addR rows).length≤rows.length+l.length
 | [],_=>jq _
 | a::l,rows=>by
  have h1:=foldR_len l (addR rows a)
  have h2:=addR_len rows a
  rw[zm,jD]
  omega
theorem addsR_len(cols:List Int)(rows0 L:List (List Vl)):(addsR cols rows0 L).length≤rows0.length+L.length:=by
 have h:=foldR_len (L.map (projR cols)) rows0
 rwa [jm]at h
theorem OwR.more2{F F':Nat→Prop}{w wb w9:World}{base n:Nat}{v v9 u:Value}{us:List Value}{rows:List (List Vl)}{x:List Vl}(h:OwR F w base v n us rows)(he:Ext w wb)(hx:Sl rdVl (fun k=>F' k∧v.ownBlock≠some k∧k<wb.heap.size) wb u x)(hFF:∀k,F k→F' k)(hr:w9.ownsRow base 74 1 v9 (n+1) (us++[u]))(hg:wb.grownBy w9 v.ownBlock)(hv:Lands wb v v9):OwR F' w9 base v9 (n+1) (us++[u]) (rows++[x]):=by
 have hl:=h.len
 have h9:∀k,v.ownBlock≠some k→k<wb.heap.size→v9.ownBlock≠some k:=fun k hk hlt e=>by
  rcases hv with h|h
  ·exact hk (h ▸ e)
  ·rw[h]at e
   injection e with e
   omega
 have hsz:=he.size
 refine⟨hr,by simp[hl],fun i hi hi'=>?_⟩
 rcases jB i rows.length with hx'|hx'
 ·rw[jx hx',jx (by omega)]
  exact((((h.rd i hx' (by omega)).mono (G:=fun k=>(F k∧v.ownBlock≠some k)∧k<w.heap.size) (by decide) (fun k hk hf=>⟨hf,hk⟩)).ext he).fr (grown_fr hg) (fun k hk e=>hk.1.2 e)).mono (by decide) (fun k _ hk=>⟨hFF k hk.1.1,h9 k hk.1.2 (by omega)⟩)
 ·have e:i=rows.length:=by simp at hi;omega
  subst e
  rw[jw (jq _),jw (by omega)]
  simp only[hl,zC,ja]
  exact(hx.fr (grown_fr hg) (fun k hk e=>hk.2.1 e)).mono (by decide) (fun k _ hk=>⟨hk.1,h9 k hk.2.1 hk.2.2⟩)
structure AnsB(W:World)(base gh gs gr bm p c:Nat)(H:Option Addr)(G F:Nat→Prop)(cols:List Int)(rows:List (List Vl))(v:Value)(us:List Value):Prop where
 head:Bk W gh 63 [.slice H p c]
 cols:Ins G W (.slice H p c) cols
 seen:Bk W gs 121 [.map (some bm)]
 map:MapV W bm rows.length (seenR rows)
 box:Bk W gr 38 [v]
 own:OwR F W base v us.length us rows
 fm:¬F bm
 fr':¬F gr
 fG:∀q,G q→q≠bm∧q≠gr∧v.ownBlock≠some q∧q<W.heap.size
theorem AnsB.fr{W W':World}{S G F:Nat→Prop}{base gh gs gr bm p c:Nat}{H:Option Addr}{cols:List Int}{rows:List (List Vl)}{v:Value}{us:List Value}(h:AnsB W base gh gs gr bm p c H G F cols rows v us)(hf:Fr S W W')(h1:¬S gh)(h2:¬S gs)(h3:¬S gr)(h4:¬S bm)(h5:∀q,G q→¬S q)(h6:∀q,F q→¬S q)(h7:∀q,v.ownBlock=some q→¬S q):AnsB W' base gh gs gr bm p c H G F cols rows v us :=
 ⟨h.head.fr hf h1,h.cols.fr hf h5,h.seen.fr hf h2,h.map.fr hf h4,h.box.fr hf h3,h.own.fr hf h7 h6,h.fm,h.fr',fun q hq=>let ⟨a,b,c,d⟩:=h.fG q hq;⟨a,b,c,jM d hf.size⟩⟩
theorem AnsB.ext{W W':World}{G F:Nat→Prop}{base gh gs gr bm p c:Nat}{H:Option Addr}{cols:List Int}{rows:List (List Vl)}{v:Value}{us:List Value}(h:AnsB W base gh gs gr bm p c H G F cols rows v us)(he:Ext W W'):AnsB W' base gh gs gr bm p c H G F cols rows v us :=
 h.fr (he.fr (fun _=>False)) (fun h=>h) (fun h=>h) (fun h=>h) (fun h=>h) (fun _ _ h=>h) (fun _ _ h=>h) (fun _ _ h=>h)
def AnsPost(base gh gs gr bm p c:Nat)(H:Option Addr)(G F:Nat→Prop)(cols:List Int)(rows:List (List Vl))(v:Value)(W:World)(e:Ending)(W':World):Prop :=
 e=.returned (.tuple #[])∧∃F' v' us',AnsB W' base gh gs gr bm p c H G F' cols rows v' us'∧Fr (fun q=>q=bm∨q=gr∨v.ownBlock=some q) W W'∧(∀q,F' q→F q∨(W.heap.size≤q∧q<W'.heap.size))∧∀q,v'.ownBlock=some q→v.ownBlock=some q∨(W.heap.size≤q∧q<W'.heap.size)
theorem info_rows:(Tryz.prog.info? 74).map (fun i=>(i.zero,i.size,i.bytes))=some (some (.slice none 0 0),1,24):=by kernel_rfl
set_option maxRecDepth 20000 in
set_option maxHeartbeats 1600000 in
theorem ans_any{W:World}{G F:Nat→Prop}{base gh gs gr bm p c gx n:Nat}{H:Option Addr}{cols:List Int}{rows:List (List Vl)}{v:Value}{us:List Value}{y:List Vl}(h:AnsB W base gh gs gr bm p c H G F cols rows v us)(hbase:base≤W.heap.size)(hl:rows.length≤1048576)(hx:Bk W gx 51 (vcells y))(hyl:y.length=n)(hok:∀v∈y,VOk v)(hc:∀x∈cols,0≤x∧x<(n:Int))(hp:p≤1000)(htab:TabE W) :
  Calls Tryz.prog 50 #[.slice (some ⟨gx,0,none⟩) n n,.pointer (some ⟨gh,0,none⟩),.pointer (some ⟨gs,0,none⟩),.pointer (some ⟨gr,0,none⟩)] W (AnsPost base gh gs gr bm p c H G F cols (addR rows (projR cols y)) v W):=by
 have hvok:∀v∈projR cols y,VOk v:=fun u hu=>by
  obtain⟨x,hx,rfl⟩:=jE.1 hu
  have h1:=hc x hx
  have h2:x.toNat<y.length:=by omega
  show VOk (y.getD x.toNat zv)
  rw[getD_at h2]
  exact hok _ (jg h2)
 have hpl:(projR cols y).length=p:=by
  obtain⟨A,c',e,-,-⟩:=h.cols
  injection e with e1 e2 e3
  rw[projR,jm,e2]
 have hksz:(keyS (projR cols y)).size≤maxLen:=by
  rw[keyS_size]
  have h2:=keyR_len hvok
  rw[hpl]at h2
  have h3:p*1048700≤1000*1048700:=zg _ hp
  simp only[maxLen]
  omega
 have HPK:=zO (pick_any (row_bk hx hyl) h.cols hc (by omega))
 obtain⟨A,c0,rfl⟩:=own_slice h.own.own
 have r1:=h.head.cell (i:=0) (by simp);have r2:=h.seen.cell (i:=0) (by simp);have r3:=h.box.cell (i:=0) (by simp)
 simp only[ja]at r1 r2 r3
 obtain⟨a,ha⟩:∃a,a=projR cols y:=⟨_,rfl⟩
 rw[←ha]at hvok hpl hksz HPK ⊢
 obtain⟨nu,hnu⟩:∃x,x=us.length:=⟨_,rfl⟩
 have hul:nu=rows.length:=by rw[hnu];exact h.own.len
 rw[←hnu]at r3 ⊢
 have HH:=zO h;have HTAB:=zO htab;have HVOK:=zO hvok;have HPL:=zO hpl;have HNU:=zO hnu;have HUL:=zO hul
 obtain⟨i0,hi0,hz0,hz1,hz2⟩:=info_parts info_rows
 have HI0:=zO (And.intro hi0 (And.intro hz0 (And.intro hz1 hz2)))
 have hnb:nu≤1048576:=by omega
 clear hi0 hz0 hz1 hz2 h hx hok hc htab hvok hpl hyl ha hnu hul
 go_enter Tryz.func50,Tryz.ntmps50
 go_wp2_with fail
 refine HPK.out.mono ?_
 rintro e W1 ⟨he1,AP,cp,rfl,hsp⟩
 have hkey:=rowkey_any hsp (by have:=HPL.out;omega) HVOK.out (fun w2 h2=>HTAB.out w2 (he1.trans h2))
 rw[HPL.out]at hkey hsp ⊢
 have HKY:=zO hkey;have HSP:=zO hsp;have HE1:=zO he1
 replace r2:=he1.cell r2;replace r3:=he1.cell r3
 have hz1:=he1.size
 clear hkey hsp he1 r1
 go_wp2_with fail
 refine HKY.out.mono ?_
 rintro e W2 ⟨_,rfl,he2,rfl⟩
 obtain⟨ks,hks⟩:∃s,s=keyS a:=⟨_,rfl⟩
 rw[show (⟨(keyR a).toArray⟩:ByteArray)=ks from hks.symm]
 rw[←hks]at hksz
 have HKS:=zO hks
 replace r2:=he2.cell r2;replace r3:=he2.cell r3
 have HE2:=zO (HE1.out.trans he2)
 have HH2:=zO (HH.out.ext HE2.out)
 have HSP2:=zO ((HSP.out.mono (G:=fun k=>W.heap.size≤k∧k<W1.heap.size) (by decide) (fun k hk h=>⟨h,hk⟩)).ext he2)
 have hz2:=he2.size
 clear he2 hks
 rcases hb:haveR rows ks with _|_
 ·have HB:=zO hb
  clear hb
  go_wp2_with (first
   | (at_lookup;refine wpList_lookup_V rfl _ _ 121 4 rfl Tryz.underlying121 (.bool false) (zero_bool _) bm rows.length (seenR rows) rfl HH2.out.map ks rfl hksz (.bool false) (by rw[seenR,HB.out];rfl) ?_)
   | (at_mapUpdate;refine wpList_update_V rfl _ _ _ 121 4 rfl Tryz.underlying121 bm rows.length (seenR rows) rfl HH2.out.map (by simp only[maxLen];omega) ks (.bool true) rfl hksz rfl ?_;intro W3 hm3 hg3;have HM3:=zO hm3;have HG3:=zO hg3;have hb3:Bk W3 gr 38 [.slice A nu c0]:=(by have h9:=HH2.out.box;rw[←HNU.out]at h9;exact h9.fr (grown_fr hg3) (fun e=>by injection e with e;exact HH2.out.map.ne HH2.out.box e.symm));have ho3:=HH2.out.own.fr (grown_fr hg3) (fun k hk e=>by injection e with e;exact HH2.out.map.ne_own HH2.out.own.own hk e.symm) (fun k hk e=>by injection e with e;exact HH2.out.fm (e ▸ hk));rw[←HNU.out]at ho3;have HB3:=zO hb3;have HO3:=zO ho3;have a0:=hb3.cell (i:=0) (by simp);simp only[ja]at a0;have hz3:=hg3.size;clear hm3 hg3 hb3 ho3 r2 r3)
   | (at_builtin;refine wpList_append_at rfl _ _ 38 rfl base 74 i0 (.slice none 0 0) 1 24 Tryz.underlying38 HI0.out.1 HI0.out.2.1 HI0.out.2.2.1 HI0.out.2.2.2 rfl (by omega) (.slice A nu c0) nu us rfl (HO3.out.own.alloc _) ⟨W3.heap.size,0,none⟩ 1 1 [.slice AP p cp] rfl rfl (laid_news W3 _ _) (by simp[Value.oneCell']) (by simp only[maxLen];omega) (by omega) (by simp;omega) ?_;intro v9 W9 hr9 hg9 hl9;obtain⟨A9,c9,rfl⟩:=own_slice hr9;have hv9:Bk W9 gr 38 [.slice A nu c0]:=Bk.fr (HB3.out.alloc _) (grown_fr hg9) (fun e=>own_bk HO3.out.own HB3.out (by decide) e rfl);have b0:=hv9.cell (i:=0) (by simp);have f0:=hv9.free 0;simp only[ja]at b0;have HR9:=zO hr9;have HG9:=zO hg9;have HL9:=zO hl9;have HV9:=zO hv9;clear hr9 hg9 hl9 hv9))
  have hzb:bm<W.heap.size:=HH.out.map.lt
  have hzr:gr<W.heap.size:=HH.out.box.lt
  have hz9:=HG9.out.size
  rw[World.size_alloc]at hz9
  have e1:addR rows a=rows++[a]:=by rw[addR,←HKS.out,if_neg (by rw[HB.out];decide)]
  have hset:Fr (fun k=>k=gr) W9 (W9.setCell ⟨gr,0,none⟩ (.slice A9 (nu+1) c9)):=Fr.setCell (S:=fun k=>k=gr) (Fr.refl _ W9) (p:=⟨gr,0,none⟩) (.inl rfl) _
  have hob:∀k,(Value.slice A nu c0).ownBlock=some k→k<W.heap.size:=fun k hk=>own_lt (by have h9:=HH.out.own.own;rw[←HNU.out]at h9;exact h9) hk
  have hF2:Fr (fun q=>q=bm∨q=gr∨(Value.slice A nu c0).ownBlock=some q) W2 (W9.setCell ⟨gr,0,none⟩ (.slice A9 (nu+1) c9)):=Fr.setCell (Fr.comp (((grown_fr HG3.out).mono (T:=fun q=>q=bm∨q=gr∨(Value.slice A nu c0).ownBlock=some q) (fun k _ e=>.inl (by injection e with e;exact e.symm))).ext ((Ext.refl W3).alloc _)) (grown_fr HG9.out) (fun k hk=>.inl (.inr (.inr hk)))) (.inl (.inr (.inl rfl))) _
  have hl9:∀q,(Value.slice A9 (nu+1) c9).ownBlock=some q→(Value.slice A nu c0).ownBlock=some q∨(W2.heap.size≤q∧q<W9.heap.size):=fun q hq=>by
   rcases HL9.out with h|h
   ·exact .inl (h ▸ hq)
   ·have h3:=own_lt HR9.out hq
    rw[h]at hq
    injection hq with hq
    rw[World.size_alloc]at hq
    right
    omega
  have hsz:(W9.setCell ⟨gr,0,none⟩ (.slice A9 (nu+1) c9)).heap.size=W9.heap.size:=World.size_setCell _ _ _
  have hx3:Sl rdVl (fun k=>(F k∨(W.heap.size≤k∧k<W1.heap.size))∧(Value.slice A nu c0).ownBlock≠some k∧k<(W3.alloc (.cells #[.slice AP p cp] 74)).heap.size) (W3.alloc (.cells #[.slice AP p cp] 74)) (.slice AP p cp) a :=
   (((HSP2.out.fr (grown_fr HG3.out) (fun k hk e=>by injection e with e;have:=hk.1;omega)).ext ((Ext.refl W3).alloc (.cells #[.slice AP p cp] 74)))).mono (by decide) (fun k h1 hk=>⟨.inr hk,fun e=>by have:=hob k e;have:=hk.1;omega,h1⟩)
  have how9:=OwR.more2 (F':=fun k=>F k∨(W.heap.size≤k∧k<W1.heap.size)) HO3.out ((Ext.refl W3).alloc (.cells #[.slice AP p cp] 74)) hx3 (fun k hk=>.inl hk) HR9.out HG9.out HL9.out
  refine bodyPost_end (results_none rfl _ _ _) rfl ⟨rfl,fun k=>F k∨(W.heap.size≤k∧k<W1.heap.size),.slice A9 (nu+1) c9,us++[.slice AP p cp],?_,?_,?_,?_⟩
  ·have hnh:∀{g:Nat} {t:TypeId} {l:List Value},Bk W2 g t l→t≠38→t≠74→¬(g=bm∨g=gr∨(Value.slice A nu c0).ownBlock=some g):=fun {g t l} hb h1 h2 e=>by
    rcases e with e|e|e
    ·exact HH2.out.map.ne hb e
    ·subst e
     exact(hb.ne HH2.out.box h1) rfl
    ·exact own_bk (by have h9:=HH2.out.own.own;rw[←HNU.out]at h9;exact h9) hb (fun e=>h2 e.symm) e rfl
   rw[e1]
   refine⟨HH2.out.head.fr hF2 (hnh HH2.out.head (by decide) (by decide)),HH2.out.cols.fr hF2 (fun q hq e=>?_),HH2.out.seen.fr hF2 (hnh HH2.out.seen (by decide) (by decide)),?_,HV9.out.set 0 _,?_,?_,?_,fun q hq=>?_⟩
   ·have h9:=HH2.out.fG q hq
    rw[←HNU.out]at h9
    exact e.elim h9.1 (fun e=>e.elim h9.2.1 h9.2.2.1)
   ·rw[←seenR_add HKS.out HB.out,jl]
    exact((HM3.out.ext ((Ext.refl W3).alloc _)).fr (grown_fr HG9.out) (fun e=>HM3.out.ne_own HO3.out.own e rfl)).fr hset (fun e=>HH.out.map.ne HH.out.box e.symm)
   ·have h9:=how9.fr hset (fun k hk e=>by subst e;exact own_bk HR9.out HV9.out (by decide) hk rfl) (fun k hk e=>by
     subst e
     rcases hk with hk|hk
     ·exact HH.out.fr' hk
     ·omega)
    rw[show (us++[Value.slice AP p cp]).length=nu+1 by simp[HNU.out]]
    exact h9
   ·rintro(hk|hk)
    ·exact HH.out.fm hk
    ·omega
   ·rintro(hk|hk)
    ·exact HH.out.fr' hk
    ·omega
   ·have h9:=HH2.out.fG q hq
    rw[←HNU.out]at h9
    refine⟨h9.1,h9.2.1,fun e=>(hl9 q e).elim h9.2.2.1 (fun h=>by have:=h9.2.2.2;omega),by have:=h9.2.2.2;rw[hsz];omega⟩
  ·exact Fr.comp (HE2.out.fr _) hF2 (fun k hk=>.inl hk)
  ·rintro q (hq|hq)
   ·exact .inl hq
   ·exact .inr ⟨hq.1,by rw[hsz];omega⟩
  ·intro q hq
   exact(hl9 q hq).imp_right (fun h=>⟨by omega,by rw[hsz];exact h.2⟩)
 ·have HB:=zO hb
  clear hb
  go_wp2_with (first
   | (at_lookup;refine wpList_lookup_V rfl _ _ 121 4 rfl Tryz.underlying121 (.bool false) (zero_bool _) bm rows.length (seenR rows) rfl HH2.out.map ks rfl hksz (.bool true) (by rw[seenR,HB.out];rfl) ?_))
  have e0:addR rows a=rows:=by rw[addR,←HKS.out,if_pos HB.out]
  refine bodyPost_end (results_none rfl _ _ _) rfl ⟨rfl,F,_,us,?_,HE2.out.fr _,fun q hq=>.inl hq,fun q hq=>.inl hq⟩
  rw[e0]
  have h9:=HH2.out
  rwa [←HNU.out]at h9
def AnsSt(base gh gs gr bm p c:Nat)(H:Option Addr)(G:Nat→Prop)(cols:List Int)(rows0 L:List (List Vl))(O:Nat→Prop)(W:World):Prop :=
 ∃F v us,AnsB W base gh gs gr bm p c H G F cols (addsR cols rows0 L) v us∧(∀q,O q→q<W.heap.size)∧O gh∧O gs∧O gr∧O bm∧(∀q,G q→O q)∧(∀q,F q→O q)∧∀q,v.ownBlock=some q→O q
theorem ans_vis{base gh gs gr bm p c gx n h1 N:Nat}{wT:World}{H:Option Addr}{G:Nat→Prop}{cols:List Int}{rows0:List (List Vl)}(hbase:base≤wT.heap.size)(hN:rows0.length+N≤1048576)(hc:∀x∈cols,0≤x∧x<(n:Int))(hp:p≤1000)(htab:TabE wT) :
  VisOk N 50 #[.pointer (some ⟨gh,0,none⟩),.pointer (some ⟨gs,0,none⟩),.pointer (some ⟨gr,0,none⟩)] gx n wT h1 (AnsSt base gh gs gr bm p c H G cols rows0) where
 lt:=fun ⟨_,_,_,_,h,_⟩=>h
 keep:=fun ⟨F,v,us,hB,h1,h2,h3,h4,h5,h6,h7,h8⟩ hf ht=>⟨F,v,us,hB.fr hf (fun h=>ht _ h h2) (fun h=>ht _ h h3) (fun h=>ht _ h h4) (fun h=>ht _ h h5) (fun q hq h=>ht _ h (h6 q hq)) (fun q hq h=>ht _ h (h7 q hq)) (fun q hq h=>ht _ h (h8 q hq)),fun q hq=>jM (h1 q hq) hf.size,h2,h3,h4,h5,h6,h7,h8⟩
 visit:=by
  rintro L O W y ⟨F,v,us,hB,h1,h2,h3,h4,h5,h6,h7,h8⟩ hlN he hh hx hl hok hox
  have hlen:=addsR_len cols rows0 L
  refine(ans_any hB (js hbase he.size) (by omega) hx hl hok hc hp (fun w2 k2=>htab w2 (he.trans k2))).mono ?_
  rintro e W' ⟨rfl,F',v',us',hB',hf,hF,hv⟩
  have hz:=hf.size
  refine⟨rfl,fun q=>O q∨(W.heap.size≤q∧q<W'.heap.size),⟨F',v',us',?_,?_,.inl h2,.inl h3,.inl h4,.inl h5,fun q hq=>.inl (h6 q hq),fun q hq=>?_,fun q hq=>?_⟩,hf.mono (fun q _ hq=>?_),fun q hq=>hq.imp_right (fun h=>h.1)⟩
  ·rw[addsR_snoc]
   exact hB'
  ·rintro q (hq|hq)
   ·have:=h1 q hq;omega
   ·exact hq.2
  ·exact(hF q hq).imp_left (h7 q)
  ·exact(hv q hq).imp_left (h8 q)
  ·rcases hq with rfl|rfl|hq
   ·exact h5
   ·exact h4
   ·exact h8 q hq
end Go.Proofs.YtplldnnnhgnbjaaGreatDoor
namespace Go.Proofs.YtplldnnnhgnbjaaGreatDoor
open Go.RowKit Go.Maps
theorem ky_of{w:World}{base n:Nat}{v:Value}{l:List Ky}(h:w.ownsRow base 208 2 v n (kcells l))(hn:n=l.length):Sl rdKy (fun k=>base≤k) w v l:=by
 obtain⟨A,c,rfl,hc,hcl⟩:=Cl.of_own h
 refine⟨A,c,by rw[hn],by omega,fun i hi=>?_⟩
 obtain⟨ad,k1,hb,k3⟩:=hcl.at' (j:=i*2+0) (x:=.string l[i].var) (kcells_get hi 0 (by decide))
 obtain⟨ad',k4,-,k6⟩:=hcl.at' (j:=i*2+1) (x:=.bool l[i].desc) (kcells_get hi 1 (by decide))
 subst k1
 injection k4 with k4
 subst k4
 refine⟨ad,l[i].cells,rfl,hb.2,rfl,fun j hj=>?_⟩
 obtain rfl|rfl:j=0∨j=1:=by simp[Ky.cells]at hj;omega
 ·exact k3
 ·exact k6
def firstF(l:List ByteArray):ByteArray→Option Value:=fun s=>if s∈l then some (.int .i64 (idxI l s)) else none
theorem firstF_nil:firstF []=fun _=>none:=by funext s;unfold firstF;rw[if_neg (by simp)]
theorem idxI_snoc{l:List ByteArray}{a s:ByteArray}(h:s∈l):idxI (l++[a]) s=idxI l s:=by
 have h1:l.findIdx (fun x=>decide (x=s))<l.length:=List.findIdx_lt_length_of_exists ⟨s,h,by simp⟩
 rw[idxI,if_pos (jp.2 (.inl h)),idxI,if_pos h,List.findIdx_append,if_pos h1]
theorem firstF_old{l:List ByteArray}{a:ByteArray}(h:a∈l):firstF (l++[a])=firstF l:=by
 funext s
 unfold firstF
 by_cases hs:s∈l
 ·rw[if_pos hs,if_pos (jp.2 (.inl hs)),idxI_snoc hs]
 ·rw[if_neg hs,if_neg (fun e=>by
   rcases jp.1 e with e|e
   ·exact hs e
   ·rw[jt.1 e]at hs
    exact hs h)]
theorem firstF_new{l:List ByteArray}{a:ByteArray}(h:a ∉ l):updV (firstF l) a (some (.int .i64 (l.length:Int)))=firstF (l++[a]):=by
 funext s
 unfold updV firstF
 by_cases e:s=a
 ·subst e
  rw[if_pos rfl,if_pos (by simp),idxI_at (i:=l.length) (by simp) (by simp) (fun j hj hlt=>by
   rw[jx hlt]
   intro e2
   exact h (e2 ▸ jg hlt))]
 ·rw[if_neg e]
  by_cases hs:s∈l
  ·rw[if_pos hs,if_pos (jp.2 (.inl hs)),idxI_snoc hs]
  ·rw[if_neg hs,if_neg (fun e2=>by
    rcases jp.1 e2 with e2|e2
    ·exact hs e2
    ·exact e (jt.1 e2))]
def colsQ(hd:List ByteArray)(od:List Ky):List Int:=colsI hd ((orderL hd od).map Ky.var)
set_option maxRecDepth 20000 in
set_option maxHeartbeats 3200000 in
theorem colsq_any{F:Nat→Prop}{w:World}{A B O:Option Addr}{ca cb co nb:Nat}{ag:Int}{av:ByteArray}{hd:List ByteArray}{od:List Ky}(hH:Strs F w (.slice A hd.length ca) hd)(hO:Sl rdKy F w (.slice O od.length co) od)(hhz:∀s∈hd,s.size≤maxLen)(hoz:∀k∈od,k.var.size≤maxLen)(hlh:hd.length≤100000)(hlo:od.length≤100000) :
  Calls Tryz.prog 125 #[.agg #[.slice A hd.length ca,.int .i64 ag,.string av,.slice B nb cb,.slice O od.length co]] w (Ret (fun x w'=>∃b,w.heap.size≤b∧w'.ownsRow b 3 1 x (colsQ hd od).length ((colsQ hd od).map I64)) w):=by
 have HOR:=zO (fun (V:World) (hV:Ext w V)=>order_any (ca:=ca) (cb:=cb) (co:=co) (nb:=nb) (ag:=ag) (av:=av) (B:=B) (hH.ext hV) (hO.ext hV) hhz hoz (by omega) (by omega))
 have hzo:∀k∈orderL hd od,k.var.size≤maxLen:=fun k hk=>by
  unfold orderL at hk
  rcases jp.1 hk with hk|hk
  ·exact hoz k hk
  ·obtain⟨v,hv,rfl⟩:=jE.1 hk
   exact hhz v (jA.1 hv).1
 have hol:(orderL hd od).length≤200000:=by
  unfold orderL
  rw[jl,jm]
  have:=jG (fun v=>!decide (v∈od.map Ky.var)) hd
  omega
 have HCQ:Hid (colsQ hd od=colsI hd ((orderL hd od).map Ky.var)):=zO rfl
 obtain⟨cq,hcq⟩:∃x,x=colsQ hd od:=⟨_,rfl⟩
 rw[←hcq]at HCQ ⊢
 obtain⟨ol,hol2⟩:∃x,x=orderL hd od:=⟨_,rfl⟩
 rw[←hol2]at HCQ HOR hzo hol
 obtain⟨nh,hnh⟩:∃n,n=hd.length:=⟨_,rfl⟩
 obtain⟨no,hno⟩:∃n,n=od.length:=⟨_,rfl⟩
 obtain⟨nk,hnk⟩:∃n,n=ol.length:=⟨_,rfl⟩
 rw[←hnh]at hH hlh HOR
 rw[←hno]at hO hlo HOR
 rw[←hnk]at HOR hol
 rw[←hnh,←hno]
 have HNH:=zO hnh;have HNK:=zO hnk;have HH:=zO hH;have HHZ:=zO hhz;have HZO:=zO hzo
 obtain⟨i0,hi0,hz0,hz1,hz2⟩:=info_parts info_i64
 have HI0:=zO (And.intro hi0 (And.intro hz0 (And.intro hz1 hz2)));clear hi0 hz0 hz1 hz2
 have hmm:=@run_makeMap Tryz.prog
 clear hnh hno hnk hH hO hhz hoz hzo hcq hol2
 obtain⟨B',d',e,-,hcl⟩:=HH.out
 injection e with e1 e2 e3
 subst e1
 have HCL:=zO hcl
 clear hcl e2 e3
 go_enter Tryz.func125,Tryz.ntmps125
 have hx:Ext w (w.alloc (.cells #[.slice A nh ca,.int .i64 ag,.string av,.slice B nb cb,.slice O no co] 28)):=(Ext.refl w).alloc _
 have kb:=Bk.new w 28 [.slice A nh ca,.int .i64 ag,.string av,.slice B nb cb,.slice O no co]
 change Bk (w.alloc (.cells #[.slice A nh ca,.int .i64 ag,.string av,.slice B nb cb,.slice O no co] 28)) _ _ _ at kb
 have kb2:=kb.alloc (.map #[] 0)
 have b0:=kb2.cell (i:=0) (by simp)
 simp only[ja,je]at b0
 have hm1:=MapV.made (w.alloc (.cells #[.slice A nh ca,.int .i64 ag,.string av,.slice B nb cb,.slice O no co] 28))
 rw[←firstF_nil,show (w.alloc (.cells #[.slice A nh ca,.int .i64 ag,.string av,.slice B nb cb,.slice O no co] 28)).heap.size=w.heap.size+1 by simp]at hm1
 have hx2:=hx.alloc (.map #[] 0)
 go_wp2_with fail
 obtain⟨W1,hW1⟩:∃V,V=(w.alloc (.cells #[.slice A nh ca,.int .i64 ag,.string av,.slice B nb cb,.slice O no co] 28)).alloc (.map #[] 0):=⟨_,rfl⟩
 rw[←hW1]at hm1 hx2 kb2 ⊢
 have HM1:=zO hm1;have HX1:=zO hx2;have HK1:=zO kb2
 clear hm1 hx2 kb2 kb hx b0 hW1 hmm
 go_loopw [17] (fun t wr=>∃i m:Nat,i≤nh∧m≤i∧t=.int .i64 (i:Int)∧Hid (MapV wr (w.heap.size+1) m (firstF (hd.take i)))∧Hid (Ext w wr)∧Hid (Bk wr w.heap.size 28 [.slice A nh ca,.int .i64 ag,.string av,.slice B nb cb,.slice O no co])) (fun t _=>nh-(intOf t).toNat)
 case atStart=>exact⟨0,0,jn _,jq _,rfl,HM1,HX1,HK1⟩
 case round =>
  obtain⟨i,m,hi,hmi,rfl,HM,HX,HK⟩:=hrel
  obtain⟨W,rfl⟩:∃W:World,W=wr:=⟨_,rfl⟩
  by_cases hlt:i<nh
  ·have i1:(0:Int)≤(i:Int):=by omega
   have i2:(i:Int)<(nh:Int):=by omega
   have hit:i<hd.length:=by have:=HNH.out;omega
   obtain⟨ad,rfl,-,d0⟩:=HCL.out.str hit
   replace d0:=HX.out.cell d0
   have hzi:=HHZ.out _ (jg hit)
   have htk:hd.take (i+1)=hd.take i++[hd[i]]:=jj hit
   have htl:(hd.take i).length=i:=by rw[ju];omega
   obtain⟨x,hx⟩:∃x,x=hd[i]:=⟨_,rfl⟩
   rw[←hx]at d0 hzi htk
   have HTK:=zO htk;have HTL:=zO htl
   clear hx htk htl
   by_cases hin:x∈hd.take i
   ·have HIN:=zO hin
    have HU1:Hid ((firstF (hd.take i) x).getD (.int .i64 0)=.int .i64 (idxI (hd.take i) x)):=zO (by unfold firstF;rw[if_pos hin];rfl)
    have HU2:Hid ((firstF (hd.take i) x).isSome=true):=zO (by unfold firstF;rw[if_pos hin];rfl)
    obtain⟨iv,hiv⟩:∃z,z=idxI (hd.take i) x:=⟨_,rfl⟩
    rw[←hiv]at HU1
    clear hin hiv
    go_wp2_with (first
     | (refine wpList_lookup_okV rfl _ _ 145 3 rfl Tryz.underlying145 (.int .i64 0) (zero_int _) (w.heap.size+1) m _ rfl HM.out x rfl hzi (.int .i64 iv) HU1.out true HU2.out ?_))
    go_roundw
    case rel=>exact⟨i+1,m,by omega,by omega,by go_num,zO (by rw[HTK.out,firstF_old HIN.out];exact HM.out),HX,HK⟩
    case measure=>simp[intOf];omega
   ·have HIN:=zO hin
    have HU1:Hid ((firstF (hd.take i) x).getD (.int .i64 0)=.int .i64 0):=zO (by unfold firstF;rw[if_neg hin];rfl)
    have HU2:Hid ((firstF (hd.take i) x).isSome=false):=zO (by unfold firstF;rw[if_neg hin];rfl)
    clear hin
    go_wp2_with (first
     | (refine wpList_lookup_okV rfl _ _ 145 3 rfl Tryz.underlying145 (.int .i64 0) (zero_int _) (w.heap.size+1) m _ rfl HM.out x rfl hzi (.int .i64 0) HU1.out false HU2.out ?_)
     | (refine wpList_update_V rfl _ _ _ 145 3 rfl Tryz.underlying145 (w.heap.size+1) m (firstF (hd.take i)) rfl HM.out (by simp only[maxLen];omega) x (.int .i64 (i:Int)) rfl hzi rfl ?_;intro w5 hm5 hg5;have HM5:=zO hm5;have HG5:=zO (grown_fr hg5);clear hm5 hg5))
    go_roundw
    case rel=>exact⟨i+1,m+1,by omega,by omega,by go_num,zO (by rw[HTK.out,←firstF_new HIN.out,HTL.out];exact HM5.out),zO (HG5.out.new HX.out (fun q e=>by injection e with e;omega)),zO (HK.out.fr HG5.out (fun e=>by injection e with e;omega))⟩
    case measure=>simp[intOf];omega
  ·obtain rfl:i=nh:=by omega
   have hdi:¬(i:Int)<(i:Int):=by omega
   have et:hd.take i=hd:=jo (by have:=HNH.out;omega)
   rw[et]at HM
   have b0:=HK.out.cell (i:=0) (by simp);have b1:=HK.out.cell (i:=1) (by simp);have b2:=HK.out.cell (i:=2) (by simp);have b3:=HK.out.cell (i:=3) (by simp);have b4:=HK.out.cell (i:=4) (by simp)
   simp only[ja,je]at b0 b1 b2 b3 b4
   have HORW:=zO (HOR.out W HX.out)
   clear et
   go_wp2_with fail
   refine HORW.out.mono ?_
   rintro e w2 ⟨v2,rfl,he,hown⟩
   obtain⟨A2,c2,rfl⟩:=own_slice hown
   have HKY:=zO (ky_of hown HNK.out)
   have HX2:=zO (HX.out.trans he);have HM2:=zO (HM.out.ext he)
   clear hown he b0 b1 b2 b3 b4 hlt hi
   go_wp2_with fail
   go_loopw [8,37] (fun v q wr=>∃(j:Nat) (P:Option Addr) (cp:Nat),j≤nk∧q=.int .i64 (j:Int)∧v=.slice P j cp∧Hid (wr.ownsRow w2.heap.size 3 1 (.slice P j cp) j ((colsI hd ((ol.take j).map Ky.var)).map I64))∧Hid (Ext w2 wr)) (fun _ q _=>nk-(intOf q).toNat)
   case atStart=>exact⟨0,none,0,jn _,rfl,rfl,zO (by simpa [colsI] using World.ownsRow_nil _ _ _ _),zO (Ext.refl w2)⟩
   case round =>
    obtain⟨j,P,cp,hj,rfl,rfl,HOW,HXR⟩:=hrel
    obtain⟨Y,rfl⟩:∃Y:World,Y=wr:=⟨_,rfl⟩
    by_cases hlt:j<nk
    ·have i1:(0:Int)≤(j:Int):=by omega
     have i2:(j:Int)<(nk:Int):=by omega
     have hjl:j<ol.length:=by have:=HNK.out;omega
     obtain⟨ad,rfl,-,d0,d1⟩:=HKY.out.ky hjl
     replace d0:=HXR.out.cell d0;replace d1:=HXR.out.cell d1
     have hzi:=HZO.out _ (jg hjl)
     have htk:(colsI hd ((ol.take (j+1)).map Ky.var)).map I64=(colsI hd ((ol.take j).map Ky.var)).map I64++[.int .i64 (idxI hd ol[j].var)]:=by
      unfold colsI
      rw[jj hjl,jI,jI,jI]
      rfl
     obtain⟨⟨xv,xd⟩,hx⟩:∃x,x=ol[j]:=⟨_,rfl⟩
     rw[←hx]at d0 d1 hzi htk
     simp only at d0 d1 hzi htk
     have HTK:=zO htk
     have hbw:w2.heap.size≤Y.heap.size:=HXR.out.size
     clear hx htk hjl
     have hmY:=HM2.out.ext (HXR.out.alloc (.cells #[.string xv,.bool xd] 208))
     have HMY:=zO hmY
     clear hmY
     by_cases hin:xv∈hd
     ·have HU1:Hid ((firstF hd xv).getD (.int .i64 0)=.int .i64 (idxI hd xv)):=zO (by unfold firstF;rw[if_pos hin];rfl)
      have HU2:Hid ((firstF hd xv).isSome=true):=zO (by unfold firstF;rw[if_pos hin];rfl)
      obtain⟨r,hr⟩:∃z,z=idxI hd xv:=⟨_,rfl⟩
      rw[←hr]at HU1 HTK
      clear hin hr
      go_wp2_with (first
       | (refine wpList_lookup_okV rfl _ _ 145 3 rfl Tryz.underlying145 (.int .i64 0) (zero_int _) (w.heap.size+1) m _ rfl HMY.out xv rfl hzi (.int .i64 r) HU1.out true HU2.out ?_;obtain⟨Y2,hY2⟩:∃V,V=Y.alloc (.cells #[.string xv,.bool xd] 208):=⟨_,rfl⟩;rw[←hY2];have hxY:Ext Y Y2:=(by rw[hY2];exact(Ext.refl Y).alloc _);have HOW2:=zO (own_ext' HOW.out hxY);have HXR2:=zO (HXR.out.trans hxY);have hbw2:=hxY.size;clear hY2 hxY d0 d1 HMY)
       | (at_builtin;refine wpList_append_at rfl _ _ 63 rfl w2.heap.size 3 i0 (.int .i64 0) 1 8 Tryz.underlying63 HI0.out.1 HI0.out.2.1 HI0.out.2.2.1 HI0.out.2.2.2 rfl (by omega) (.slice P j cp) j ((colsI hd ((ol.take j).map Ky.var)).map I64) rfl (HOW2.out.alloc _) ⟨Y2.heap.size,0,none⟩ 1 1 [.int .i64 r] rfl rfl (laid_news Y2 _ _) (by simp[Value.oneCell']) (by simp only[maxLen];omega) (by omega) (by simp;omega) ?_;intro v3 w3 hr3 hg3 hl3;obtain⟨P3,c3,rfl⟩:=own_slice hr3;have HR3:=zO hr3;have HX3:=zO ((HXR2.out.alloc _).grown hg3 (fun k hk=>(HOW2.out.lt k hk).1));clear hr3 hg3 hl3))
      go_roundw
      case rel=>exact⟨j+1,P3,c3,by omega,by go_num,rfl,zO (by rw[HTK.out];exact HR3.out),HX3⟩
      case measure=>simp[intOf];omega
     ·have HU1:Hid ((firstF hd xv).getD (.int .i64 0)=.int .i64 0):=zO (by unfold firstF;rw[if_neg hin];rfl)
      have HU2:Hid ((firstF hd xv).isSome=false):=zO (by unfold firstF;rw[if_neg hin];rfl)
      have hr:idxI hd xv = -1:=by rw[idxI,if_neg hin]
      rw[hr]at HTK
      clear hin hr
      go_wp2_with (first
       | (refine wpList_lookup_okV rfl _ _ 145 3 rfl Tryz.underlying145 (.int .i64 0) (zero_int _) (w.heap.size+1) m _ rfl HMY.out xv rfl hzi (.int .i64 0) HU1.out false HU2.out ?_;obtain⟨Y2,hY2⟩:∃V,V=Y.alloc (.cells #[.string xv,.bool xd] 208):=⟨_,rfl⟩;rw[←hY2];have hxY:Ext Y Y2:=(by rw[hY2];exact(Ext.refl Y).alloc _);have HOW2:=zO (own_ext' HOW.out hxY);have HXR2:=zO (HXR.out.trans hxY);have hbw2:=hxY.size;clear hY2 hxY d0 d1 HMY)
       | (at_builtin;refine wpList_append_at rfl _ _ 63 rfl w2.heap.size 3 i0 (.int .i64 0) 1 8 Tryz.underlying63 HI0.out.1 HI0.out.2.1 HI0.out.2.2.1 HI0.out.2.2.2 rfl (by omega) (.slice P j cp) j ((colsI hd ((ol.take j).map Ky.var)).map I64) rfl (HOW2.out.alloc _) ⟨Y2.heap.size,0,none⟩ 1 1 [.int .i64 (-1)] rfl rfl (laid_news Y2 _ _) (by simp[Value.oneCell']) (by simp only[maxLen];omega) (by omega) (by simp;omega) ?_;intro v3 w3 hr3 hg3 hl3;obtain⟨P3,c3,rfl⟩:=own_slice hr3;have HR3:=zO hr3;have HX3:=zO ((HXR2.out.alloc _).grown hg3 (fun k hk=>(HOW2.out.lt k hk).1));clear hr3 hg3 hl3))
      go_roundw
      case rel=>exact⟨j+1,P3,c3,by omega,by go_num,rfl,zO (by rw[HTK.out];exact HR3.out),HX3⟩
      case measure=>simp[intOf];omega
    ·obtain rfl:j=nk:=by omega
     have hdj:¬(j:Int)<(j:Int):=by omega
     have HQ:Hid (∃b,w.heap.size≤b∧Y.ownsRow b 3 1 (.slice P j cp) cq.length (cq.map I64)):=zO (by
      have h:=HOW.out
      rw[jo (by have:=HNK.out;omega),←HCQ.out]at h
      have hcl:cq.length=j:=by
       have h9:=h.1
       have h10:=HCQ.out
       rw[h10]
       unfold colsI
       rw[jm,jm]
       exact HNK.out.symm
      rw[hcl]
      exact⟨w2.heap.size,HX2.out.size,h⟩)
     have HXY:=zO (HX2.out.trans HXR.out)
     go_wp2_with fail
     go_ret
     exact Ret.mk HXY.out HQ.out
end Go.Proofs.YtplldnnnhgnbjaaGreatDoor
namespace Go.Proofs.YtplldnnnhgnbjaaGreatDoor
open Go.RowKit Go.Maps
structure Wk{α : Type}(c : α→α→Int):Prop where
 anti:∀a b,0<c a b↔c b a<0
 tr:∀a b d,c a b≤0→c b d≤0→c a d≤0
section
variable {α β : Type} {c d : α→α→Int} {e : β→β→Int}
theorem Wk.self(h:Wk c)(a : α):c a a=0:=by have:=h.anti a a;omega
theorem Wk.lt_le(h:Wk c){a b x : α}(h1:c a b<0)(h2:c b x≤0):c a x<0:=by
 rcases Int.lt_or_le (c a x) 0 with h3|h3
 ·exact h3
 ·have h4:=h.anti x a
  have h5:=h.anti b a
  have h6:=h.tr b x a h2 (by have:=h.anti a x;have:=h.anti x a;omega)
  have h7:=h.anti a b
  omega
theorem Wk.le_lt(h:Wk c){a b x : α}(h1:c a b≤0)(h2:c b x<0):c a x<0:=by
 rcases Int.lt_or_le (c a x) 0 with h3|h3
 ·exact h3
 ·have h6:=h.tr x a b (by have:=h.anti a x;have:=h.anti x a;omega) h1
  have h7:=h.anti x b
  have h8:=h.anti b x
  omega
theorem Wk.neg(h:Wk c):Wk (fun a b=>-(c a b)) where
 anti a b:=by
  have h1:=h.anti a b
  have h2:=h.anti b a
  show 0 < -(c a b)↔-(c b a)<0
  omega
 tr a b x h1 h2:=by
  have h1' : -(c a b)≤0:=h1
  have h2' : -(c b x)≤0:=h2
  have h3:=h.anti b a
  have h4:=h.anti x b
  have h5:=h.tr x b a (by omega) (by omega)
  have h6:=h.anti a x
  have h7:=h.anti x a
  show -(c a x)≤0
  omega
theorem Wk.map(h:Wk e)(f : α→β):Wk (fun a b=>e (f a) (f b)):=⟨fun a b=>h.anti _ _,fun a b x=>h.tr _ _ _⟩
theorem Wk.seq(h:Wk c)(k:Wk d):Wk (fun a b=>if c a b=0 then d a b else c a b) where
 anti a b:=by
  have h1:=h.anti a b
  have h2:=h.anti b a
  have h3:=k.anti a b
  show 0<(if c a b=0 then d a b else c a b)↔(if c b a=0 then d b a else c b a)<0
  by_cases e1:c a b=0
  ·rw[if_pos e1,if_pos (by omega)]
   exact h3
  ·rw[if_neg e1,if_neg (by omega)]
   exact h1
 tr a b x h1 h2:=by
  have h1':(if c a b=0 then d a b else c a b)≤0:=h1
  have h2':(if c b x=0 then d b x else c b x)≤0:=h2
  show (if c a x=0 then d a x else c a x)≤0
  by_cases e1:c a b=0
  ·rw[if_pos e1]at h1'
   by_cases e2:c b x=0
   ·rw[if_pos e2]at h2'
    have h3:=h.tr a b x (by omega) (by omega)
    have h4:=h.tr x b a (by have:=h.anti b x;have:=h.anti x b;omega) (by have:=h.anti a b;have:=h.anti b a;omega)
    have h5:=h.anti x a
    have h6:=h.anti a x
    rw[if_pos (by omega)]
    exact k.tr a b x h1' h2'
   ·rw[if_neg e2]at h2'
    have h3:=h.le_lt (a:=a) (b:=b) (x:=x) (by omega) (by omega)
    rw[if_neg (by omega)]
    omega
  ·rw[if_neg e1]at h1'
   have h3:=h.lt_le (a:=a) (b:=b) (x:=x) (by omega) (by
    by_cases e2:c b x=0
    ·omega
    ·rw[if_neg e2]at h2'
     exact h2')
   rw[if_neg (by omega)]
   omega
end
theorem wk_vl:Wk cmpV:=⟨fun a b=>cmp_vl.lt_gt,fun a b d h1 h2=>cmp_vl.le_trans h1 h2⟩
theorem wk_qD(u:Int)(ds:Bool):Wk (fun a b=>qD a b u ds):=by
 unfold qD
 cases ds
 ·exact wk_vl.map (fun a:List Vl=>a.getD u.toNat zv)
 ·exact(wk_vl.map (fun a:List Vl=>a.getD u.toNat zv)).neg
theorem wk_cmpQ:∀keys:List (Int×Bool),Wk (fun a b=>cmpQ a b keys)
 | []=>⟨fun _ _=>Iff.rfl,fun _ _ _ _ _=>Int.le_refl _⟩
 | x::l=>(wk_qD x.1 x.2).seq (wk_cmpQ l)
section
variable {F:Nat→Prop} {w:World} {g m:Nat} {keys:List (Int×Bool)}
def PrQ(F:Nat→Prop)(w:World)(g m:Nat):Type:={ p:Value×List Vl // Sl rdVl (fun k=>F k∧some g≠some k) w p.1 p.2∧p.2.length=m }
def PrQ.enc(p:PrQ F w g m):Value:=p.1.1
def PrQ.row(p:PrQ F w g m):List Vl:=p.1.2
def PrQ.cf(keys:List (Int×Bool))(p q:PrQ F w g m):Int:=cmpQ p.row q.row keys
theorem PrQ.one:Go.Proofs.OneCell (PrQ.enc (F:=F) (w:=w) (g:=g) (m:=m)):=fun p=>by
 obtain⟨A,c,e⟩:=p.2.1.sl
 unfold PrQ.enc
 rw[e]
 rfl
theorem PrQ.swo:Go.Sort.SWO (Go.Proofs.ltOf (PrQ.cf (F:=F) (w:=w) (g:=g) (m:=m) keys)) where
 irrefl x:=by
  unfold Go.Proofs.ltOf PrQ.cf
  rw[(wk_cmpQ keys).self]
  rfl
 trans x y z h1 h2:=by
  unfold Go.Proofs.ltOf PrQ.cf at *
  rw[decide_eq_true_eq]at *
  exact(wk_cmpQ keys).lt_le h1 (by have h3:cmpQ y.row z.row keys<0:=h2;show cmpQ y.row z.row keys≤0;omega)
 ntrans x y z h1 h2:=by
  unfold Go.Proofs.ltOf PrQ.cf at *
  rw[decide_eq_false_iff_not]at *
  have a1:=(wk_cmpQ keys).anti x.row y.row
  have a1':=(wk_cmpQ keys).anti y.row x.row
  have a2:=(wk_cmpQ keys).anti y.row z.row
  have a2':=(wk_cmpQ keys).anti z.row y.row
  have a3:=(wk_cmpQ keys).anti z.row x.row
  have a4:=(wk_cmpQ keys).tr z.row y.row x.row (by omega) (by omega)
  intro h3
  omega
theorem fr_sorted{α : Type} [Inhabited α] (enc : α→Value) (n:Nat) (d:Array α) (os:Array Obj):w.grownBy (Go.Sort.grow (Go.Sort.putRow enc (Go.Sort.ahead w n) g 0 d) os) (some g):=by
 refine⟨rfl,rfl,rfl,by simp,fun k hk hne=>?_⟩
 rw[Go.Sort.heap_grow_old _ _ (by simpa using hk)]
 have:g≠k:=fun e=>hne (by rw[e])
 simp[Go.Sort.putRow,Go.Sort.mapBlock,Go.Sort.ahead,Array.getElem?_modify,this]
theorem PrQ.lays [Inhabited (PrQ F w g m)] {H K:Nat→Prop} {size gC gK p c3 c4:Nat} {C D:Option Addr} {cols:List Int} {ks:List Ky} (hC:Ins H w (.slice C p c3) cols) (hK:Sl rdKy K w (.slice D p c4) ks) (g1:Bk w gC 63 [.slice C p c3]) (g2:Bk w gK 26 [.slice D p c4]) (hc:∀x∈cols,0≤x∧x<(m:Int)) (hp:p≤1000000) (hgC:gC≠g) (hgK:gK≠g) (hH:∀k,H k→k≠g) (hKK:∀k,K k→k≠g):Go.Proofs.CmpLays1 Tryz.prog 126 #[.pointer (some ⟨gC,0,none⟩),.pointer (some ⟨gK,0,none⟩)] (PrQ.enc (F:=F) (w:=w) (g:=g) (m:=m)) (PrQ.cf (cols.zip (ks.map Ky.desc))) g 0 size w:=by
 intro q os dk _ x y
 have hf:=grown_fr (fr_sorted (w:=w) (g:=g) PrQ.enc q dk os)
 obtain⟨⟨v1,r1⟩,h1,l1⟩:=x
 obtain⟨⟨v2,r2⟩,h2,l2⟩:=y
 simp only at h1 l1 h2 l2
 have k1:=h1.fr hf (fun k hk e=>hk.2 e)
 have k2:=h2.fr hf (fun k hk e=>hk.2 e)
 obtain⟨A,c,rfl⟩:=k1.sl
 obtain⟨B,d,rfl⟩:=k2.sl
 have hne:∀{k:Nat},k≠g→¬some g=some k:=fun hk e=>by injection e with e;exact hk e.symm
 exact cmpq_any k1 k2 (hC.fr hf (fun k hk=>hne (hH k hk))) (hK.fr hf (fun k hk=>hne (hKK k hk))) (g1.fr hf (hne hgC)) (g2.fr hf (hne hgK)) (fun u hu=>by have:=hc u hu;omega) hp
end
theorem own_sorted{α : Type} [Inhabited α] (enc : α→Value) {w:World} {base g cap n m:Nat} {e:TypeId} {os:Array Obj} {cur:Array Value} {d:Array α} (hm:d.size=m) (hbase:base≤g) (hb:w.heap[g]?=some (.cells cur e (0,0))) (h1:m≤cap) (h2:cap≤maxLen) (h3:cur.size=cap*1) :
  (Go.Sort.grow (Go.Sort.putRow enc (Go.Sort.ahead w n) g 0 d) os).ownsRow base e 1 (.slice (some ⟨g,0,none⟩) m cap) m (d.toList.map enc):=by
 have hg:g<w.heap.size:=(jT.1 hb).1
 have hh:(Go.Sort.grow (Go.Sort.putRow enc (Go.Sort.ahead w n) g 0 d) os).heap[g]?=some (.cells (Go.Sort.putCells enc 0 d cur) e (0,0)):=by
  rw[Go.Sort.heap_grow_old _ _ (by simpa using hg)]
  simp[Go.Sort.putRow,Go.Sort.mapBlock,Go.Sort.ahead,Array.getElem?_modify,hb,Go.Sort.onCells]
 refine⟨by simp[hm],.inr ⟨g,cap,_,rfl,hbase,hh,h1,h2,by simp[Go.Sort.putCells,h3],?_⟩⟩
 apply List.ext_getElem?
 intro j
 by_cases hj:j<d.size
 ·rw[zo (by omega),Array.getElem?_toList]
  simp[Go.Sort.putCells,hj,show j<cur.size by omega]
 ·rw[List.getElem?_take_eq_none (by omega),zb (by simp;omega)]
theorem holds_own{α : Type} [Inhabited α] (enc : α→Value) {w:World} {g:Nat} {cur:Array Value} {e:TypeId} {l:List α} (hb:w.heap[g]?=some (.cells cur e (0,0))) (ht:cur.toList.take l.length=l.map enc):Go.Sort.Holds enc w g 0 l.toArray:=by
 intro j hj
 have hj':j<l.length:=by simpa using hj
 refine⟨?_,by simp[World.frozen?,hb]⟩
 have h1:(cur.toList.take l.length)[j]?=(l.map enc)[j]?:=by rw[ht]
 rw[zo hj']at h1
 simp only[World.cell?,hb,jW]
 simp only[Option.isSome_none,Bool.false_eq_true,if_false]
 rw[←Array.getElem?_toList,h1]
 simp[hj']
theorem OwR.prq{F:Nat→Prop}{w:World}{base n g cap m:Nat}{us:List Value}{rows:List (List Vl)}(h:OwR F w base (.slice (some ⟨g,0,none⟩) n cap) n us rows)(hr:∀x∈rows,x.length=m):∃l:List (PrQ F w g m),l.map PrQ.enc=us∧l.map PrQ.row=rows:=by
 obtain⟨f,hf⟩:∃f:Fin rows.length→PrQ F w g m,∀i,PrQ.enc (f i)=us[i.1]'(by have:=h.len;omega)∧PrQ.row (f i)=rows[i.1]:=⟨fun i=>⟨(us[i.1]'(by have:=h.len;omega),rows[i.1]),h.rd i.1 i.2 (by have:=h.len;omega),hr _ (jg i.2)⟩,fun i=>⟨rfl,rfl⟩⟩
 refine⟨List.ofFn f,?_,?_⟩
 ·apply jY
  ·rw[jm,List.length_ofFn,h.len]
  ·intro i h1 h2
   rw[jy,List.getElem_ofFn,(hf _).1]
 ·apply jY
  ·rw[jm,List.length_ofFn]
  ·intro i h1 h2
   rw[jy,List.getElem_ofFn,(hf _).2]
def AscQ(keys:List (Int×Bool))(l:List (List Vl)):Prop:=l.Pairwise (fun a b=>cmpQ a b keys≤0)
theorem sort_cmpq{F H K:Nat→Prop}{gC gK p c3 c4 m:Nat}{C D:Option Addr}{cols:List Int}{ks:List Ky}{w:World}{base n g cap:Nat}{us:List Value}{rows:List (List Vl)}(h:OwR F w base (.slice (some ⟨g,0,none⟩) n cap) n us rows)(hr:∀x∈rows,x.length=m)(hn:n≤1048576)(hC:Ins H w (.slice C p c3) cols)(hK:Sl rdKy K w (.slice D p c4) ks)(g1:Bk w gC 63 [.slice C p c3])(g2:Bk w gK 26 [.slice D p c4])(hcc:∀x∈cols,0≤x∧x<(m:Int))(hp:p≤1000000)(hgC:gC≠g)(hgK:gK≠g)(hH:∀k,H k→k≠g)(hKK:∀k,K k→k≠g) :
  Calls Tryz.prog 53 #[.slice (some ⟨g,0,none⟩) n cap,.func (.func 126) #[] #[.pointer (some ⟨gC,0,none⟩),.pointer (some ⟨gK,0,none⟩)]] w (fun e w'=>e=.returned (.tuple #[])∧w.grownBy w' (some g)∧∃us' rows',AscQ (cols.zip (ks.map Ky.desc)) rows'∧rows'.Perm rows∧OwR F w' base (.slice (some ⟨g,0,none⟩) n cap) n us' rows'):=by
 obtain⟨l,hl1,hl2⟩:=h.prq hr
 rcases zH n with hn0|hn0
 ·subst hn0
  have hrl:rows=[]:=jS (by have:=h.len;have:=h.num;omega)
  subst hrl
  refine sort_none.mono ?_
  rintro e w' ⟨rfl,rfl⟩
  exact⟨rfl,grown_refl _ _,us,[],List.Pairwise.nil,List.Perm.nil,h⟩
 have hnu:=h.num
 have hll:l.length=n:=by rw[hnu,←hl1,jm]
 letI:Inhabited (PrQ F w g m):=⟨l[0]'(by omega)⟩
 rcases h.own.2 with ⟨h0,-⟩|⟨g',cap',cur,e,hb,hc,h1,h2,h3,h4⟩
 ·cases h0
 injection e with e1 e2 e3
 injection e1 with e1
 injection e1 with e1
 subst e1 e3
 rw[Nat.mul_one]at h4
 have hh:=holds_own (l:=l) PrQ.enc hc (by rw[hll,hl1,←h4])
 have hlt:g<w.heap.size:=(jT.1 hc).1
 have hcon:=Any.slices_SortFunc Tryz.laySortRow PrQ.enc PrQ.one (PrQ.cf (cols.zip (ks.map Ky.desc))) PrQ.swo 126 #[.pointer (some ⟨gC,0,none⟩),.pointer (some ⟨gK,0,none⟩)] g 0 cap l.toArray w (enters_of Tryz.func126 (by kernel_rfl) rfl) (PrQ.lays hC hK g1 g2 hcc hp hgC hgK hH hKK) hh hlt (by simp;omega)
 change Calls Tryz.prog 53 _ _ _ at hcon
 rw[show l.toArray.size=n by simp[hll]]at hcon
 refine hcon.mono ?_
 rintro e w' ⟨rfl,d',m,os,⟨hsz,-,hperm⟩,hsort,rfl⟩
 have hds:d'.size=n:=by rw[hsz];simp[hll]
 have hx1:(d'.extract 0 n).toList=d'.toList:=by rw[←hds];simp
 have hx2:(l.toArray.extract 0 n).toList=l:=by rw[←hll];simp
 rw[hx1,hx2]at hperm
 have hg:w.grownBy (sortWorld PrQ.enc w g 0 m d' os) (some g):=fr_sorted _ _ _ _
 refine⟨rfl,hg,d'.toList.map PrQ.enc,d'.toList.map PrQ.row,?_,?_,own_sorted _ hds hb hc h1 h2 h3,by simp,fun i hi hi'=>?_⟩
 ·unfold AscQ
  rw[zk]
  intro i j hi hj hij
  rw[jm,Array.length_toList]at hi hj
  have h5:=hsort i j (jn _) hij (by omega)
  rw[getElem!_pos d' i (by omega),getElem!_pos d' j (by omega)]at h5
  unfold Go.Proofs.ltOf PrQ.cf at h5
  rw[decide_eq_false_iff_not]at h5
  rw[jy,jy,Array.getElem_toList,Array.getElem_toList]
  have:=(wk_cmpQ (cols.zip (ks.map Ky.desc))).anti (PrQ.row d'[i]) (PrQ.row d'[j])
  have h6:¬cmpQ (PrQ.row d'[j]) (PrQ.row d'[i]) (cols.zip (ks.map Ky.desc))<0:=h5
  omega
 ·rw[←hl2]
  exact hperm.map _
 ·rw[jy,jy]
  exact(d'.toList[i]'(by simpa using hi)).2.1.fr (grown_fr hg) (fun k hk e=>hk.2 e)
end Go.Proofs.YtplldnnnhgnbjaaGreatDoor
namespace Go.Proofs.YtplldnnnhgnbjaaGreatDoor
open Go.RowKit Go.Maps
theorem orderE_iff{hd:List ByteArray}{od:List Ky}:orderE hd od=0↔(∀k∈od,k.var∈hd)∧(od.map Ky.var).Nodup:=by
 have key:∀i (hi:i<od.length),(if (od.map Ky.var).getD i ⟨#[]⟩∈hd then (if (od.map Ky.var).getD i ⟨#[]⟩∈(od.map Ky.var).take i then (8:Int) else 0) else 7)=0↔od[i].var∈hd∧od[i].var ∉ (od.map Ky.var).take i:=fun i hi=>by
  have e:(od.map Ky.var).getD i ⟨#[]⟩=od[i].var:=by rw[jF,jk (by simpa using hi)];simp
  rw[e]
  by_cases h1:od[i].var∈hd
  ·rw[if_pos h1]
   by_cases h2:od[i].var∈(od.map Ky.var).take i
   ·rw[if_pos h2];exact⟨fun h=>(by cases h),fun h=>absurd h2 h.2⟩
   ·rw[if_neg h2];exact⟨fun _=>⟨h1,h2⟩,fun _=>rfl⟩
  ·rw[if_neg h1];exact⟨fun h=>(by cases h),fun h=>absurd h.1 h1⟩
 unfold orderE
 rw[firstI_zero]
 constructor
 ·intro h
  refine⟨fun k hk=>?_,?_⟩
  ·obtain⟨i,hi,rfl⟩:=jv hk
   exact((key i hi).1 (h i hi)).1
  ·refine zk.2 (fun i j hi hj hij e=>?_)
   have hi':i<od.length:=by simpa using hi
   have hj':j<od.length:=by simpa using hj
   refine((key j hj').1 (h j hj')).2 ?_
   rw[zy]
   refine⟨i,by simp;omega,?_⟩
   rw[e];simp
 ·rintro⟨h1,h2⟩ i hi
  refine(key i hi).2 ⟨h1 _ (jg hi),fun h=>?_⟩
  rw[zy]at h
  obtain⟨j,hj,e⟩:=h
  have hji:j<i:=by omega
  have hj2:j<(od.map Ky.var).length:=by simp;omega
  have:=zk.1 h2 j i hj2 (by simpa using hi) hji
  exact this (by rw[e];simp)
theorem headE_nodup{hd:List ByteArray}(h:headE hd=0):hd.Nodup:=by
 unfold headE at h
 split at h
 ·refine zk.2 (fun i j hi hj hij e=>?_)
  have h1:=firstI_zero.1 h j hj
  have e1:hd.getD j ⟨#[]⟩=hd[j]:=by rw[jF,jk hj];rfl
  rw[e1]at h1
  split at h1
  ·split at h1
   ·cases h1
   ·rename_i h3
    refine h3 ?_
    rw[zy]
    exact⟨i,by omega,e⟩
  ·cases h1
 ·cases h
theorem order_vars(hd:List ByteArray)(od:List Ky):(orderL hd od).map Ky.var=od.map Ky.var++hd.filter (fun v=>!decide (v∈od.map Ky.var)):=by
 unfold orderL
 rw[jI,List.map_map]
 have:(Ky.var ∘ fun v=>(⟨v,false⟩:Ky))=id:=rfl
 rw[this,List.map_id]
theorem addR_mem{rows:List (List Vl)}{a x:List Vl}:x∈addR rows a↔x∈rows∨x=a:=by
 unfold addR
 by_cases h:haveR rows (keyS a)=true
 ·rw[if_pos h]
  have h1:=haveR_iff.1 h
  exact⟨.inl,fun h2=>h2.elim id (fun e=>e ▸ h1)⟩
 ·rw[if_neg h,jp,jt]
theorem addR_nodup{rows:List (List Vl)}{a:List Vl}(hn:rows.Nodup):(addR rows a).Nodup:=by
 unfold addR
 by_cases h:haveR rows (keyS a)=true
 ·rw[if_pos h]
  exact hn
 ·rw[if_neg h]
  refine List.nodup_append.2 ⟨hn,by simp,fun x hx y hy e=>?_⟩
  rw[jt]at hy
  subst hy
  subst e
  exact h (haveR_iff.2 hx)
theorem foldR_mem{x:List Vl}:∀{l rows:List (List Vl)},x∈l.foldl addR rows↔x∈rows∨x∈l
 | [],rows=>by simp
 | a::l,rows=>by
  rw[zm,foldR_mem,addR_mem,jC]
  exact⟨fun h=>h.elim (fun h=>h.imp id .inl) (fun h=>.inr (.inr h)),fun h=>h.elim (fun h=>.inl (.inl h)) (fun h=>h.elim (fun h=>.inl (.inr h)) .inr)⟩
theorem foldR_nodup:∀{l rows:List (List Vl)},rows.Nodup→(l.foldl addR rows).Nodup
 | [],_,h=>h
 | a::l,rows,h=>by
  rw[zm]
  exact foldR_nodup (addR_nodup h)
theorem addsR_mem{cols:List Int}{rows0 L:List (List Vl)}{x:List Vl}:x∈addsR cols rows0 L↔x∈rows0∨∃z∈L,x=projR cols z:=by
 unfold addsR
 rw[foldR_mem,jE]
 exact⟨fun h=>h.imp id (fun ⟨z,h1,h2⟩=>⟨z,h1,h2.symm⟩),fun h=>h.imp id (fun ⟨z,h1,h2⟩=>⟨z,h1,h2.symm⟩)⟩
theorem addsR_nodup{cols:List Int}{rows0 L:List (List Vl)}(h:rows0.Nodup):(addsR cols rows0 L).Nodup:=foldR_nodup h
def keysQ(hd:List ByteArray)(od:List Ky):List (Int×Bool):=(colsQ hd od).zip ((orderL hd od).map Ky.desc)
theorem cmpQ_zero{a b:List Vl}:∀{keys:List (Int×Bool)},cmpQ a b keys=0→∀p∈keys,qD a b p.1 p.2=0
 | [],_,p,hp=>by simp at hp
 | k::l,h,p,hp=>by
  unfold cmpQ at h
  by_cases e:qD a b k.1 k.2=0
  ·rw[if_pos e]at h
   rcases jC.1 hp with rfl|hp
   ·exact e
   ·exact cmpQ_zero h p hp
  ·rw[if_neg e]at h
   exact absurd h e
theorem qD_zero{a b:List Vl}{c:Int}{d:Bool}(h:qD a b c d=0):a.getD c.toNat zv=b.getD c.toNat zv:=by
 unfold qD at h
 refine(cmp_vl.eq _ _).1 ?_
 split at h
 ·omega
 ·exact h
theorem order_mem{hd:List ByteArray}{od:List Ky}(ho:orderE hd od=0){s:ByteArray}:s∈(orderL hd od).map Ky.var↔s∈hd:=by
 rw[order_vars,jp,jA]
 constructor
 ·rintro(h|h)
  ·obtain⟨k,hk,rfl⟩:=jE.1 h
   exact(orderE_iff.1 ho).1 k hk
  ·exact h.1
 ·intro h
  by_cases h1:s∈od.map Ky.var
  ·exact .inl h1
  ·exact .inr ⟨h,by simp[h1]⟩
theorem colsQ_len(hd:List ByteArray)(od:List Ky):(colsQ hd od).length=(orderL hd od).length:=by unfold colsQ colsI;rw[jm,jm]
theorem colsQ_in{hd:List ByteArray}{od:List Ky}(hn:hd.Nodup)(ho:orderE hd od=0):∀x∈colsQ hd od,0≤x∧x<(hd.length:Int):=fun x hx=>by
 unfold colsQ colsI at hx
 obtain⟨s,hs,rfl⟩:=jE.1 hx
 have h1:=(order_mem ho).1 hs
 rw[idxI_pos' hn h1]
 have:=pos_lt h1
 omega
theorem keys_eq{hd:List ByteArray}{od:List Ky}(hn:hd.Nodup)(ho:orderE hd od=0){a b:List Vl}(ha:a.length=hd.length)(hb:b.length=hd.length)(h:cmpQ a b (keysQ hd od)=0):a=b:=by
 refine jY (ha.trans hb.symm) (fun i h1 h2=>?_)
 have hi:i<hd.length:=by omega
 have hm:hd[i]∈(orderL hd od).map Ky.var:=(order_mem ho).2 (jg hi)
 obtain⟨j,hj,e⟩:=jv hm
 have hj':j<(orderL hd od).length:=by simpa using hj
 have hk:j<(keysQ hd od).length:=by
  unfold keysQ
  rw[zr,colsQ_len,jm]
  omega
 have h3:=qD_zero (cmpQ_zero h _ (jg hk))
 have h4:((keysQ hd od)[j]).1=(i:Int):=by
  have h7:(keysQ hd od)[j]=((colsQ hd od)[j]'(by rw[colsQ_len];exact hj'),((orderL hd od).map Ky.desc)[j]'(by rw[jm];exact hj')):=zA
  rw[h7]
  have h8:(colsQ hd od)[j]'(by rw[colsQ_len];exact hj')=idxI hd ((orderL hd od).map Ky.var)[j]:=jy _
  show (colsQ hd od)[j]'(by rw[colsQ_len];exact hj')=_
  rw[h8,e,idxI_pos' hn (jg hi)]
  have h5:=pos_at (jg hi)
  have h6:=nd_inj hn (pos_lt (jg hi)) hi h5
  omega
 rw[h4,jO,getD_at h1,getD_at h2]at h3
 exact h3
theorem asc_strict{hd:List ByteArray}{od:List Ky}(hn:hd.Nodup)(ho:orderE hd od=0):∀{l:List (List Vl)},AscQ (keysQ hd od) l→l.Nodup→(∀x∈l,x.length=hd.length)→l.Pairwise (fun a b=>cmpQ a b (keysQ hd od)<0)
 | [],_,_,_=>List.Pairwise.nil
 | a::l,h1,h2,h3=>by
  unfold AscQ at h1
  rw[zJ]at h1 ⊢
  rw[zM]at h2
  refine⟨fun b hb=>?_,asc_strict hn ho h1.2 h2.2 (fun x hx=>h3 x (jr _ hx))⟩
  have h4:=h1.1 b hb
  by_cases e:cmpQ a b (keysQ hd od)=0
  ·have:=keys_eq hn ho (h3 a (by simp)) (h3 b (jr _ hb)) e
   exact absurd (this ▸ hb) h2.1
  ·omega
structure AnsOk(M:Dm)(q:Qy)(R:List (List Vl)):Prop where
 mem:∀x,x∈R↔ansP M q x
 asc:R.Pairwise (fun a b=>cmpQ a b (keysQ q.hd q.od)<0)
end Go.Proofs.YtplldnnnhgnbjaaGreatDoor
namespace Go.Proofs.YtplldnnnhgnbjaaGreatDoor
open Go.RowKit Go.Maps
def findRegion(n:Nat):Code→Option Code
 | .region i ops b=>if i=n then some (.region i ops b) else none
 | .seq a b=>match findRegion n a with
  | some c=>some c
  | none=>findRegion n b
 | .cond _ a b=>match findRegion n a with
  | some c=>some c
  | none=>findRegion n b
 | .block _ c=>findRegion n c
 | .scope c=>findRegion n c
 | .loop c=>findRegion n c
 | _=>none
theorem wp_only{P:Program}{c:Code}{K:Act→World→Prop}{Q:Exit→Act→World→Prop}{a:Act}{w:World}(h:c.wp P (Exit.then K (fun _ _ _=>False)) a w):c.wp P (Exit.then K Q) a w :=
 wp_mono h (fun e _ _ hq=>by cases e <;> first|exact hq|exact False.elim hq)
theorem wp_then{P:Program}{c:Code}{Q:Exit→Act→World→Prop}{a:Act}{w:World}(h:∀K:Act→World→Prop,(∀a' w',K a' w'=Q .normal a' w')→c.wp P (Exit.then K Q) a w):c.wp P Q a w:=by
 refine wp_mono (h (Q .normal) (fun _ _=>rfl)) (fun e _ _ hq=>?_)
 cases e <;> exact hq
section
variable {P:Program} {md:Region.Mode} {ops:Array Oper} {Q:Exit→Act→World→Prop}
theorem inv_any{S:World→Prop}{I:Nat→Array Bool→Act→World→Prop}(hS:∀n l a w,I n l a w→S w)(h0:∀l a w,I 0 l a w→Region.ready md ops l=[]∧Q .normal a w)(h1:∀n l a w,I (n+1) l a w→(Region.ready md ops l=[]→Q .normal a w)∧∀i∈Region.ready md ops l,wpOp P ops Q i (I n (l.setIfInBounds i true)) a w):∀(n:Nat) (l:Array Bool) (a:Act) (w:World),I n l a w→wpAnyH P md ops Q S n l a w
 | 0,l,a,w,h=>h0 l a w h
 | n+1,l,a,w,h=>⟨(h1 n l a w h).1,fun i hi=>wpOp_mono (fun a' w' h'=>⟨hS _ _ _ _ h',inv_any hS h0 h1 n _ a' w' h'⟩) ((h1 n l a w h).2 i hi)⟩
theorem inv_ready{J:Nat→Act→World→Prop}{l:Array Bool}{rs:List Nat}{a:Act}{w:World}(hr:Region.ready md ops l=rs)(hne:rs≠[])(h:∀i∈rs,wpOp P ops Q i (J i) a w):(Region.ready md ops l=[]→Q .normal a w)∧∀i∈Region.ready md ops l,wpOp P ops Q i (J i) a w :=
 ⟨fun e=>absurd (hr.symm.trans e) hne,hr ▸ h⟩
theorem inv_cons{J:Nat→Act→World→Prop}{a:Act}{w:World}{i:Nat}{o:Oper}{rs:List Nat}(ho:ops[i]?=some o)(h:∀K':Act→World→Prop,Shut (∀a w,J i a w→K' a w)→if Region.wanted o (yielded ops a.tmps)=true then Oper.wp P o a w K' Q else K' (a.put o.dst undef) w)(hs:∀j∈rs,wpOp P ops Q j (J j) a w):∀j∈i::rs,wpOp P ops Q j (J j) a w:=fun j hj=>by
 rcases jC.1 hj with rfl|hj
 ·exact wpOp_step ho (fun K' hK=>h K' hK)
 ·exact hs j hj
theorem inv_nil{J:Nat→Act→World→Prop}{a:Act}{w:World}:∀j∈([]:List Nat),wpOp P ops Q j (J j) a w:=fun j hj=>by cases hj
end
noncomputable def cmpRg:Code:=((Tryz.f54.body.bind (findRegion 1)).getD .skip)
structure CmpI(w1:World)(ol:List Ky)(cq:List Int)(p:Nat)(a b:Bool)(t3 t4 t6 t8:Value)(W:World):Prop where
 ext:Ext w1 W
 ky : 1≤p→∃B,w1.heap.size≤B∧W.ownsRow B 208 2 t6 ol.length (kcells ol)
 cl : 2≤p→∃B,w1.heap.size≤B∧W.ownsRow B 3 1 t8 cq.length (cq.map I64)
 bk:a=true→∃g,t3=.pointer (some ⟨g,0,none⟩)∧w1.heap.size≤g∧Bk W g 26 [if 3≤p then t6 else .slice none 0 0]
 bc:b=true→∃g,t4=.pointer (some ⟨g,0,none⟩)∧w1.heap.size≤g∧Bk W g 63 [if 4≤p then t8 else .slice none 0 0]
section
variable {w1 W W':World} {ol:List Ky} {cq:List Int} {p:Nat} {a b:Bool} {t3 t4 t6 t8 v:Value} {o:Obj}
theorem CmpI.more(h:CmpI w1 ol cq p a b t3 t4 t6 t8 W)(he:Ext W W'):CmpI w1 ol cq p a b t3 t4 t6 t8 W' :=
 ⟨h.ext.trans he,fun k=>let ⟨B,h1,h2⟩:=h.ky k;⟨B,h1,own_ext' h2 he⟩,fun k=>let ⟨B,h1,h2⟩:=h.cl k;⟨B,h1,own_ext' h2 he⟩,fun k=>let ⟨g,h1,h2,h3⟩:=h.bk k;⟨g,h1,h2,h3.ext he⟩,fun k=>let ⟨g,h1,h2,h3⟩:=h.bc k;⟨g,h1,h2,h3.ext he⟩⟩
theorem CmpI.boxK(h:CmpI w1 ol cq p false b t3 t4 t6 t8 W)(hp:p≤2):CmpI w1 ol cq p true b (.pointer (some ⟨W.heap.size,0,none⟩)) t4 t6 t8 (W.alloc (.cells #[.slice none 0 0] 26)):=by
 have h2:=h.more ((Ext.refl W).alloc (.cells #[.slice none 0 0] 26))
 exact⟨h2.ext,h2.ky,h2.cl,fun _=>⟨_,rfl,h.ext.size,by rw[if_neg (by omega)];exact Bk.new W _ _⟩,h2.bc⟩
theorem CmpI.boxC(h:CmpI w1 ol cq p a false t3 t4 t6 t8 W)(hp:p≤2):CmpI w1 ol cq p a true t3 (.pointer (some ⟨W.heap.size,0,none⟩)) t6 t8 (W.alloc (.cells #[.slice none 0 0] 63)):=by
 have h2:=h.more ((Ext.refl W).alloc (.cells #[.slice none 0 0] 63))
 exact⟨h2.ext,h2.ky,h2.cl,h2.bk,fun _=>⟨_,rfl,h.ext.size,by rw[if_neg (by omega)];exact Bk.new W _ _⟩⟩
theorem CmpI.call1(h:CmpI w1 ol cq 0 a b t3 t4 t6 t8 W)(he:Ext W W')(hv:W'.ownsRow W.heap.size 208 2 v ol.length (kcells ol)):CmpI w1 ol cq 1 a b t3 t4 v t8 W':=by
 have h2:=h.more he
 exact⟨h2.ext,fun _=>⟨_,h.ext.size,hv⟩,fun k=>by omega,fun k=>h2.bk k,fun k=>h2.bc k⟩
theorem CmpI.call2{B:Nat}(h:CmpI w1 ol cq 1 a b t3 t4 t6 t8 W)(he:Ext W W')(hB:W.heap.size≤B)(hv:W'.ownsRow B 3 1 v cq.length (cq.map I64)):CmpI w1 ol cq 2 a b t3 t4 t6 v W':=by
 have h2:=h.more he
 exact⟨h2.ext,fun _=>h2.ky (by omega),fun _=>⟨_,js h.ext.size hB,hv⟩,fun k=>h2.bk k,fun k=>h2.bc k⟩
theorem CmpI.store1{g:Nat}(h:CmpI w1 ol cq 2 true true (.pointer (some ⟨g,0,none⟩)) t4 t6 t8 W):CmpI w1 ol cq 3 true true (.pointer (some ⟨g,0,none⟩)) t4 t6 t8 (W.setCell ⟨g,0,none⟩ t6):=by
 have hf:Fr (fun k=>k=g) W (W.setCell ⟨g,0,none⟩ t6):=(Fr.refl (fun k=>k=g) W).setCell (p:=⟨g,0,none⟩) (.inl rfl) t6
 obtain⟨g',e,hg,hb⟩:=h.bk rfl
 injection e with e
 injection e with e
 injection e with e
 subst e
 obtain⟨gc,ec,hgc,hbc⟩:=h.bc rfl
 obtain⟨B1,k1,k2⟩:=h.ky (by omega)
 obtain⟨B2,k3,k4⟩:=h.cl (by omega)
 refine⟨hf.new h.ext (fun q hq=>by omega),fun _=>⟨B1,k1,own_fr k2 hf (fun k hk=>own_bk k2 hb (by decide) hk)⟩,fun _=>⟨B2,k3,own_fr k4 hf (fun k hk=>own_bk k4 hb (by decide) hk)⟩,fun _=>⟨g,rfl,hg,?_⟩,fun _=>⟨gc,ec,hgc,hbc.fr hf (hbc.ne hb (by decide))⟩⟩
 rw[if_pos (by omega)]
 exact hb.set 0 t6
theorem CmpI.store2{g:Nat}(h:CmpI w1 ol cq 3 true true t3 (.pointer (some ⟨g,0,none⟩)) t6 t8 W):CmpI w1 ol cq 4 true true t3 (.pointer (some ⟨g,0,none⟩)) t6 t8 (W.setCell ⟨g,0,none⟩ t8):=by
 have hf:Fr (fun k=>k=g) W (W.setCell ⟨g,0,none⟩ t8):=(Fr.refl (fun k=>k=g) W).setCell (p:=⟨g,0,none⟩) (.inl rfl) t8
 obtain⟨g',e,hg,hb⟩:=h.bc rfl
 injection e with e
 injection e with e
 injection e with e
 subst e
 obtain⟨gc,ec,hgc,hbc⟩:=h.bk rfl
 obtain⟨B1,k1,k2⟩:=h.ky (by omega)
 obtain⟨B2,k3,k4⟩:=h.cl (by omega)
 refine⟨hf.new h.ext (fun q hq=>by omega),fun _=>⟨B1,k1,own_fr k2 hf (fun k hk=>own_bk k2 hb (by decide) hk)⟩,fun _=>⟨B2,k3,own_fr k4 hf (fun k hk=>own_bk k4 hb (by decide) hk)⟩,fun _=>⟨gc,ec,hgc,?_⟩,fun _=>⟨g,rfl,hg,?_⟩⟩
 ·rw[if_pos (by omega)]at hbc ⊢
  exact hbc.fr hf (hbc.ne hb (by decide))
 ·rw[if_pos (by omega)]
  exact hb.set 0 t8
end
def lC(p:Nat)(a b:Bool):Array Bool:=#[true,decide (1≤p),true,decide (2≤p),a,b,decide (3≤p),decide (4≤p)]
def CmpJ(w1:World)(ol:List Ky)(cq:List Int)(F:Value→Value→Value→Value→Act)(n:Nat)(l:Array Bool)(act:Act)(W:World):Prop :=
 ∃p a b t3 t4 t6 t8,n+p+a.toNat+b.toNat=6∧p≤4∧(3≤p→a=true∧b=true)∧l=lC p a b∧act=F t3 t4 t6 t8∧CmpI w1 ol cq p a b t3 t4 t6 t8 W
set_option maxRecDepth 20000 in
set_option maxHeartbeats 3200000 in
theorem cmp_reg{K:Act→World→Prop}{Q:Exit→Act→World→Prop}{w1:World}{g0:Nat}{c0 c1 c2 c3 c4 u0 u2 u3 u4 u5 u6 u7 u8 u9:Value}{ol:List Ky}{cq:List Int}(b0:w1.cell? ⟨g0,0,none⟩=some c0)(b1:w1.cell? ⟨g0,1,none⟩=some c1)(b2:w1.cell? ⟨g0,2,none⟩=some c2)(b3:w1.cell? ⟨g0,3,none⟩=some c3)(b4:w1.cell? ⟨g0,4,none⟩=some c4)(HOR:Hid (∀V,Ext w1 V→Calls Tryz.prog 124 #[.agg #[c0,c1,c2,c3,c4]] V (Ret (fun x w'=>w'.ownsRow V.heap.size 208 2 x ol.length (kcells ol)) V)))(HCO:Hid (∀V,Ext w1 V→Calls Tryz.prog 125 #[.agg #[c0,c1,c2,c3,c4]] V (Ret (fun x w'=>∃b,V.heap.size≤b∧w'.ownsRow b 3 1 x cq.length (cq.map I64)) V)))(hK:∀t3 t4 t6 t8 W,CmpI w1 ol cq 4 true true t3 t4 t6 t8 W→K ⟨#[u0,.pointer (some ⟨g0,0,none⟩),u2,t3,t4,.agg #[c0,c1,c2,c3,c4],t6,.agg #[c0,c1,c2,c3,c4],t8,u9],[]⟩ W) :
  Code.wp Tryz.prog cmpRg (Exit.then K Q) ⟨#[u0,.pointer (some ⟨g0,0,none⟩),u2,u3,u4,u5,u6,u7,u8,u9],[]⟩ w1:=by
 have HK:=zO hK
 clear hK
 conv=>arg 2;whnf
 refine wp_only ?_
 refine wp_region_held_drew (S:=fun V=>Ext w1 V) (by kernel_rfl) (Ext.refl w1).drew (fun hHeld=>?_)
 refine wpAnyH_take (i:=0) (oi:=?ox1) (v:=.agg #[c0,c1,c2,c3,c4]) ?hx1 (by kernel_rfl) (by kernel_rfl) (by kernel_rfl) (fun _ _ _ h=>h) (Or.inl ⟨?wx1,?yx1⟩) hHeld ?rx1
 case hx1=>simp only[jd,jb,jc];rfl
 case wx1=>rfl
 case yx1 =>
  intro V hSw
  have q0:=Ext.cell hSw b0;have q1:=Ext.cell hSw b1;have q2:=Ext.cell hSw b2;have q3:=Ext.cell hSw b3;have q4:=Ext.cell hSw b4
  simp[go_sem,q0,q1,q2,q3,q4] <;> with_reducible rfl
 (try simp only[Act.put,jf,jh,ji])
 refine wpAnyH_take (i:=2) (oi:=?ox2) (v:=.agg #[c0,c1,c2,c3,c4]) ?hx2 (by kernel_rfl) (by kernel_rfl) (by kernel_rfl) (fun _ _ _ h=>h) (Or.inl ⟨?wx2,?yx2⟩) hHeld ?rx2
 case hx2=>simp only[jd,jb,jc];rfl
 case wx2=>rfl
 case yx2 =>
  intro V hSw
  have q0:=Ext.cell hSw b0;have q1:=Ext.cell hSw b1;have q2:=Ext.cell hSw b2;have q3:=Ext.cell hSw b3;have q4:=Ext.cell hSw b4
  simp[go_sem,q0,q1,q2,q3,q4] <;> with_reducible rfl
 (try simp only[Act.put,jf,jh,ji])
 clear b0 b1 b2 b3 b4
 refine inv_any (I:=CmpJ w1 ol cq (fun t3 t4 t6 t8=>⟨#[u0,.pointer (some ⟨g0,0,none⟩),u2,t3,t4,.agg #[c0,c1,c2,c3,c4],t6,.agg #[c0,c1,c2,c3,c4],t8,u9],[]⟩)) ?hS ?h0 ?h1 _ _ _ _ ?st
 case hS =>
  rintro n l a w ⟨p,a,b,t3,t4,t6,t8,-,-,-,-,-,h⟩
  exact h.ext
 case st=>exact⟨0,false,false,u3,u4,u6,u8,rfl,by omega,fun h=>by omega,rfl,rfl,⟨(Ext.refl w1).drew,fun h=>by omega,fun h=>by omega,(fun h=>by cases h),(fun h=>by cases h)⟩⟩
 case h0 =>
  rintro l act W ⟨p,a,b,t3,t4,t6,t8,hn,hp,hab,rfl,rfl,h⟩
  obtain⟨rfl,rfl,rfl⟩:p=4∧a=true∧b=true:=by
   cases a <;> cases b <;> simp at hn hab ⊢ <;> omega
  refine⟨by kernel_rfl,?_⟩
  exact HK.out _ _ _ _ _ h
 case h1 =>
  rintro n l act W ⟨p,a,b,t3,t4,t6,t8,hn,hp,hab,rfl,rfl,h⟩
  obtain rfl|rfl|rfl|rfl|rfl:p=0∨p=1∨p=2∨p=3∨p=4:=by omega
  ·rcases a with _|_ <;> rcases b with _|_
   ·refine inv_ready (rs:=[1,4,5]) (by kernel_rfl) (by simp) ?_
    refine inv_cons (o:=?ow2) ?ho2 (fun K hK=>?hst2) ?hmore2
    case ho2=>simp only[jd,jb,jc];rfl
    case hst2 =>
     go_simp
     go_at_call 124
     (with_reducible refine(HOR.out _ h.ext).mono ?_)
     rintro e W2 ⟨v,rfl,he,hv⟩
     (try simp only[Act.put,jf,jh,ji])
     exact hK.out _ _ ⟨1,false,false,t3,t4,v,t8,by simp at hn ⊢;omega,by omega,fun h=>by omega,rfl,rfl,h.call1 he hv⟩
    refine inv_cons (o:=?ow11) ?ho11 (fun K hK=>?hst11) ?hmore11
    case ho11=>simp only[jd,jb,jc];rfl
    case hst11 =>
     go_simp
     exact hK.out _ _ ⟨0,true,false,_,t4,t6,t8,by simp at hn ⊢;omega,by omega,fun h=>by omega,rfl,rfl,h.boxK (by omega)⟩
    refine inv_cons (o:=?ow16) ?ho16 (fun K hK=>?hst16) ?hmore16
    case ho16=>simp only[jd,jb,jc];rfl
    case hst16 =>
     go_simp
     exact hK.out _ _ ⟨0,false,true,t3,_,t6,t8,by simp at hn ⊢;omega,by omega,fun h=>by omega,rfl,rfl,h.boxC (by omega)⟩
    exact inv_nil
   ·refine inv_ready (rs:=[1,4]) (by kernel_rfl) (by simp) ?_
    refine inv_cons (o:=?ow23) ?ho23 (fun K hK=>?hst23) ?hmore23
    case ho23=>simp only[jd,jb,jc];rfl
    case hst23 =>
     go_simp
     go_at_call 124
     (with_reducible refine(HOR.out _ h.ext).mono ?_)
     rintro e W2 ⟨v,rfl,he,hv⟩
     (try simp only[Act.put,jf,jh,ji])
     exact hK.out _ _ ⟨1,false,true,t3,t4,v,t8,by simp at hn ⊢;omega,by omega,fun h=>by omega,rfl,rfl,h.call1 he hv⟩
    refine inv_cons (o:=?ow32) ?ho32 (fun K hK=>?hst32) ?hmore32
    case ho32=>simp only[jd,jb,jc];rfl
    case hst32 =>
     go_simp
     exact hK.out _ _ ⟨0,true,true,_,t4,t6,t8,by simp at hn ⊢;omega,by omega,fun h=>by omega,rfl,rfl,h.boxK (by omega)⟩
    exact inv_nil
   ·refine inv_ready (rs:=[1,5]) (by kernel_rfl) (by simp) ?_
    refine inv_cons (o:=?ow39) ?ho39 (fun K hK=>?hst39) ?hmore39
    case ho39=>simp only[jd,jb,jc];rfl
    case hst39 =>
     go_simp
     go_at_call 124
     (with_reducible refine(HOR.out _ h.ext).mono ?_)
     rintro e W2 ⟨v,rfl,he,hv⟩
     (try simp only[Act.put,jf,jh,ji])
     exact hK.out _ _ ⟨1,true,false,t3,t4,v,t8,by simp at hn ⊢;omega,by omega,fun h=>by omega,rfl,rfl,h.call1 he hv⟩
    refine inv_cons (o:=?ow48) ?ho48 (fun K hK=>?hst48) ?hmore48
    case ho48=>simp only[jd,jb,jc];rfl
    case hst48 =>
     go_simp
     exact hK.out _ _ ⟨0,true,true,t3,_,t6,t8,by simp at hn ⊢;omega,by omega,fun h=>by omega,rfl,rfl,h.boxC (by omega)⟩
    exact inv_nil
   ·refine inv_ready (rs:=[1]) (by kernel_rfl) (by simp) ?_
    refine inv_cons (o:=?ow55) ?ho55 (fun K hK=>?hst55) ?hmore55
    case ho55=>simp only[jd,jb,jc];rfl
    case hst55 =>
     go_simp
     go_at_call 124
     (with_reducible refine(HOR.out _ h.ext).mono ?_)
     rintro e W2 ⟨v,rfl,he,hv⟩
     (try simp only[Act.put,jf,jh,ji])
     exact hK.out _ _ ⟨1,true,true,t3,t4,v,t8,by simp at hn ⊢;omega,by omega,fun h=>by omega,rfl,rfl,h.call1 he hv⟩
    exact inv_nil
  ·rcases a with _|_ <;> rcases b with _|_
   ·refine inv_ready (rs:=[3,4,5]) (by kernel_rfl) (by simp) ?_
    refine inv_cons (o:=?ow67) ?ho67 (fun K hK=>?hst67) ?hmore67
    case ho67=>simp only[jd,jb,jc];rfl
    case hst67 =>
     go_simp
     go_at_call 125
     (with_reducible refine(HCO.out _ h.ext).mono ?_)
     rintro e W2 ⟨v,rfl,he,B,hB,hv⟩
     (try simp only[Act.put,jf,jh,ji])
     exact hK.out _ _ ⟨2,false,false,t3,t4,t6,v,by simp at hn ⊢;omega,by omega,fun h=>by omega,rfl,rfl,h.call2 he hB hv⟩
    refine inv_cons (o:=?ow76) ?ho76 (fun K hK=>?hst76) ?hmore76
    case ho76=>simp only[jd,jb,jc];rfl
    case hst76 =>
     go_simp
     exact hK.out _ _ ⟨1,true,false,_,t4,t6,t8,by simp at hn ⊢;omega,by omega,fun h=>by omega,rfl,rfl,h.boxK (by omega)⟩
    refine inv_cons (o:=?ow81) ?ho81 (fun K hK=>?hst81) ?hmore81
    case ho81=>simp only[jd,jb,jc];rfl
    case hst81 =>
     go_simp
     exact hK.out _ _ ⟨1,false,true,t3,_,t6,t8,by simp at hn ⊢;omega,by omega,fun h=>by omega,rfl,rfl,h.boxC (by omega)⟩
    exact inv_nil
   ·refine inv_ready (rs:=[3,4]) (by kernel_rfl) (by simp) ?_
    refine inv_cons (o:=?ow88) ?ho88 (fun K hK=>?hst88) ?hmore88
    case ho88=>simp only[jd,jb,jc];rfl
    case hst88 =>
     go_simp
     go_at_call 125
     (with_reducible refine(HCO.out _ h.ext).mono ?_)
     rintro e W2 ⟨v,rfl,he,B,hB,hv⟩
     (try simp only[Act.put,jf,jh,ji])
     exact hK.out _ _ ⟨2,false,true,t3,t4,t6,v,by simp at hn ⊢;omega,by omega,fun h=>by omega,rfl,rfl,h.call2 he hB hv⟩
    refine inv_cons (o:=?ow97) ?ho97 (fun K hK=>?hst97) ?hmore97
    case ho97=>simp only[jd,jb,jc];rfl
    case hst97 =>
     go_simp
     exact hK.out _ _ ⟨1,true,true,_,t4,t6,t8,by simp at hn ⊢;omega,by omega,fun h=>by omega,rfl,rfl,h.boxK (by omega)⟩
    exact inv_nil
   ·refine inv_ready (rs:=[3,5]) (by kernel_rfl) (by simp) ?_
    refine inv_cons (o:=?ow104) ?ho104 (fun K hK=>?hst104) ?hmore104
    case ho104=>simp only[jd,jb,jc];rfl
    case hst104 =>
     go_simp
     go_at_call 125
     (with_reducible refine(HCO.out _ h.ext).mono ?_)
     rintro e W2 ⟨v,rfl,he,B,hB,hv⟩
     (try simp only[Act.put,jf,jh,ji])
     exact hK.out _ _ ⟨2,true,false,t3,t4,t6,v,by simp at hn ⊢;omega,by omega,fun h=>by omega,rfl,rfl,h.call2 he hB hv⟩
    refine inv_cons (o:=?ow113) ?ho113 (fun K hK=>?hst113) ?hmore113
    case ho113=>simp only[jd,jb,jc];rfl
    case hst113 =>
     go_simp
     exact hK.out _ _ ⟨1,true,true,t3,_,t6,t8,by simp at hn ⊢;omega,by omega,fun h=>by omega,rfl,rfl,h.boxC (by omega)⟩
    exact inv_nil
   ·refine inv_ready (rs:=[3]) (by kernel_rfl) (by simp) ?_
    refine inv_cons (o:=?ow120) ?ho120 (fun K hK=>?hst120) ?hmore120
    case ho120=>simp only[jd,jb,jc];rfl
    case hst120 =>
     go_simp
     go_at_call 125
     (with_reducible refine(HCO.out _ h.ext).mono ?_)
     rintro e W2 ⟨v,rfl,he,B,hB,hv⟩
     (try simp only[Act.put,jf,jh,ji])
     exact hK.out _ _ ⟨2,true,true,t3,t4,t6,v,by simp at hn ⊢;omega,by omega,fun h=>by omega,rfl,rfl,h.call2 he hB hv⟩
    exact inv_nil
  ·rcases a with _|_ <;> rcases b with _|_
   ·refine inv_ready (rs:=[4,5]) (by kernel_rfl) (by simp) ?_
    refine inv_cons (o:=?ow132) ?ho132 (fun K hK=>?hst132) ?hmore132
    case ho132=>simp only[jd,jb,jc];rfl
    case hst132 =>
     go_simp
     exact hK.out _ _ ⟨2,true,false,_,t4,t6,t8,by simp at hn ⊢;omega,by omega,fun h=>by omega,rfl,rfl,h.boxK (by omega)⟩
    refine inv_cons (o:=?ow137) ?ho137 (fun K hK=>?hst137) ?hmore137
    case ho137=>simp only[jd,jb,jc];rfl
    case hst137 =>
     go_simp
     exact hK.out _ _ ⟨2,false,true,t3,_,t6,t8,by simp at hn ⊢;omega,by omega,fun h=>by omega,rfl,rfl,h.boxC (by omega)⟩
    exact inv_nil
   ·refine inv_ready (rs:=[4]) (by kernel_rfl) (by simp) ?_
    refine inv_cons (o:=?ow144) ?ho144 (fun K hK=>?hst144) ?hmore144
    case ho144=>simp only[jd,jb,jc];rfl
    case hst144 =>
     go_simp
     exact hK.out _ _ ⟨2,true,true,_,t4,t6,t8,by simp at hn ⊢;omega,by omega,fun h=>by omega,rfl,rfl,h.boxK (by omega)⟩
    exact inv_nil
   ·refine inv_ready (rs:=[5]) (by kernel_rfl) (by simp) ?_
    refine inv_cons (o:=?ow151) ?ho151 (fun K hK=>?hst151) ?hmore151
    case ho151=>simp only[jd,jb,jc];rfl
    case hst151 =>
     go_simp
     exact hK.out _ _ ⟨2,true,true,t3,_,t6,t8,by simp at hn ⊢;omega,by omega,fun h=>by omega,rfl,rfl,h.boxC (by omega)⟩
    exact inv_nil
   ·refine inv_ready (rs:=[6]) (by kernel_rfl) (by simp) ?_
    refine inv_cons (o:=?ow158) ?ho158 (fun K hK=>?hst158) ?hmore158
    case ho158=>simp only[jd,jb,jc];rfl
    case hst158 =>
     obtain⟨B6,-,kO⟩:=h.ky (by omega)
     obtain⟨A6,c6,rfl⟩:=own_slice kO
     clear kO
     obtain⟨g,rfl,hg,hb⟩:=h.bk rfl
     have k0:=hb.cell (i:=0) (by simp);have k1:=hb.free 0
     simp only[ja]at k0
     clear hb
     go_simp
     exact hK.out _ _ ⟨3,true,true,_,t4,_,t8,by simp at hn ⊢;omega,by omega,fun _=>⟨rfl,rfl⟩,rfl,rfl,h.store1⟩
    exact inv_nil
  ·rcases a with _|_ <;> rcases b with _|_
   ·exact absurd (hab (by omega)) (by simp)
   ·exact absurd (hab (by omega)) (by simp)
   ·exact absurd (hab (by omega)) (by simp)
   ·refine inv_ready (rs:=[7]) (by kernel_rfl) (by simp) ?_
    refine inv_cons (o:=?ow176) ?ho176 (fun K hK=>?hst176) ?hmore176
    case ho176=>simp only[jd,jb,jc];rfl
    case hst176 =>
     obtain⟨B6,-,kO⟩:=h.cl (by omega)
     obtain⟨A6,c6,rfl⟩:=own_slice kO
     clear kO
     obtain⟨g,rfl,hg,hb⟩:=h.bc rfl
     have k0:=hb.cell (i:=0) (by simp);have k1:=hb.free 0
     simp only[ja]at k0
     clear hb
     go_simp
     exact hK.out _ _ ⟨4,true,true,t3,_,t6,_,by simp at hn ⊢;omega,by omega,fun _=>⟨rfl,rfl⟩,rfl,rfl,h.store2⟩
    exact inv_nil
  ·rcases a with _|_ <;> rcases b with _|_
   ·exact absurd (hab (by omega)) (by simp)
   ·exact absurd (hab (by omega)) (by simp)
   ·exact absurd (hab (by omega)) (by simp)
   ·exact absurd hn (by simp)
def CmpPost(hd:List ByteArray)(od:List Ky)(w:World)(e:Ending)(w':World):Prop :=
 Ext w w'∧∃gC gK C D c3 c4,e=.returned (.func (.func 126) #[] #[.pointer (some ⟨gC,0,none⟩),.pointer (some ⟨gK,0,none⟩)])∧w.heap.size≤gC∧w.heap.size≤gK∧Bk w' gC 63 [.slice C (orderL hd od).length c3]∧Bk w' gK 26 [.slice D (orderL hd od).length c4]∧Ins (fun k=>w.heap.size≤k) w' (.slice C (orderL hd od).length c3) (colsQ hd od)∧Sl rdKy (fun k=>w.heap.size≤k) w' (.slice D (orderL hd od).length c4) (orderL hd od)
theorem CmpI.post{w w1 W:World}{hd:List ByteArray}{od:List Ky}{t3 t4 t6 t8:Value}(hx:Ext w w1)(h:CmpI w1 (orderL hd od) (colsQ hd od) 4 true true t3 t4 t6 t8 W):CmpPost hd od w (.returned (.func (.func 126) #[] #[t4,t3])) W:=by
 have hcl:(colsQ hd od).length=(orderL hd od).length:=by unfold colsQ colsI;rw[jm,jm]
 obtain⟨gK,rfl,k1,k2⟩:=h.bk rfl
 obtain⟨gC,rfl,k3,k4⟩:=h.bc rfl
 obtain⟨B6,k5,k6⟩:=h.ky (by omega)
 obtain⟨B8,k7,k8⟩:=h.cl (by omega)
 obtain⟨D,c4,rfl⟩:=own_slice k6
 obtain⟨C,c3,rfl⟩:=own_slice k8
 rw[if_pos (by omega)]at k2 k4
 have hs:=hx.size
 refine⟨hx.trans h.ext,gC,gK,C,D,c3,c4,rfl,by omega,by omega,?_,k2,?_,?_⟩
 ·rw[hcl]at k4
  exact k4
 ·have h9:=(Ins.of_own k8).mono (G:=fun k=>w.heap.size≤k) (fun k _ hk=>by have:=hk.2;omega)
  rw[hcl]at h9
  exact h9
 ·exact(ky_of k6 rfl).mono (by decide) (fun k _ hk=>by omega)
set_option maxRecDepth 20000 in
set_option maxHeartbeats 1600000 in
theorem comparison_any{F:Nat→Prop}{w:World}{A B O:Option Addr}{ca cb co nb:Nat}{ag:Int}{av:ByteArray}{hd:List ByteArray}{od:List Ky}(hH:Strs F w (.slice A hd.length ca) hd)(hO:Sl rdKy F w (.slice O od.length co) od)(hhz:∀s∈hd,s.size≤maxLen)(hoz:∀k∈od,k.var.size≤maxLen)(hlh:hd.length≤100000)(hlo:od.length≤100000) :
  Calls Tryz.prog 54 #[.agg #[.slice A hd.length ca,.int .i64 ag,.string av,.slice B nb cb,.slice O od.length co]] w (CmpPost hd od w):=by
 have hx:Ext w (w.alloc (.cells #[.slice A hd.length ca,.int .i64 ag,.string av,.slice B nb cb,.slice O od.length co] 28)):=(Ext.refl w).alloc _
 have kb:=Bk.new w 28 [.slice A hd.length ca,.int .i64 ag,.string av,.slice B nb cb,.slice O od.length co]
 change Bk (w.alloc (.cells #[.slice A hd.length ca,.int .i64 ag,.string av,.slice B nb cb,.slice O od.length co] 28)) _ _ _ at kb
 have b0:=kb.cell (i:=0) (by simp);have b1:=kb.cell (i:=1) (by simp);have b2:=kb.cell (i:=2) (by simp);have b3:=kb.cell (i:=3) (by simp);have b4:=kb.cell (i:=4) (by simp)
 simp only[ja,je]at b0 b1 b2 b3 b4
 have HOR:=zO (fun (V:World) (hV:Ext (w.alloc (.cells #[.slice A hd.length ca,.int .i64 ag,.string av,.slice B nb cb,.slice O od.length co] 28)) V)=>order_any (ca:=ca) (cb:=cb) (co:=co) (nb:=nb) (ag:=ag) (av:=av) (B:=B) (hH.ext (hx.trans hV)) (hO.ext (hx.trans hV)) hhz hoz (by omega) (by omega))
 have HCO:=zO (fun (V:World) (hV:Ext (w.alloc (.cells #[.slice A hd.length ca,.int .i64 ag,.string av,.slice B nb cb,.slice O od.length co] 28)) V)=>colsq_any (ca:=ca) (cb:=cb) (co:=co) (nb:=nb) (ag:=ag) (av:=av) (B:=B) (hH.ext (hx.trans hV)) (hO.ext (hx.trans hV)) hhz hoz hlh hlo)
 have HX:=zO hx
 obtain⟨PP,hPP⟩:∃PP,PP=CmpPost hd od w:=⟨_,rfl⟩
 have HPP:=zO hPP
 rw[←hPP]
 clear hH hO hhz hoz hlh hlo kb hx hPP
 go_enter Tryz.func54,Tryz.ntmps54
 go_upto_region 1 with fail
 refine wp_then ?_
 intro KK hKK
 refine cmp_reg b0 b1 b2 b3 b4 HOR HCO ?_
 intro t3 t4 t6 t8 W hC
 have HQ:Hid (PP (.returned (.func (.func 126) #[] #[t4,t3])) W):=zO (by rw[HPP.out];exact hC.post HX.out)
 clear hC b0 b1 b2 b3 b4
 rw[hKK]
 clear hKK
 go_wp2_with fail
 exact HQ.out
end Go.Proofs.YtplldnnnhgnbjaaGreatDoor
