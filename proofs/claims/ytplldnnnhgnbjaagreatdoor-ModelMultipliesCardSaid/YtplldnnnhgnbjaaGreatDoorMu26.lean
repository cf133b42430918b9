/- packed -/
import Derived.Test.YtplldnnnhgnbjaaGreatDoorMu25
namespace Go.Proofs.YtplldnnnhgnbjaaGreatDoor
open Go.RowKit Go.Maps
theorem info_cds:(Tryz.prog.info? 44).map (fun i=>(i.zero,i.size,i.bytes))=some (some (.slice none 0 0),1,24):=by kernel_rfl
theorem info_cond:(Tryz.prog.info? 53).map (fun i=>(i.zero,i.size,i.bytes))=some (some (.agg #[.string ⟨#[]⟩,.int .i64 0,.int .i64 0,.int .i64 0,.string ⟨#[]⟩]),5,56):=by kernel_rfl
theorem info_step:(Tryz.prog.info? 229).map (fun i=>(i.zero,i.size,i.bytes))=some (some (.agg #[.map none,nilS,nilS,nilS,nilS]),5,104):=by kernel_rfl
theorem info_neg:(Tryz.prog.info? 220).map (fun i=>(i.zero,i.size,i.bytes))=some (some (.agg #[.int .i64 0,nilS,nilS,nilS]),4,80):=by kernel_rfl
theorem Cl.of_bk{F:Nat→Prop}{w:World}{g:Nat}{t:TypeId}{xs:List Value}(h:Bk w g t xs)(hF:F g):Cl F w (some ⟨g,0,none⟩) xs:=.inr ⟨_,rfl,hF,fun j hj=>by rw[add_zero'];exact h.cell hj⟩
theorem ins_bk{w:World}{g n:Nat}{t:TypeId}{l:List Int}(h:Bk w g t (l.map I64))(hn:n=l.length):Ins (fun q=>q=g) w (.slice (some ⟨g,0,none⟩) n n) l:=⟨_,n,by rw[hn],by omega,Cl.of_bk h rfl⟩
structure CoB(w:World)(base gC nv:Nat)(cds:List Cd)(vars:List ByteArray)(val:Nat→Value)(us:Nat→List (List Value)):Prop where
 box:Bk w gC 44 ((List.range nv).map val)
 fam:Fam rdCd w base 53 (fun _=>False) val us (cdsAt vars cds)
theorem CoB.sl{w:World}{base gC nv:Nat}{cds:List Cd}{vars:List ByteArray}{val:Nat→Value}{us:Nat→List (List Value)}(h:CoB w base gC nv cds vars val us)(hg:gC≤base):Sl rdCds (fun q=>gC≤q) w (.slice (some ⟨gC,0,none⟩) nv nv) ((List.range nv).map (cdsAt vars cds)):=by
 refine⟨_,nv,by rw[jm,List.length_range],by simp,fun i hi=>?_⟩
 have hin:i<nv:=by simpa using hi
 refine⟨_,[val i],rfl,jq _,⟨_,rfl,?_⟩,fun j hj=>?_⟩
 ·rw[jy,zK]
  exact h.fam.sl (K:=fun q=>gC≤q) (by decide) i (fun q hq=>hq.elim) (fun q hq=>js hg hq)
 ·obtain rfl:j=0:=by simpa using hj
  rw[add_zero']
  have:=h.box.cell (i:=i) (by simpa using hin)
  simpa [rdCds] using this
theorem CoB.fr{S:Nat→Prop}{w w':World}{base gC nv:Nat}{cds:List Cd}{vars:List ByteArray}{val:Nat→Value}{us:Nat→List (List Value)}(h:CoB w base gC nv cds vars val us)(hf:Fr S w w')(hg:¬S gC)(hs:∀q,base≤q→¬S q):CoB w' base gC nv cds vars val us:=⟨h.box.fr hf hg,h.fam.fr hf (fun o q hq=>hs q (own_ge (h.fam.own o) hq)) (fun _ h=>h.elim)⟩
theorem CoB.ext{w w':World}{base gC nv:Nat}{cds:List Cd}{vars:List ByteArray}{val:Nat→Value}{us:Nat→List (List Value)}(h:CoB w base gC nv cds vars val us)(he:Ext w w'):CoB w' base gC nv cds vars val us:=h.fr (he.fr (fun _=>False)) (fun h=>h) (fun _ _ h=>h)
theorem cdsAt_snoc{vars:List ByteArray}{cds:List Cd}{c:Cd}{u:Nat}(h:numN vars c.var=(u:Int)):cdsAt vars (cds++[c])=updI (cdsAt vars cds) u (cdsAt vars cds u++[c]):=by
 funext v
 unfold updI cdsAt
 rw[jK]
 by_cases hv:v=u
 ·subst hv
  rw[if_pos rfl]
  simp[h]
 ·rw[if_neg hv]
  have:¬numN vars c.var=(v:Int):=fun e=>hv (by omega)
  simp[this]
theorem cdsAt_skip{vars:List ByteArray}{cds:List Cd}{c:Cd}(h:numN vars c.var<0):cdsAt vars (cds++[c])=cdsAt vars cds:=by
 funext v
 unfold cdsAt
 rw[jK]
 have:¬numN vars c.var=(v:Int):=fun e=>by omega
 simp[this]
theorem range_set{f:Nat→Value}{n v:Nat}{y:Value}:((List.range n).map f).set v y=(List.range n).map (updI f v y):=by
 refine List.ext_getElem? (fun i=>?_)
 rw[List.getElem?_set]
 simp only[zG,jm,List.length_range]
 unfold updI
 by_cases h:v=i
 ·subst h
  rw[if_pos rfl]
  by_cases hv:v<n
  ·rw[if_pos hv,jk (by simpa using hv)]
   simp
  ·rw[if_neg hv,zb (by simp;omega)]
   rfl
 ·rw[if_neg h]
  rcases jB i n with hi|hi
  ·rw[jk (by simpa using hi)]
   simp only[zK,Option.map_some]
   rw[if_neg (fun e=>h e.symm)]
  ·rw[zb (by simpa using hi)]
   rfl
theorem CoB.push{w wb w9:World}{base gC nv v:Nat}{cds:List Cd}{c:Cd}{vars:List ByteArray}{val:Nat→Value}{us:Nat→List (List Value)}{v9:Value}(h:CoB w base gC nv cds vars val us)(he:Ext w wb)(hc:numN vars c.var=(v:Int))(hgC:gC<base)(hr:w9.ownsRow base 53 5 v9 ((cdsAt vars cds v).length+1) ((us v).flatten++c.cells))(hg:wb.grownBy w9 (val v).ownBlock)(hl:Lands wb (val v) v9):Bk w9 gC 44 ((List.range nv).map val)∧CoB (w9.setCell ⟨gC,v,none⟩ v9) base gC nv (cds++[c]) vars (updI val v v9) (updI us v (us v++[c.cells])):=by
 have hb9:Bk w9 gC 44 ((List.range nv).map val):=(h.box.ext he).fr (grown_fr hg) (fun e=>by have:=own_ge (h.fam.own v) e;omega)
 refine⟨hb9,?_,?_⟩
 ·rw[←range_set]
  exact hb9.set v v9
 ·have h1:=h.fam.push he (o:=v) hr hg hl (show rdCd.R (fun _=>False) wb c.cells c from rfl)
  rw[cdsAt_snoc hc]
  have h2:=h1.fr ((Fr.refl (fun k=>k=gC) w9).setCell (p:=⟨gC,v,none⟩) (.inl rfl) v9) (fun o q hq e=>by have:=own_ge (h1.own o) hq;omega) (fun q hq=>hq.1.elim)
  exact h2.less (fun q _ hq=>hq.1) (fun o q _ hq=>hq)
structure StB(w:World)(base:Nat)(vS:Value)(css:List (List Value))(ss:List Sm)(G:Nat→Prop)(val:Option Nat→Value):Prop where
 own:w.ownsRow base 229 5 vS ss.length css.flatten
 len:css.length=ss.length
 rd:∀i (h:i<ss.length) (h':i<css.length),∃b u1 u2 u3,css[i]=[.map (some b),u1,u2,u3,val (some i)]∧rdSm.R G w [.map (some b),u1,u2,u3,nilS] ss[i]
 out:∀q,vS.ownBlock=some q→¬G q
theorem StB.all{w:World}{base:Nat}{vS:Value}{css:List (List Value)}{ss:List Sm}{G:Nat→Prop}{val:Option Nat→Value}(h:StB w base vS css ss G val):∀cs∈css,cs.length=5:=fun cs hcs=>by
 obtain⟨i,hi,rfl⟩:=jv hcs
 obtain⟨b,u1,u2,u3,e,-⟩:=h.rd i (by rw[←h.len];exact hi) hi
 rw[e]
 rfl
theorem StB.fr{S:Nat→Prop}{w w':World}{base:Nat}{vS:Value}{css:List (List Value)}{ss:List Sm}{G:Nat→Prop}{val:Option Nat→Value}(h:StB w base vS css ss G val)(hf:Fr S w w')(h1:∀q,vS.ownBlock=some q→¬S q)(h2:∀q,G q→¬S q):StB w' base vS css ss G val :=
 ⟨own_fr h.own hf h1,h.len,fun i hi h'=>let ⟨b,u1,u2,u3,e,hr⟩:=h.rd i hi h';⟨b,u1,u2,u3,e,rdSm.fr hr hf h2⟩,h.out⟩
theorem StB.ext{w w':World}{base:Nat}{vS:Value}{css:List (List Value)}{ss:List Sm}{G:Nat→Prop}{val:Option Nat→Value}(h:StB w base vS css ss G val)(he:Ext w w'):StB w' base vS css ss G val:=h.fr (he.fr (fun _=>False)) (fun _ _ h=>h) (fun _ _ h=>h)
theorem StB.less{w:World}{base:Nat}{vS:Value}{css:List (List Value)}{ss:List Sm}{G G':Nat→Prop}{val:Option Nat→Value}(h:StB w base vS css ss G val)(hg:∀q,q<w.heap.size→G q→G' q)(ho:∀q,vS.ownBlock=some q→¬G' q):StB w base vS css ss G' val :=
 ⟨h.own,h.len,fun i hi h'=>let ⟨b,u1,u2,u3,e,hr⟩:=h.rd i hi h';⟨b,u1,u2,u3,e,rdSm.mono hr hg⟩,ho⟩
theorem flat_set{sz:Nat}:∀{css:List (List Value)} {i j:Nat} {y:Value} (_:∀cs∈css,cs.length=sz) (hi:i<css.length) (_:j<sz),css.flatten.set (i*sz+j) y=(css.set i (css[i].set j y)).flatten
 | c::css,0,j,y,h,_,hj=>by
  have hc:=h c zI
  rw[List.flatten_cons,List.set_append_left _ _ (by omega)]
  simp
 | c::css,i+1,j,y,h,hi,hj=>by
  have hc:=h c zI
  rw[List.flatten_cons,List.set_append_right _ _ (by rw[hc,zN];omega)]
  have e:(i+1)*sz+j-c.length=i*sz+j:=by rw[hc,zN];omega
  rw[e,flat_set (fun d hd=>h d (jr _ hd)) (by simpa using hi) hj]
  simp
theorem StB.put{w:World}{base g cap:Nat}{css:List (List Value)}{ss:List Sm}{G:Nat→Prop}{val:Option Nat→Value}{k:Nat}{v9:Value}(h:StB w base (.slice (some ⟨g,0,none⟩) ss.length cap) css ss G val)(hk:k<ss.length):StB (w.setCell ⟨g,k*5+4,none⟩ v9) base (.slice (some ⟨g,0,none⟩) ss.length cap) (css.set k ((css[k]'(by have:=h.len;omega)).set 4 v9)) ss G (updI val (some k) v9):=by
 have hkc:k<css.length:=by have:=h.len;omega
 have hf:Fr (fun q=>q=g) w (w.setCell ⟨g,k*5+4,none⟩ v9):=(Fr.refl (fun q=>q=g) w).setCell (p:=⟨g,k*5+4,none⟩) (.inl rfl) v9
 refine⟨?_,by rw[zc];exact h.len,fun i hi h'=>?_,h.out⟩
 ·rw[←flat_set h.all hkc (by decide)]
  exact own_setc h.own (by omega) v9
 ·have hic:i<css.length:=by rw[h.len];exact hi
  obtain⟨b,u1,u2,u3,e,hr⟩:=h.rd i hi hic
  refine⟨b,u1,u2,u3,?_,rdSm.fr hr hf (fun q hq e=>h.out q (by rw[e];rfl) hq)⟩
  rw[List.getElem_set]
  by_cases hik:k=i
  ·subst hik
   rw[if_pos rfl,e,updI_same]
   rfl
  ·rw[if_neg hik,e,updI_ne (fun e=>hik (by injection e with e;exact e.symm))]
theorem Sl.sm{F:Nat→Prop}{w:World}{A:Option Addr}{n c:Nat}{xs:List Sm}(h:Sl rdSm F w (.slice A n c) xs){i:Nat}(hi:i<xs.length):∃ad b A1 c1 A2 c2 A3 c3 A4 c4,A=some ad∧w.cell? (ad.add (i*5))=some (.map (some b))∧w.cell? ⟨(ad.add (i*5)).block,(ad.add (i*5)).off+1,none⟩=some (.slice A1 xs[i].bound.length c1)∧w.cell? ⟨(ad.add (i*5)).block,(ad.add (i*5)).off+2,none⟩=some (.slice A2 xs[i].fresh.length c2)∧w.cell? ⟨(ad.add (i*5)).block,(ad.add (i*5)).off+3,none⟩=some (.slice A3 xs[i].frm.length c3)∧w.cell? ⟨(ad.add (i*5)).block,(ad.add (i*5)).off+4,none⟩=some (.slice A4 xs[i].nots.length c4)∧F ad.block∧rdSm.R F w [.map (some b),.slice A1 xs[i].bound.length c1,.slice A2 xs[i].fresh.length c2,.slice A3 xs[i].frm.length c3,.slice A4 xs[i].nots.length c4] xs[i]:=by
 obtain⟨ad,cs,h1,hF,hr,h6,h7⟩:=h.at hi
 have hr':=hr
 obtain⟨b,u1,u2,u3,u4,e,hb,h0,h2,h3,h4,h5⟩:=hr'
 obtain⟨A1,c1,e1,-⟩:=h2
 obtain⟨A2,c2,e2,-⟩:=h3
 obtain⟨A3,c3,e3,-⟩:=h4
 obtain⟨A4,c4,e4⟩:=h5.sl
 rw[jm]at e1 e2 e3
 subst e1 e2 e3 e4 e
 exact⟨ad,b,A1,c1,A2,c2,A3,c3,A4,c4,h1,h6 (by simp),h7 0 (by simp),h7 1 (by simp),h7 2 (by simp),h7 3 (by simp),hF,hr⟩
def posQ(xs:List At)(q:Nat):List At:=(xs.take q).filter (fun a=>!a.neg)
theorem posQ_neg{xs:List At}{q:Nat}(hq:q<xs.length)(h:xs[q].neg=true):posQ xs (q+1)=posQ xs q:=by
 unfold posQ
 rw[jj hq,jK]
 simp[h]
theorem posQ_pos{xs:List At}{q:Nat}(hq:q<xs.length)(h:xs[q].neg=false):posQ xs (q+1)=posQ xs q++[xs[q]]:=by
 unfold posQ
 rw[jj hq,jK]
 simp[h]
theorem posQ_len(xs:List At)(q:Nat):(posQ xs q).length≤q:=by
 unfold posQ
 have h1:=jG (fun a:At=>!a.neg) (xs.take q)
 rw[ju]at h1
 omega
theorem take_mem{l:List Nat}{p:Nat}(hp:p<l.length)(v:Nat):v∈l.take (p+1)↔v=l[p]∨v∈l.take p:=by
 rw[jj hp,jp,jt,or_comm]
theorem sm_one{F:Nat→Prop}{w:World}{cs:List Value}{s:Sm}(h:rdSm.R F w cs s):∀u∈cs,u.oneCell'=true:=by
 obtain⟨b,u1,u2,u3,u4,rfl,-,-,⟨_,_,rfl,-⟩,⟨_,_,rfl,-⟩,⟨_,_,rfl,-⟩,h4⟩:=h
 obtain⟨_,_,rfl⟩:=h4.sl
 simp[Value.oneCell']
theorem get_last{α : Type}{l:List α}{a : α}{k:Nat}(h:l.length=k)(hk:k<(l++[a]).length):(l++[a])[k]=a:=by
 subst h
 rw[jw (jq _)]
 simp
theorem ng_one{F:Nat→Prop}{w:World}{cs:List Value}{s:Ng}(h:rdNg.R F w cs s):∀u∈cs,u.oneCell'=true:=by
 obtain⟨u1,u2,u3,rfl,h1,⟨_,_,rfl,-⟩,h3⟩:=h
 obtain⟨_,_,rfl⟩:=h1.sl
 obtain⟨_,_,rfl⟩:=h3.sl
 simp[Value.oneCell']
theorem StB.atFirst{w:World}{base:Nat}{vS v9:Value}{css:List (List Value)}{ss:List Sm}{G:Nat→Prop}{val:Option Nat→Value}(h:StB w base vS css ss G val):StB w base vS css ss G (updI val none v9) :=
 ⟨h.own,h.len,fun i hi h'=>by rw[updI_ne (by simp)];exact h.rd i hi h',h.out⟩
theorem StB.of{F:Nat→Prop}{w:World}{base n:Nat}{vS:Value}{css:List (List Value)}{ss:List Sm}{G:Nat→Prop}(h:Rw rdSm w base 229 vS n ss css)(hc:∀c∈css,∃mb u1 u2 u3,c=[.map (some mb),u1,u2,u3,nilS])(hG:∀k,base≤k→vS.ownBlock≠some k→G k)(ho:∀q,vS.ownBlock=some q→¬G q):StB w base vS css ss G (fun _=>nilS):=by
 have hn:=h.num (by decide)
 refine⟨by rw[←hn];exact h.own,h.len,fun i hi h'=>?_,ho⟩
 obtain⟨mb,u1,u2,u3,e⟩:=hc _ (jg h')
 have hr:=h.rd i hi h'
 rw[e]at hr
 exact⟨mb,u1,u2,u3,e,rdSm.mono hr (fun k _ hk=>hG k hk.1 hk.2)⟩
theorem lastN_snoc(bd:Nat→Nat)(v:Int):∀(l:List Int) (m:Nat),lastN bd (l++[v]) m=if v<0 then lastN bd l m else max (lastN bd l m) (bd v.toNat)
 | [],m=>rfl
 | x::l,m=>by
  rw[zw,lastN,lastN_snoc bd v l,lastN]
theorem posQ_all(r:Rl):posQ r.ats r.ats.length=posL r:=by unfold posQ posL;rw[jV]
theorem StB.fin{w:World}{base base5:Nat}{vS:Value}{css:List (List Value)}{ss:List Sm}{G K:Nat→Prop}{val:Option Nat→Value}{us:Option Nat→List (List Value)}{ns:Option Nat→List Ng}(h:StB w base vS css ss G val)(hf:Fam rdNg w base5 220 G val us ns)(hn:∀s∈ss,s.nots=[])(hG:∀q,G q→K q)(hb:∀q,base≤q→K q)(hb5:∀q,base5≤q→K q):Sl rdSm K w vS (ss.zipIdx.map (fun p=>{ p.1 with nots:=ns (some p.2) })):=by
 have ho:=h.own
 have hl:(ss.zipIdx.map (fun p=>({ p.1 with nots:=ns (some p.2) }:Sm))).length=ss.length:=by simp
 refine own_rdg (us:=css) (by decide) ho (by rw[hl];exact h.len) (fun i hi h'=>?_) (fun k hk=>hb k (own_ge ho hk))
 have his:i<ss.length:=by rw[hl]at hi;exact hi
 obtain⟨b,u1,u2,u3,e,hr⟩:=h.rd i his h'
 obtain⟨b',v1,v2,v3,v4,e2,hbm,h0,h1,h2,h3,-⟩:=rdSm.mono hr (fun q _ hq=>hG q hq)
 injection e2 with e3 e2;injection e3 with e3;injection e3 with e3;injection e2 with e4 e2;injection e2 with e5 e2;injection e2 with e6 e2
 subst e3 e4 e5 e6
 rw[e]
 refine⟨b,_,_,_,_,rfl,hbm,?_,?_,?_,?_,?_⟩
 ·simpa using h0
 ·simpa using h1
 ·simpa using h2
 ·simpa using h3
 ·have:=hf.sl (K:=K) (by decide) (some i) hG hb5
  simpa using this
theorem ngP_pos'{vars:List ByteArray}{M:Dm}{r:Rl}{i:Nat}{a:At}(hi:r.ats[i]?=some a)(h:a.neg=false):ngP vars M r (i+1)=ngP vars M r i:=by
 obtain⟨hl,rfl⟩:=zh.1 hi
 exact ngP_pos hl h
theorem ngP_neg'{vars:List ByteArray}{M:Dm}{r:Rl}{i:Nat}{a:At}(hi:r.ats[i]?=some a)(h:a.neg=true){o:Option Nat}(ho:lastA vars r a=idO o):ngP vars M r (i+1)=updI (ngP vars M r i) o (ngP vars M r i o++[ngOf vars M a]):=by
 obtain⟨hl,rfl⟩:=zh.1 hi
 exact ngP_neg hl h ho
theorem ngP_len(vars:List ByteArray)(M:Dm)(r:Rl)(i:Nat)(o:Option Nat):(ngP vars M r i o).length≤i:=by
 unfold ngP
 rw[jm]
 have h1:=jG (fun a:At=>a.neg && decide (lastA vars r a=idO o)) (r.ats.take i)
 rw[ju]at h1
 omega
theorem StB.beside{w wb w9:World}{base base' n s:Nat}{vS v v9:Value}{E:TypeId}{xs:List Value}{css:List (List Value)}{ss:List Sm}{G:Nat→Prop}{val:Option Nat→Value}(h:StB w base vS css ss G val)(he:Ext w wb)(ho:w.ownsRow base' E s v n xs)(hE : 229≠E)(hvG:∀q,v.ownBlock=some q→¬G q)(hg:wb.grownBy w9 v.ownBlock)(hl:Lands wb v v9):StB w9 base vS css ss (fun u=>G u∧v9.ownBlock≠some u) val:=by
 have h1:StB w base vS css ss (fun u=>G u∧u<w.heap.size) val:=h.less (fun q hq hG=>⟨hG,hq⟩) (fun q hq hG=>h.out q hq hG.1)
 have h2:=(h1.ext he).fr (grown_fr hg) (fun q hq e=>own_ne h.own ho hE hq e) (fun q hq e=>hvG q e hq.1)
 refine h2.less (fun q _ hq=>⟨hq.1,fun e=>?_⟩) (fun q hq hG=>h.out q hq hG.1)
 rcases hl with hl|hl
 ·exact hvG q (hl ▸ e) hq.1
 ·rw[hl]at e
  injection e with e
  have:=he.size
  have:=hq.2
  omega
theorem StB.put'{w:World}{base g cap n:Nat}{css:List (List Value)}{ss:List Sm}{G:Nat→Prop}{val:Option Nat→Value}{k:Nat}{v9:Value}(hn:ss.length=n)(h:StB w base (.slice (some ⟨g,0,none⟩) n cap) css ss G val)(hk:k<n)(hc:k<css.length):StB (w.setCell ⟨g,k*5+4,none⟩ v9) base (.slice (some ⟨g,0,none⟩) n cap) (css.set k (css[k].set 4 v9)) ss G (updI val (some k) v9):=by
 subst hn
 exact h.put hk
def PlanPost(K:Nat→Prop)(ss:List Sm)(fs:List Ng)(w:World)(e:Ending)(w':World):Prop:=Ext w w'∧∃S cs T ct,e=.returned (.tuple #[.slice S ss.length cs,.slice T fs.length ct])∧Sl rdSm K w' (.slice S ss.length cs) ss∧Sl rdNg K w' (.slice T fs.length ct) fs
set_option maxRecDepth 20000 in
set_option maxHeartbeats 6400000 in
theorem plan_any{F G H J:Nat→Prop}{w:World}{sv vc:Value}{r:Rl}{b nb nv cv:Nat}{A:Option Addr}{M:Dm}{vars:List ByteArray}(hA:Ats G w sv r.ats)(hC:Sl rdCd H w vc r.cds)(hD:DbB F w b nb M)(hV:Strs J w (.slice A nv cv) vars)(hs:SafeR vars r)(hM:∀a∈r.ats,∃x,M a.rel=some x)(hrows:∀a∈r.ats,∀x∈rowsD M a.rel,x.length=a.terms.length∧∀v∈x,okV v=true∧VOk v)(hrn:∀a∈r.ats,(rowsD M a.rel).length≤1000000)(hcd:∀c∈r.cds,condV c=0)(hz:RlZ r)(hvz:∀s∈vars,s.size≤maxLen)(hb0:r.ats.length≤100)(hb1:∀a∈r.ats,a.terms.length≤1000)(hb2:r.cds.length≤1000)(hb3:vars.length≤100000)(htab:TabE w) :
  Calls Tryz.prog 114 #[.agg #[sv,vc],.agg #[.map (some b)],.slice A nv cv] w (PlanPost (fun q=>F q∨w.heap.size≤q) (smF vars M r) ((negK vars r 0).map (ngOf vars M)) w):=by
 obtain⟨A',cv',e,-,hvc⟩:=hV
 injection e with e1 e2 e3
 subst e1
 have HVC:=zO hvc;have HNV:=zO e2;have HS:=zO hs;have HM:=zO hM;have HROWS:=zO hrows;have HRN:=zO hrn;have HCD:=zO hcd;have HZ:=zO hz;have HVZ:=zO hvz;have HB1:=zO hb1;have HTAB:=zO htab;have HD:=zO hD
 have hnvb:nv≤100000:=by omega
 clear hvc e2 e3 hs hM hrows hrn hcd hz hvz hb1 htab hD hb3
 obtain⟨PP,hPP⟩:∃P,P=PlanPost (fun q=>F q∨w.heap.size≤q) (smF vars M r) ((negK vars r 0).map (ngOf vars M)) w:=⟨_,rfl⟩
 rw[←hPP]
 have HPP:=zO hPP
 clear hPP
 obtain⟨xs,cds⟩:=r
 simp only at hA hC hb0 hb2
 obtain⟨Ac,cc,rfl⟩:=hC.sl
 obtain⟨nc,hnc⟩:∃n,n=cds.length:=⟨_,rfl⟩
 rw[←hnc]at hC hb2 ⊢
 have HNC:=zO hnc;have HC:=zO hC
 clear hnc hC
 obtain⟨Aa,c,rfl,hc,hat⟩:=hA.at'
 obtain⟨n,hn⟩:∃n,n=xs.length:=⟨_,rfl⟩
 rw[←hn]at hc hb0 ⊢
 have HN:=zO hn;have HAT:=zO hat
 clear hn hat hA
 have hmm:=@run_makeMap Tryz.prog
 have k2:=two_blk w 46 33 [.slice Aa n c,.slice Ac nc cc] [.map (some b)]
 have hx:Ext w ((w.alloc (.cells #[.slice Aa n c,.slice Ac nc cc] 46)).alloc (.cells #[.map (some b)] 33)):=((Ext.refl w).alloc _).alloc _
 have HM0:=zO (MapV.made ((w.alloc (.cells #[.slice Aa n c,.slice Ac nc cc] 46)).alloc (.cells #[.map (some b)] 33)))
 have hsz0:((w.alloc (.cells #[.slice Aa n c,.slice Ac nc cc] 46)).alloc (.cells #[.map (some b)] 33)).heap.size=w.heap.size+1+1:=by simp
 rw[hsz0]at HM0
 clear hsz0
 go_enter Tryz.func114,Tryz.ntmps114
 go_upto_region 1 with fail
 change Bk ((w.alloc (.cells #[.slice Aa n c,.slice Ac nc cc] 46)).alloc (.cells #[.map (some b)] 33)) _ _ _∧Bk ((w.alloc (.cells #[.slice Aa n c,.slice Ac nc cc] 46)).alloc (.cells #[.map (some b)] 33)) _ _ _ at k2
 obtain⟨ka,kb⟩:=k2
 have hw2:((w.alloc (.cells #[.slice Aa n c,.slice Ac nc cc] 46)).alloc (.cells #[.map (some b)] 33)).heap.size=w.heap.size+1+1:=by simp
 obtain⟨w1,hw1⟩:∃w1,w1=((w.alloc (.cells #[.slice Aa n c,.slice Ac nc cc] 46)).alloc (.cells #[.map (some b)] 33)):=⟨_,rfl⟩
 rw[←hw1]at ka kb hx HM0 hw2 ⊢
 have HKA:=zO ka;have HKB:=zO kb;have HX:=zO hx
 clear ka kb hx hw1
 obtain⟨bN,hbN⟩:∃k,k=w.heap.size+1+1:=⟨_,rfl⟩
 rw[←hbN]at HM0 hw2
 have hbn:w.heap.size+1<bN:=by omega
 have HW1:=zO hw2
 clear hbN
 go_upto_region 2 with (first
  | (refine wpList_insert_V rfl _ _ _ 145 3 rfl Tryz.underlying145 bN 0 (fun _=>none) rfl HM0.out (by simp[maxLen]) ⟨#[]⟩ (.int .i64 (-1)) rfl (by decide) rfl ?_;intro w3 hm3 hg3))
 rw[numP_zero vars]at hm3
 have hx1:Ext w1 (w1.alloc (.map #[] 0)):=(Ext.refl w1).alloc _
 have hx3:Ext w1 w3:=hx1.grown hg3 (fun k e=>by injection e with e;have:=HW1.out;omega)
 have HM3:=zO hm3;have HX3:=zO (HX.out.trans hx3);have HKA3:=zO (HKA.out.ext hx3);have HKB3:=zO (HKB.out.ext hx3)
 have hbN3:bN<w3.heap.size:=hm3.lt
 clear hm3 hx1 hx3 hg3 hmm hw2 HM0 HKA HKB
 go_wp2_with fail
 go_loopw [32] (fun t wr=>∃i:Nat,i≤nv∧t=.int .i64 (i:Int)∧Hid (MapV wr bN (0+1+i) (numP vars i))∧Hid (Fr (fun q=>q=bN) w3 wr)) (fun t _=>nv-(intOf t).toNat)
 case atStart=>exact⟨0,jn _,rfl,HM3,zO (Fr.refl _ _)⟩
 case round =>
  obtain⟨i,hi,rfl,HMI,HFI⟩:=hrel
  obtain⟨W,rfl⟩:∃W:World,W=wr:=⟨_,rfl⟩
  have HXW:=zO (HFI.out.new HX3.out (fun q hq=>by omega))
  by_cases hlt:i<nv
  ·have i1:(0:Int)≤(i:Int):=by omega
   have i2:(i:Int)<(nv:Int):=by omega
   have hiv:i<vars.length:=by have:=HNV.out;omega
   obtain⟨ad,rfl,-,c0⟩:=HVC.out.str hiv
   replace c0:=HXW.out.cell c0
   have hsz:=HVZ.out _ (jg hiv)
   have HADD:=zO (numP_add HS.out.nd HS.out.ne hiv)
   obtain⟨s,hs⟩:∃s,s=vars[i]:=⟨_,rfl⟩
   rw[←hs]at c0 hsz HADD
   clear hs hiv
   go_wp2_with (first
    | (refine wpList_update_V rfl _ _ _ 145 3 rfl Tryz.underlying145 bN (0+1+i) (numP vars i) rfl HMI.out (by simp only[maxLen];omega) s (.int .i64 (i:Int)) rfl hsz rfl ?_;intro w5 hm5 hg5;have HM5:=zO hm5;have HG5:=zO hg5;clear hm5 hg5))
   go_roundw
   case rel=>exact⟨i+1,by omega,by go_num,zO (by rw[←HADD.out];exact HM5.out),zO (HFI.out.grown HG5.out (fun q e=>by injection e with e;exact .inl e.symm))⟩
   case measure=>simp[intOf];omega
  ·obtain rfl:i=nv:=by omega
   have hdi:¬(i:Int)<(i:Int):=by omega
   have HM4:Hid (∃m,MapV W bN m (numF vars)):=zO ⟨_,by have h:=HMI.out;rw[show i=vars.length from HNV.out,numP_all]at h;exact h⟩
   have hbNW:bN<W.heap.size:=by have:=HFI.out.size;omega
   have HKA4:=zO (HKA3.out.fr HFI.out (by omega));have HKB4:=zO (HKB3.out.fr HFI.out (by omega))
   clear HMI HM3 HKA3 HKB3
   have hmk:=make_row 289 44 nilS 24 Tryz.underlying289 info_cds rfl i (by omega) (by omega)
   go_upto_region 8 with fail
   have kc:=Bk.new W 44 (List.replicate i nilS)
   have hxc:Ext W (W.alloc (.cells (List.replicate i nilS).toArray 44)):=(Ext.refl W).alloc _
   rw[show (List.replicate i nilS).toArray=Array.replicate i nilS by simp]at kc hxc
   obtain⟨gC,hgC⟩:∃g,g=W.heap.size:=⟨_,rfl⟩
   rw[←hgC]at kc ⊢
   generalize (W.alloc (.cells (Array.replicate i nilS) 44))=w7 at *
   have hgC7:gC<w7.heap.size:=kc.lt
   have hNC:bN<gC:=by omega
   have HX7:=zO (HXW.out.trans hxc);have HKA7:=zO (HKA4.out.ext hxc);have HKB7:=zO (HKB4.out.ext hxc)
   obtain⟨mN,hmN⟩:=HM4.out
   have HM7:=zO (hmN.ext hxc)
   have hco:CoB w7 w7.heap.size gC i (cds.take 0) vars (fun _=>nilS) (fun _=>[]):=⟨by
    have e:(List.range i).map (fun _:Nat=>nilS)=List.replicate i nilS:=by
     refine jY (by simp) (fun j h1 h2=>by simp)
    rw[e];exact kc,by
    have e:cdsAt vars (cds.take 0)=fun _=>[]:=by funext v;simp[cdsAt]
    rw[e];exact Fam.nil _ _ _ _ _⟩
   have HCO:=zO hco
   have a1:=HKA7.out.cell (i:=1) (by simp)
   simp only[ja,je]at a1
   clear hmk kc hxc hgC hmN hco HM4 HKA4 HKB4 hbNW
   go_wp2_with fail
   clear a1
   go_loopw [47] (fun t wr=>∃(k:Nat) (val:Nat→Value) (us:Nat→List (List Value)),k≤nc∧t=.int .i64 (k:Int)∧Hid (CoB wr w7.heap.size gC i (cds.take k) vars val us)∧Hid (Fr (fun q=>q=gC) w7 wr)) (fun t _=>nc-(intOf t).toNat)
   case atStart=>exact⟨0,_,_,jn _,rfl,HCO,zO (Fr.refl _ _)⟩
   case round =>
    obtain⟨k,val,us,hk,rfl,HCK,HFK⟩:=hrel
    obtain⟨V,rfl⟩:∃V:World,V=wr:=⟨_,rfl⟩
    have HXV:=zO (HFK.out.new HX7.out (fun q hq=>by have:=HXW.out.size;omega))
    have hV7:w7.heap.size≤V.heap.size:=HFK.out.size
    by_cases hkl:k<nc
    ·have k1:(0:Int)≤(k:Int):=by omega
     have k2:(k:Int)<(nc:Int):=by omega
     have hkc:k<cds.length:=by have:=HNC.out;omega
     obtain⟨adk,rfl,-,d0,d1,d2,d3,d4⟩:=HC.out.cd hkc
     replace d0:=HXV.out.cell d0;replace d1:=HXV.out.cell d1;replace d2:=HXV.out.cell d2;replace d3:=HXV.out.cell d3;replace d4:=HXV.out.cell d4
     have HTK:=zO (jj hkc)
     have hsz:=HZ.out.var _ (jg hkc)
     have hcv:=HS.out.cd _ (jg hkc)
     have HNUM:=zO (numF_get vars cds[k].var)
     have hln:∀v,(cdsAt vars (cds.take k) v).length≤k:=fun v=>by
      have h1:=jG (fun c:Cd=>decide (numN vars c.var=(v:Int))) (cds.take k)
      rw[ju]at h1
      unfold cdsAt
      omega
     obtain⟨c,hcc⟩:∃c,c=cds[k]:=⟨_,rfl⟩
     rw[←hcc]at d0 d1 d2 d3 d4 HTK hsz hcv HNUM
     obtain⟨cvr,cop,ckd,cit,cst⟩:=c
     simp only at d0 d1 d2 d3 d4 hsz hcv HNUM
     obtain⟨v,hv⟩:∃v,v=numN vars cvr:=⟨_,rfl⟩
     rw[←hv]at HNUM
     have hvr:(v<0∧numN vars cvr<0)∨∃u:Nat,v=(u:Int)∧u<vars.length∧numN vars cvr=(u:Int):=by
      by_cases h0:cvr=⟨#[]⟩
      ·left
       have:numN vars cvr = -1:=if_pos h0
       rw[hv,this]
       omega
      ·right
       have:=num_var h0 (hcv h0)
       exact⟨posN vars cvr,by rw[hv,this],pos_lt (hcv h0),this⟩
     have kt:=Bk.new V 53 [.string cvr,.int .i64 cop,.int .i64 ckd,.int .i64 cit,.string cst]
     change Bk (V.alloc (.cells #[.string cvr,.int .i64 cop,.int .i64 ckd,.int .i64 cit,.string cst] 53)) _ _ _ at kt
     have hx4:Ext V (V.alloc (.cells #[.string cvr,.int .i64 cop,.int .i64 ckd,.int .i64 cit,.string cst] 53)):=(Ext.refl V).alloc _
     have HM8:=zO ((HM7.out.fr HFK.out (by omega)).ext hx4)
     have q0:=kt.cell (i:=0) (by simp);have q1:=kt.cell (i:=1) (by simp);have q2:=kt.cell (i:=2) (by simp);have q3:=kt.cell (i:=3) (by simp);have q4:=kt.cell (i:=4) (by simp)
     simp only[ja,je]at q0 q1 q2 q3 q4
     have HC8:=zO (HCK.out.ext hx4);have HF8:=zO (HFK.out.ext hx4)
     have HLN:=zO hln
     obtain⟨gb,hgb⟩:∃g,g=V.heap.size:=⟨_,rfl⟩
     have hgV:gb<(V.alloc (.cells #[.string cvr,.int .i64 cop,.int .i64 ckd,.int .i64 cit,.string cst] 53)).heap.size:=by rw[hgb];exact kt.lt
     have hown:∀v q,(val v).ownBlock=some q→w7.heap.size≤q∧q<gb:=fun v q hq=>⟨own_ge (HCK.out.fam.own v) hq,by rw[hgb];exact own_lt (HCK.out.fam.own v) hq⟩
     have HOWN:=zO hown
     clear hcc hv hcv hln kt hx4 hkc hown
     go_upto_region 11 with fail
     rw[←hgb]at q0 q1 q2 q3 q4 ⊢
     have hg7:w7.heap.size≤gb:=by omega
     clear hgb
     generalize (V.alloc (.cells #[.string cvr,.int .i64 cop,.int .i64 ckd,.int .i64 cit,.string cst] 53))=V4 at *
     clear d0 d1 d2 d3 d4
     rcases hvr with ⟨hneg,hneg2⟩|⟨u,rfl,hul,hu⟩
     ·have n1:¬(0:Int)≤v:=by omega
      have HSK:=zO (cdsAt_skip (cds:=cds.take k) (c:=⟨cvr,cop,ckd,cit,cst⟩) hneg2)
      clear hneg2
      go_wp2_with (first
       | (refine wpList_lookup_V rfl _ _ 145 3 rfl Tryz.underlying145 (.int .i64 0) (zero_int _) bN mN _ rfl HM8.out cvr rfl hsz (.int .i64 v) HNUM.out ?_))
      go_roundw
      case rel=>exact⟨k+1,val,us,by omega,by go_num,zO (by rw[HTK.out];exact⟨HC8.out.box,by rw[HSK.out];exact HC8.out.fam⟩),HF8⟩
      case measure=>simp[intOf];omega
     ·have u0:(0:Int)≤(u:Int):=by omega
      have hui:u<i:=by have:=HNV.out;omega
      have u2:(u:Int)<(i:Int):=by omega
      have HU:=zO hu
      have s0:=HC8.out.box.cell (i:=u) (by simpa using hui)
      simp only[jy,zK]at s0
      have sf:=HC8.out.box.free u
      have how:=HC8.out.fam.own u
      obtain⟨Av,cv2,ev⟩:=own_slice how
      rw[ev]at s0 how
      have HEV:=zO ev
      have hnl:=HLN.out u
      obtain⟨m,hm⟩:∃m,m=(cdsAt vars (cds.take k) u).length:=⟨_,rfl⟩
      rw[←hm]at s0 how HEV hnl
      have HOW:=zO how;have HMN:=zO hm
      have hob:∀q,(Value.slice Av m cv2).ownBlock=some q→w7.heap.size≤q∧q<gb:=fun q hq=>HOWN.out u q (by rw[HEV.out];exact hq)
      have HOB:=zO hob
      obtain⟨j0,hi0,hz0,hz1,hz2⟩:=info_parts info_cond
      have HJ0:=zO (And.intro hi0 (And.intro hz0 (And.intro hz1 hz2)));clear hi0 hz0 hz1 hz2
      have s1:=(Ext.refl V4).drew.cell s0
      have s2:=((Ext.refl V4).alloc (.cells #[.string cvr,.int .i64 cop,.int .i64 ckd,.int .i64 cit,.string cst] 53)).cell s0
      have s3:=((Ext.refl V4).alloc (.cells #[.string cvr,.int .i64 cop,.int .i64 ckd,.int .i64 cit,.string cst] 53)).drew.cell s0
      clear hm how ev hu hob
      go_upto_region 13 with (first
       | (refine wpList_lookup_V rfl _ _ 145 3 rfl Tryz.underlying145 (.int .i64 0) (zero_int _) bN mN _ rfl HM8.out cvr rfl hsz (.int .i64 (u:Int)) HNUM.out ?_))
      go_region_law (first
       | (refine step_append_at (by rfl) _ _ _ (by rfl) w7.heap.size 53 j0 (.agg #[.string ⟨#[]⟩,.int .i64 0,.int .i64 0,.int .i64 0,.string ⟨#[]⟩]) 5 56 Tryz.underlying44 HJ0.out.1 HJ0.out.2.1 HJ0.out.2.2.1 HJ0.out.2.2.2 rfl (by omega) (.slice Av m cv2) m (us u).flatten (by rfl) (by refine own_ext' HOW.out ?_;repeat (first|exact Ext.refl _|refine Ext.drew ?_|refine Ext.alloc ?_ _)) ⟨V4.heap.size,0,none⟩ 1 1 [.string cvr,.int .i64 cop,.int .i64 ckd,.int .i64 cit,.string cst] (by rfl) (by rfl) (by exact laid_news V4 _ _) (by simp[Value.oneCell']) (by simp only[maxLen];omega) (by omega) (by simp;omega) ?_;intro v9 w9 hr9 hg9 hl9;obtain⟨A9,c9,rfl⟩:=own_slice hr9;have hcp:=HC8.out.push (c:=⟨cvr,cop,ckd,cit,cst⟩) (by (repeat (first|exact Ext.refl _|refine Ext.drew ?_|refine Ext.alloc ?_ _))) HU.out hgC7 (by rw[←HMN.out];exact hr9) (HEV.out.symm ▸ hg9) (HEV.out.symm ▸ hl9);have t9:=hcp.1.cell (i:=u) (by simpa using hui);have g9:=hcp.1.free u;have HCP:=zO hcp.2;have HF9:Hid (Fr (fun q=>q=gC) w7 (w9.setCell ⟨gC,u,none⟩ (.slice A9 (m+1) c9))):=zO (((HF8.out.ext (by (repeat (first|exact Ext.refl _|refine Ext.drew ?_|refine Ext.alloc ?_ _)))).grown hg9 (fun q hq=>.inr (HOB.out q hq).1)).setCell (p:=⟨gC,u,none⟩) (.inl rfl) _);simp only[jy,zK]at t9;clear hr9 hg9 hl9 hcp))
      all_goals
       clear q0 q1 q2 q3 q4 s0 s1 s2 s3 t9 g9 sf
       go_wp2_with fail
       go_roundw
       case rel=>exact⟨k+1,_,_,by omega,by go_num,zO (by rw[HTK.out];exact HCP.out),HF9⟩
       case measure=>simp[intOf];omega
    ·obtain rfl:k=nc:=by omega
     have hdk:¬(k:Int)<(k:Int):=by omega
     have et:cds.take k=cds:=jo (by have:=HNC.out;omega)
     rw[et]at HCK
     clear et
     have HM8:=zO (HM7.out.fr HFK.out (by omega));have HKA8:=zO (HKA7.out.fr HFK.out (by omega));have HKB8:=zO (HKB7.out.fr HFK.out (by omega))
     have hgCV:gC<V.heap.size:=by omega
     have hmk2:=make_row 63 3 (.int .i64 0) 8 Tryz.underlying63 info_i64 rfl i (by omega) (by omega)
     clear HCO HM7 HKA7 HKB7
     go_upto_region 16 with fail
     have kB:=Bk.new V 3 (List.replicate i (Value.int .i64 0))
     have hxB:Ext V (V.alloc (.cells (List.replicate i (Value.int .i64 0)).toArray 3)):=(Ext.refl V).alloc _
     rw[show (List.replicate i (Value.int .i64 0)).toArray=Array.replicate i (Value.int .i64 0) by simp]at kB hxB
     rw[←bdC_zero]at kB
     obtain⟨gB,hgB⟩:∃g,g=V.heap.size:=⟨_,rfl⟩
     rw[←hgB]at kB ⊢
     generalize (V.alloc (.cells (Array.replicate i (Value.int .i64 0)) 3))=w8 at *
     have hgB8:gB<w8.heap.size:=kB.lt
     have hCB:gC<gB:=by omega
     have h7B:w7.heap.size≤gB:=by omega
     have HX9:=zO (HXV.out.trans hxB);have HKA9:=zO (HKA8.out.ext hxB);have HKB9:=zO (HKB8.out.ext hxB);have HM9:=zO (HM8.out.ext hxB)
     have hcs:Sl rdCds (fun q=>q<gB) V (.slice (some ⟨gC,0,none⟩) i i) ((List.range i).map (cdsAt vars cds)):=(HCK.out.sl (Nat.le_of_lt hgC7)).mono (by decide) (fun q hq _=>by omega)
     have HCS:=zO (hcs.ext hxB)
     have a0:=HKA9.out.cell (i:=0) (by simp)
     simp only[ja,je]at a0
     have HKB0:=zO kB
     have hB9:w.heap.size≤gB:=by omega
     clear hmk2 kB hxB hgB hcs HCK HM8 HKA8 HKB8
     go_wp2_with fail
     clear a0
     go_loopw [74,16] (fun t vS wr=>∃(q:Nat) (css:List (List Value)),q≤n∧t=.int .i64 (q:Int)∧Hid (Rw rdSm wr w8.heap.size 229 vS (posQ xs q).length (smL vars M cds (posQ xs q) []) css)∧Hid (Bk wr gB 3 ((bdC i (bdP vars (posQ xs q))).map I64))∧Hid (Fr (fun b=>b=gB) w8 wr)∧Hid (∀c∈css,∃mb u1 u2 u3,c=[.map (some mb),u1,u2,u3,nilS])) (fun t _ _=>n-(intOf t).toNat)
     case atStart=>exact⟨0,[],jn _,rfl,zO (Rw.empty _ _ _ _),HKB0,zO (Fr.refl _ _),zO (fun c hc=>by simp at hc)⟩
     case round =>
      obtain⟨q,css,hq,rfl,HR,HBD,HFQ,HNIL⟩:=hrel
      obtain⟨X,rfl⟩:∃X:World,X=wr:=⟨_,rfl⟩
      have HXX:=zO (HFQ.out.new HX9.out (fun b hb=>by omega))
      have hX8:w8.heap.size≤X.heap.size:=HFQ.out.size
      obtain⟨As,cs,rfl⟩:=own_slice HR.out.own
      have HPL:=zO (posQ_len xs q)
      obtain⟨P,hP⟩:∃P,P=posQ xs q:=⟨_,rfl⟩
      rw[←hP]at HR HBD HPL ⊢
      obtain⟨k9,hk9⟩:∃k,k=P.length:=⟨_,rfl⟩
      rw[←hk9]at HR HPL ⊢
      have HP:=zO hP;have HK9:=zO hk9
      clear hP hk9
      have hk9b:k9≤100:=by have:=HPL.out;omega
      by_cases hql:q<n
      ·have i1:(0:Int)≤(q:Int):=by omega
       have i2:(q:Int)<(n:Int):=by omega
       have hqx:q<xs.length:=by have:=HN.out;omega
       obtain⟨ad,Bt,dt,rfl,-,c0,c1,c2,hd,hcl⟩:=HAT.out q hqx
       replace c0:=HXX.out.cell c0;replace c1:=HXX.out.cell c1;replace c2:=HXX.out.cell c2
       have hzx:=HZ.out.tms _ (jg hqx)
       have hzr:=HZ.out.rel _ (jg hqx)
       have hvt:=HS.out.at' _ (jg hqx)
       obtain⟨x,hxm⟩:=HM.out _ (jg hqx)
       have hrw:=HROWS.out _ (jg hqx)
       have hrn:=HRN.out _ (jg hqx)
       have htl:=HB1.out _ (jg hqx)
       have HPN:=zO (posQ_neg (xs:=xs) hqx);have HPP2:=zO (posQ_pos (xs:=xs) hqx)
       rw[←HP.out]at HPN HPP2
       obtain⟨a,ha⟩:∃a,a=xs[q]:=⟨_,rfl⟩
       (try simp only at hzx);(try simp only at hzr);(try simp only at hvt);(try simp only at hxm);(try simp only at hrw);(try simp only at hrn);(try simp only at htl)
       rw[←ha]at c0 c1 c2 hd hcl hzx hzr hvt hxm hrw hrn htl HPN HPP2
       obtain⟨ng,rl,ts⟩:=a
       simp only at c0 c1 c2 hd hcl hzx hzr hvt hxm hrw hrn htl HPN HPP2
       obtain⟨nt,hnt⟩:∃k,k=ts.length:=⟨_,rfl⟩
       have kx:=Bk.new X 49 [.bool ng,.string rl,.slice Bt ts.length dt]
       change Bk (X.alloc (.cells #[.bool ng,.string rl,.slice Bt ts.length dt] 49)) _ _ _ at kx
       have hx1:Ext X (X.alloc (.cells #[.bool ng,.string rl,.slice Bt ts.length dt] 49)):=(Ext.refl X).alloc _
       have g0:=kx.cell (i:=0) (by simp);have g1:=kx.cell (i:=1) (by simp);have g2:=kx.cell (i:=2) (by simp)
       simp only[ja,je]at g0 g1 g2
       have HR1:=zO (HR.out.ext hx1);have HBD1:=zO (HBD.out.ext hx1);have HF1:=zO (HFQ.out.ext hx1);have HX1:=zO (HXX.out.trans hx1)
       have HKB1:=zO ((HKB9.out.fr HFQ.out (by omega)).ext hx1);have HM1:=zO ((HM9.out.fr HFQ.out (by omega)).ext hx1)
       have HCS1:=zO ((HCS.out.fr HFQ.out (fun q hq e=>by omega)).ext hx1)
       have hX1s:=hx1.size
       rcases ng with _|_
       ·have HPP3:=zO (HPP2.out rfl)
        have hrd:rowsD M rl=x.rel.rows:=by unfold rowsD;rw[hxm];rfl
        have hnew:=newstep_any (Bl:=bndL vars P []) (ng:=false) (rl:=rl) (d:=dt) (HD.out.ext HX1.out) hxm hzr (hcl.ext HX1.out) HM1.out (nc:=i) (cc:=i) (C:=some ⟨gC,0,none⟩) (K:=fun q=>q<gB) (by have h:=HCS1.out;have e:List.range i=List.range vars.length:=(by rw[←HNV.out]);rw[e]at h;exact h) (ins_bk HBD1.out (bdC_len _ _).symm) (by rw[bdC_len,HNV.out]) (fun v hv=>by rw[bdC_at hv,bdP_mem];omega) hvt (fun t ht=>(hzx t ht).1) (by rw[←hrd];exact hrw) (by rw[←hrd];exact hrn) (fun c hc=>⟨HCD.out c hc,HZ.out.str c hc⟩) (by omega) (by have:=HNC.out;omega) (by have:=HNV.out;omega) (HTAB.out.fore HX1.out)
        have HNEW:=zO hnew
        have HXM:=zO hxm;have HRD:=zO hrd
        clear hnew hxm hrd hrw hrn hvt hzx hcl kx hx1
        go_upto_region 20 with fail
        generalize (X.alloc (.cells #[.bool false,.string rl,.slice Bt ts.length dt] 49))=X1 at *
        clear c0 c1 c2
        have b0:=HKB1.out.cell (i:=0) (by simp)
        simp only[ja,je]at b0
        go_wp2_with fail
        refine HNEW.out.mono ?_
        rintro e w9 ⟨he9,mb,u1,u2,u3,rfl,hrs⟩
        have hs9:rdSm.R (fun k=>w8.heap.size≤k∧(Value.slice As k9 cs).ownBlock≠some k) w9 [.map (some mb),u1,u2,u3,nilS] (smOf vars M cds (bndL vars P []) ⟨false,rl,ts⟩ []):=by
         have h1:=rdSm.mono (G:=fun k=>w8.heap.size≤k∧(Value.slice As k9 cs).ownBlock≠some k) hrs (fun k _ hk=>⟨by omega,fun e=>by have:=own_lt HR1.out.own e;omega⟩)
         rw[show smOf vars M cds (bndL vars P []) ⟨false,rl,ts⟩ []=(⟨x.rel.rows.filter (mtB vars ts cds (nsOf vars (bndL vars P []) ts)),(nsOf vars (bndL vars P []) ts).key,(nsOf vars (bndL vars P []) ts).bound,(nsOf vars (bndL vars P []) ts).fresh,(nsOf vars (bndL vars P []) ts).frm,[]⟩:Sm) from by unfold smOf;rw[HRD.out]]
         exact h1
        have hw9:X1.heap.size≤w9.heap.size:=he9.size
        have HS9:=zO hs9;have HR9:=zO (HR1.out.ext he9);have HBD9:=zO (HBD1.out.ext he9);have HF9:=zO (HF1.out.ext he9)
        obtain⟨j0,hi0,hz0,hz1,hz2⟩:=info_parts info_step
        have HJ0:=zO (And.intro hi0 (And.intro hz0 (And.intro hz1 hz2)));clear hi0 hz0 hz1 hz2
        clear hrs hs9 he9 g0 g1 g2 b0
        go_upto_region 22 with (first
         | (at_builtin;refine wpList_append_at rfl _ _ 215 rfl w8.heap.size 229 j0 (.agg #[.map none,nilS,nilS,nilS,nilS]) 5 104 Tryz.underlying215 HJ0.out.1 HJ0.out.2.1 HJ0.out.2.2.1 HJ0.out.2.2.2 rfl (by omega) (.slice As k9 cs) k9 css.flatten rfl (own_ext' HR9.out.own ((Ext.refl w9).alloc _)) ⟨w9.heap.size,0,none⟩ 1 1 [.map (some mb),u1,u2,u3,nilS] rfl rfl (laid_news w9 _ _) (sm_one HS9.out) (by simp only[maxLen];omega) (by omega) (by simp;omega) ?_;intro v10 w10 hr10 hg10 hl10;obtain⟨A10,c10,rfl⟩:=own_slice hr10;have hxa:=(Ext.refl w9).alloc (.cells #[.map (some mb),u1,u2,u3,nilS] 229);have HR10:=zO (Rw.more HR9.out hxa (rdSm.ext HS9.out hxa) hr10 hg10 hl10);have HBD10:=zO ((HBD9.out.ext hxa).fr (grown_fr hg10) (fun e=>by have:=own_ge HR9.out.own e;omega));have HF10:=zO ((HF9.out.ext hxa).grown hg10 (fun b hb=>.inr (own_ge HR9.out.own hb)));clear hr10 hg10 hl10 hxa))
        have hL:(smL vars M cds P []).length=k9:=by rw[smL_len,HK9.out]
        obtain⟨ad10,b10,A1,c1,A2,c2,A3,c3,A4,c4,e10,-,-,y2,-,-,hF10,hsm⟩:=(HR10.out.sl (by decide)).sm (i:=k9) (by rw[jl,hL];simp)
        rw[get_last hL]at y2 hsm
        subst e10
        obtain⟨bq,v1,v2,v3,v4,eq,-,-,-,hI2,-,-⟩:=hsm
        injection eq with eq1 eq2;injection eq2 with eq2 eq3;injection eq3 with eq3 eq4
        subst eq3
        clear eq1 eq2 eq4
        obtain⟨L,hL2⟩:∃L,L=(nsOf vars (bndL vars P []) ts).fresh:=⟨_,rfl⟩
        rw[show (smOf vars M cds (bndL vars P []) ⟨false,rl,ts⟩ []).fresh=L from hL2.symm]at y2 hI2
        have HLB:Hid (∀v∈L,v<i):=zO (fun v hv=>by
         rw[hL2]at hv
         obtain⟨-,t,ht,h1,rfl⟩:=(fresh_iff (fun t ht=>HS.out.at' _ (jg hqx) t (by rw[←ha];exact ht))).1 hv
         rw[HNV.out]
         exact pos_lt (HS.out.at' _ (jg hqx) t (by rw[←ha];exact ht) h1))
        have HL2:=zO hL2
        have hnfb:L.length≤1000:=by
         rw[hL2]
         exact js (nsAt_len (bndL vars P []) (numsN vars ts) ts.length).2.2.1 htl
        obtain⟨nf,hnf⟩:∃k,k=L.length:=⟨_,rfl⟩
        rw[←hnf]at hnfb
        rw[←hnf]at y2 hI2
        obtain⟨A2',c2',e2',-,hI2c⟩:=hI2
        injection e2' with e2a e2b e2c
        subst e2a
        have HI2:=zO hI2c;have HNF:=zO hnf
        have hw10:w8.heap.size≤w10.heap.size:=HF10.out.size
        clear hL hL2 hI2c e2b e2c hnf
        go_wp2_with fail
        clear y2
        go_loopw [98] (fun t wr=>∃p:Nat,p≤nf∧t=.int .i64 (p:Int)∧Hid (Bk wr gB 3 ((bdC i (fun v=>if v∈L.take p then k9+1 else bdP vars P v)).map I64))∧Hid (Fr (fun b=>b=gB) w10 wr)) (fun t _=>nf-(intOf t).toNat)
        case atStart=>exact⟨0,jn _,rfl,by simpa using HBD10,zO (Fr.refl _ _)⟩
        case round =>
         obtain⟨p,hp,rfl,HBP,HFP⟩:=hrel
         obtain⟨Y,rfl⟩:∃Y:World,Y=wr:=⟨_,rfl⟩
         by_cases hpl:p<nf
         ·have p1:(0:Int)≤(p:Int):=by omega
          have p2:(p:Int)<(nf:Int):=by omega
          have hpL:p<L.length:=by have:=HNF.out;omega
          obtain⟨adf,rfl,hfb,e0⟩:=HI2.out.int (i:=p) (by simpa using hpL)
          simp only[jy]at e0
          replace e0:=HFP.out.cell e0 (by rw[block_add];intro (e:adf.block=gB);have h9:w8.heap.size≤adf.block:=hfb;omega)
          have hvi:=HLB.out _ (jg hpL)
          have hset:=bdC_set (n:=i) (f:=fun v=>if v∈L.take p then k9+1 else bdP vars P v) (v:=L[p]) (k:=k9+1)
          have hfun:(fun u=>if u=L[p] then k9+1 else (if u∈L.take p then k9+1 else bdP vars P u))=(fun v=>if v∈L.take (p+1) then k9+1 else bdP vars P v):=by
           funext u
           by_cases h1:u=L[p]
           ·rw[if_pos h1,if_pos ((take_mem hpL u).2 (.inl h1))]
           ·rw[if_neg h1]
            by_cases h2:u∈L.take p
            ·rw[if_pos h2,if_pos ((take_mem hpL u).2 (.inr h2))]
            ·rw[if_neg h2,if_neg (fun h=>((take_mem hpL u).1 h).elim h1 h2)]
          rw[hfun]at hset
          obtain⟨u,hu⟩:∃u,u=L[p]:=⟨_,rfl⟩
          rw[←hu]at e0 hvi hset
          have HSET:=zO hset
          have v1:(0:Int)≤(u:Int):=by omega
          have v2:(u:Int)<(i:Int):=by omega
          have x0:=HBP.out.cell (i:=u) (by rw[jm,bdC_len];exact hvi)
          have x1:=HBP.out.free u
          obtain⟨y,hy⟩:∃y,some y=(Y.cell? ⟨gB,u,none⟩):=⟨_,x0.symm⟩
          have x2:=hy.symm
          clear hset hfun hu hpL hfb x0 hy
          go_wp2_with fail
          go_roundw
          case rel=>exact⟨p+1,by omega,by go_num,zO (by
           have h:=HBP.out.set u (.int .i64 ((k9+1:Nat):Int))
           rw[HSET.out]at h
           exact h),zO (HFP.out.setCell (p:=⟨gB,u,none⟩) (.inl rfl) _)⟩
          case measure=>simp[intOf];omega
         ·obtain rfl:p=nf:=by omega
          have hdp:¬(p:Int)<(p:Int):=by omega
          have hbd:(fun v=>if v∈L.take p then k9+1 else bdP vars P v)=bdP vars (posQ xs (q+1)):=by
           rw[HPP3.out,bdP_snoc,jo (by have:=HNF.out;omega),HL2.out,←HK9.out]
          have hfin:Rw rdSm Y w8.heap.size 229 (.slice (some ad10) (k9+1) c10) (posQ xs (q+1)).length (smL vars M cds (posQ xs (q+1)) []) (css++[[.map (some mb),u1,u2,u3,nilS]]):=by
           rw[HPP3.out,smL_snoc,jl,←HK9.out]
           exact HR10.out.fr HFP.out (fun b hb e=>by omega)
          have HFIN:=zO hfin;have HBDN:Hid (Bk Y gB 3 ((bdC i (bdP vars (posQ xs (q+1)))).map I64)):=zO (by rw[←hbd];exact HBP.out)
          clear hbd hfin
          go_wp2_with fail
          go_roundw
          case rel=>exact⟨q+1,_,by omega,by go_num,HFIN,HBDN,zO (HF10.out.trans HFP.out),zO (fun c hc=>by
           rcases jp.1 hc with hc|hc
           ·exact HNIL.out c hc
           ·rw[jt.1 hc];exact⟨_,_,_,_,rfl⟩)⟩
          case measure=>simp[intOf];omega
       ·have HPN2:=zO (HPN.out rfl)
        clear hxm hrw hrn hvt hzx hcl kx hx1
        go_upto_region 20 with fail
        generalize (X.alloc (.cells #[.bool true,.string rl,.slice Bt ts.length dt] 49))=X1 at *
        clear c0 c1 c2
        go_wp2_with fail
        go_roundw
        case rel=>exact⟨q+1,css,by omega,by go_num,zO (by rw[HPN2.out,←HK9.out];exact HR1.out),zO (by rw[HPN2.out];exact HBD1.out),HF1,HNIL⟩
        case measure=>simp[intOf];omega
      ·obtain rfl:q=n:=by omega
       have hdq:¬(q:Int)<(q:Int):=by omega
       obtain⟨R,hR⟩:∃R:Rl,R=⟨xs,cds⟩:=⟨_,rfl⟩
       have hPR:P=posL R:=by rw[HP.out,hR,←posQ_all];simp only;rw[←HN.out]
       subst hPR
       have HRR:=zO hR
       obtain⟨SS,hSS⟩:∃l,l=smL vars M cds (posL R) []:=⟨_,rfl⟩
       rw[←hSS]at HR
       have hSL:SS.length=k9:=by rw[hSS,smL_len,HK9.out]
       have hnots:∀s∈SS,s.nots=[]:=by
        rw[hSS]
        clear hSS hSL
        generalize posL R=l
        generalize ([]:List Nat)=B0
        induction l generalizing B0 with
        | nil=>intro s hs;simp[smL]at hs
        | cons a l ih =>
         intro s hs
         rcases jC.1 hs with rfl|hs
         ·rfl
         ·exact ih _ s hs
       have HNOTS:=zO hnots;have HSS:=zO hSS;have HSL:=zO hSL
       obtain⟨vS,hvS⟩:∃v,v=Value.slice As k9 cs:=⟨_,rfl⟩
       have hst0:StB X w8.heap.size (.slice As k9 cs) css SS (fun q=>(F q∧q<w.heap.size∨w.heap.size≤q)∧(Value.slice As k9 cs).ownBlock≠some q) (fun _=>nilS):=StB.of (F:=F) HR.out HNIL.out (fun k h1 h2=>⟨.inr (by omega),h2⟩) (fun q hq h=>h.2 hq)
       have hfm0:Fam rdNg X X.heap.size 220 (fun q=>(F q∧q<w.heap.size∨w.heap.size≤q)∧(Value.slice As k9 cs).ownBlock≠some q) (fun _=>nilS) (fun _=>[]) (ngP vars M R 0):=by rw[ngP_zero];exact Fam.nil _ _ _ _ _
       have hown0:∀q,(Value.slice As k9 cs).ownBlock=some q→w8.heap.size≤q∧q<X.heap.size:=fun q hq=>⟨own_ge HR.out.own hq,own_lt HR.out.own hq⟩
       have HOWN0:=zO hown0;have HST0:=zO hst0;have HFM0:=zO hfm0
       have HGN0:Hid (∀q,(F q∧q<w.heap.size)∨X.heap.size≤q→(F q∧q<w.heap.size∨w.heap.size≤q)∧(Value.slice As k9 cs).ownBlock≠some q):=zO (fun q hq=>by
        rcases hq with hq|hq
        ·exact⟨.inl hq,fun e=>by have:=hown0 q e;omega⟩
        ·exact⟨.inr (by omega),fun e=>by have:=hown0 q e;omega⟩)
       have HKA10:=zO (HKA9.out.fr HFQ.out (by omega));have HKB10:=zO (HKB9.out.fr HFQ.out (by omega));have HM10:=zO (HM9.out.fr HFQ.out (by omega))
       have HDM:=zO (HD.out.mono (G:=fun k=>F k∧k<w.heap.size) (fun k h1 h2=>⟨h2,h1⟩))
       have a0:=HKA10.out.cell (i:=0) (by simp)
       simp only[ja,je]at a0
       clear hvS hst0 hfm0 hown0 hSS hSL hnots hR HKA9 HKB9 HM9 HNIL HR
       go_wp2_with fail
       clear a0
       go_loopw [112,21] (fun t vF wr=>∃(p:Nat) (css:List (List Value)) (G:Nat→Prop) (val:Option Nat→Value) (us:Option Nat→List (List Value)),p≤q∧t=.int .i64 (p:Int)∧vF=val none∧Hid (StB wr w8.heap.size (.slice As k9 cs) css SS G val)∧Hid (Fam rdNg wr X.heap.size 220 G val us (ngP vars M R p))∧Hid (∀q,(F q∧q<w.heap.size)∨wr.heap.size≤q→G q)∧Hid (∀q,G q→(F q∧q<w.heap.size)∨w.heap.size≤q)∧Hid (Fr (fun b=>(Value.slice As k9 cs).ownBlock=some b) X wr)) (fun t _ _=>q-(intOf t).toNat)
       case atStart=>exact⟨0,_,_,_,_,jn _,rfl,rfl,HST0,HFM0,HGN0,zO (fun q hq=>hq.1),zO (Fr.refl _ _)⟩
       case round =>
        obtain⟨p,css,G,val,us,hp,rfl,rfl,HST,HFM,HGN,HGI,HFP⟩:=hrel
        obtain⟨Y,rfl⟩:∃Y:World,Y=wr:=⟨_,rfl⟩
        have HXY:=zO (HFP.out.new HXX.out (fun b hb=>by have:=(HOWN0.out b hb).1;omega))
        have hXY:X.heap.size≤Y.heap.size:=HFP.out.size
        by_cases hpl:p<q
        ·have i1:(0:Int)≤(p:Int):=by omega
         have i2:(p:Int)<(q:Int):=by omega
         have hpx:p<xs.length:=by have:=HN.out;omega
         obtain⟨ad,Bt,dt,rfl,-,c0,c1,c2,hd,hcl⟩:=HAT.out p hpx
         replace c0:=HXY.out.cell c0;replace c1:=HXY.out.cell c1;replace c2:=HXY.out.cell c2
         have hzx:=HZ.out.tms _ (jg hpx)
         have hzr:=HZ.out.rel _ (jg hpx)
         have hvt:=HS.out.at' _ (jg hpx)
         have htl:=HB1.out _ (jg hpx)
         have hla:=lastA_le HS.out (jg hpx)
         obtain⟨x,hxm⟩:=HM.out _ (jg hpx)
         obtain⟨a,ha⟩:∃a,a=xs[p]:=⟨_,rfl⟩
         have hra:R.ats[p]?=some a:=by rw[HRR.out,ha];exact jk hpx
         (try simp only at hzx);(try simp only at hzr);(try simp only at hvt);(try simp only at hxm);(try simp only at htl);(try simp only at hla)
         rw[←HRR.out]at hla
         rw[←ha]at c0 c1 c2 hd hcl hzx hzr hvt hxm htl hla
         have HNP:=zO (fun h=>ngP_pos' (vars:=vars) (M:=M) hra h);have HNN:=zO (fun h (o:Option Nat) (ho:lastA vars R a=idO o)=>ngP_neg' (vars:=vars) (M:=M) hra h ho)
         obtain⟨la,hlaE⟩:∃l,l=lastA vars R a:=⟨_,rfl⟩
         have HLA:=zO hlaE
         rw[←hlaE]at hla
         obtain⟨ng,rl,ts⟩:=a
         simp only at c0 c1 c2 hd hcl hzx hzr hvt hxm htl HNP HNN
         have kx:=Bk.new Y 49 [.bool ng,.string rl,.slice Bt ts.length dt]
         change Bk (Y.alloc (.cells #[.bool ng,.string rl,.slice Bt ts.length dt] 49)) _ _ _ at kx
         have hx1:Ext Y (Y.alloc (.cells #[.bool ng,.string rl,.slice Bt ts.length dt] 49)):=(Ext.refl Y).alloc _
         have g0:=kx.cell (i:=0) (by simp);have g1:=kx.cell (i:=1) (by simp);have g2:=kx.cell (i:=2) (by simp)
         simp only[ja,je]at g0 g1 g2
         have HST1:=zO (HST.out.ext hx1);have HFM1:=zO (HFM.out.ext hx1);have HFP1:=zO (HFP.out.ext hx1);have HX1:=zO (HXY.out.trans hx1)
         have hY1:=hx1.size
         rcases ng with _|_
         ·have HN2:=zO (HNP.out rfl)
          have HGN1:Hid (∀u,(F u∧u<w.heap.size)∨(Y.alloc (.cells #[.bool false,.string rl,.slice Bt ts.length dt] 49)).heap.size≤u→G u):=zO (fun u hu=>HGN.out u (hu.imp_right (fun h=>by omega)))
          clear kx hx1 hxm hvt hzx hcl hlaE hra ha
          go_upto_region 32 with fail
          generalize (Y.alloc (.cells #[.bool false,.string rl,.slice Bt ts.length dt] 49))=Y1 at *
          clear c0 c1 c2
          go_wp2_with fail
          go_roundw
          case rel=>exact⟨p+1,css,G,val,us,by omega,by go_num,by trivial,HST1,zO (by rw[HN2.out];exact HFM1.out),HGN1,HGI,HFP1⟩
          case measure=>simp[intOf];omega
         ·have HN3:=zO (HNN.out rfl)
          have hownS:∀u,(Value.slice As k9 cs).ownBlock=some u→u<X.heap.size:=fun u hu=>(HOWN0.out u hu).2
          have HKBY:=zO ((HKB10.out.fr HFP.out (fun e=>by have:=(HOWN0.out _ e).1;omega)).ext hx1);have HMY:=zO ((HM10.out.fr HFP.out (fun e=>by have:=(HOWN0.out _ e).1;omega)).ext hx1)
          have HBDY:=zO ((HBD.out.fr HFP.out (fun e=>by have:=(HOWN0.out _ e).1;omega)).ext hx1)
          have HNEG:=zO (newneg_any (ng:=true) (d:=dt) (num:=numN vars) (HDM.out.ext HX1.out) hxm hzr (hcl.ext HX1.out) htl HMY.out (fun t ht=>⟨(hzx t ht).1,numF_get vars t.var⟩))
          have HNG0:Hid (ngOf vars M ⟨true,rl,ts⟩=⟨x.rel.ar,x.rel.rows,numsN vars ts,ts.map Tm.vl⟩):=zO (by unfold ngOf rowsD;simp only;rw[hxm];rfl)
          have HVT:=zO hvt
          obtain⟨nr,hnr⟩:∃k,k=x.rel.rows.length:=⟨_,rfl⟩
          obtain⟨ra,hra2⟩:∃k,k=x.rel.ar:=⟨_,rfl⟩
          obtain⟨nt,hnt⟩:∃k,k=ts.length:=⟨_,rfl⟩
          rw[←hnt]at g0 g1 g2 htl HNEG HX1 HST1 HFM1 HFP1 HKBY HMY HBDY hY1
          have HNT:=zO hnt;have HNR:=zO hnr;have HRA:=zO hra2
          clear hxm hvt hzx hcl hx1 hlaE hra ha HNP HNN
          rw[←hnt]at kx c2
          clear hnt hnr hra2
          go_upto_region 32 with fail
          generalize (Y.alloc (.cells #[.bool true,.string rl,.slice Bt nt dt] 49))=Y1 at *
          clear c0 c1 c2 kx
          have b0:=HKBY.out.cell (i:=0) (by simp)
          simp only[ja,je]at b0
          go_wp2_with fail
          refine HNEG.out.mono ?_
          rintro e Y2 ⟨he2,Ar,cr,u,v,rfl,hsr,hou,hov⟩
          rw[←HNR.out]at hsr ⊢
          rw[←HRA.out]
          obtain⟨Au,cu,rfl⟩:=own_slice hou
          obtain⟨Av,cv3,rfl⟩:=own_slice hov
          rw[←HNT.out]at hou hov ⊢
          have hng:rdNg.R G Y2 [.int .i64 ra,.slice Ar nr cr,.slice Au nt cu,.slice Av nt cv3] (ngOf vars M ⟨true,rl,ts⟩):=by
           rw[HNG0.out]
           exact⟨_,_,_,by rw[←HRA.out],hsr.mono (by decide) (fun u _ hu=>HGN.out u (.inl hu)),(Ins.of_own hou).mono (fun u _ hu=>HGN.out u (.inr (by omega))),(own_vls hov).mono (by decide) (fun u _ hu=>HGN.out u (.inr (by omega)))⟩
          have hzs:=(Ins.of_own hou).ext ((Ext.refl Y2).alloc (.cells #[.int .i64 ra,.slice Ar nr cr,.slice Au nt cu,.slice Av nt cv3] 220))
          have hx3:=he2.trans ((Ext.refl Y2).alloc (.cells #[.int .i64 ra,.slice Ar nr cr,.slice Au nt cu,.slice Av nt cv3] 220))
          have HST3:=zO (HST1.out.ext hx3);have HFM3:=zO (HFM1.out.ext hx3);have HFP3:=zO (HFP1.out.ext hx3);have HBD3:=zO (HBDY.out.ext hx3)
          have HNG3:=zO (rdNg.ext hng ((Ext.refl Y2).alloc (.cells #[.int .i64 ra,.slice Ar nr cr,.slice Au nt cu,.slice Av nt cv3] 220)))
          have hy2:=he2.size
          have kn:=Bk.new Y2 220 [.int .i64 ra,.slice Ar nr cr,.slice Au nt cu,.slice Av nt cv3]
          change Bk (Y2.alloc (.cells #[.int .i64 ra,.slice Ar nr cr,.slice Au nt cu,.slice Av nt cv3] 220)) _ _ _ at kn
          have HKN:=zO kn
          have n2:=kn.cell (i:=2) (by simp)
          simp only[ja,je]at n2
          have hnlt:=kn.lt
          clear g0 g1 g2 b0 hng hsr hou hov he2 kn hx3
          go_upto_region 34 with fail
          obtain⟨gn,hgn⟩:∃g,g=Y2.heap.size:=⟨_,rfl⟩
          rw[←hgn]at n2 HKN hnlt ⊢
          generalize (Y2.alloc (.cells #[.int .i64 ra,.slice Ar nr cr,.slice Au nt cu,.slice Av nt cv3] 220))=Y3 at *
          have hXn:X.heap.size≤gn:=by omega
          have hYn:Y.heap.size≤gn:=by omega
          clear hgn
          obtain⟨Au',cu',ez,-,hzc⟩:=hzs
          injection ez with ez1 ez2 ez3
          subst ez1
          have hzc2:Cl _ Y3 Au ((numsN vars ts).map I64):=hzc
          have HZC:=zO hzc2;have HEZ:=zO ez2
          clear hzc2
          clear hzc ez2 ez3
          go_wp2_with fail
          clear n2
          go_loopw [126,25] (fun t l wr=>∃j:Nat,j≤nt∧t=.int .i64 (j:Int)∧l=.int .i64 ((lastN (bdP vars (posL R)) ((numsN vars ts).take j) 0:Nat):Int)∧Y3=wr) (fun t _ _=>nt-(intOf t).toNat)
          case atStart=>exact⟨0,jn _,rfl,rfl,by trivial⟩
          case round =>
           obtain⟨j,hj,rfl,rfl,rfl⟩:=hrel
           by_cases hjt:j<nt
           ·have j1:(0:Int)≤(j:Int):=by omega
            have j2:(j:Int)<(nt:Int):=by omega
            have hjl:j<(numsN vars ts).length:=by have:=HNT.out;simp[numsN];omega
            have hjs:j<ts.length:=by have:=HNT.out;omega
            obtain⟨adz,rfl,-,z0⟩:=HZC.out.int hjl
            have hst:=lastN_snoc (bdP vars (posL R)) (numsN vars ts)[j] ((numsN vars ts).take j) 0
            rw[←jj hjl]at hst
            have hvr:(numsN vars ts)[j]<0∨∃u:Nat,(numsN vars ts)[j]=(u:Int)∧u<i:=by
             have e:(numsN vars ts)[j]=numN vars ts[j].var:=by simp[numsN]
             rw[e]
             by_cases h0:ts[j].var=⟨#[]⟩
             ·left;have:numN vars ts[j].var = -1:=if_pos h0
              omega
             ·right
              have hm:=HVT.out _ (jg hjs) h0
              exact⟨_,num_var h0 hm,by rw[HNV.out];exact pos_lt hm⟩
            obtain⟨v,hv⟩:∃v,v=(numsN vars ts)[j]:=⟨_,rfl⟩
            rw[←hv]at z0 hst hvr
            obtain⟨l1,hl1⟩:∃l,l=lastN (bdP vars (posL R)) ((numsN vars ts).take j) 0:=⟨_,rfl⟩
            rw[←hl1]at hst ⊢
            have HST9:=zO hst
            clear hv hst hl1 hjl hjs
            rcases hvr with hneg|⟨u,rfl,hui⟩
            ·have n0:¬(0:Int)≤v:=by omega
             have HL:Hid (lastN (bdP vars (posL R)) ((numsN vars ts).take (j+1)) 0=l1):=zO (by rw[HST9.out,if_pos hneg])
             clear hneg
             go_wp2_with fail
             go_roundw
             case rel=>exact⟨j+1,by omega,by go_num,by rw[HL.out],by trivial⟩
             case measure=>simp[intOf];omega
            ·have u0:(0:Int)≤(u:Int):=by omega
             have u2:(u:Int)<(i:Int):=by omega
             have b1:=HBD3.out.cell (i:=u) (by rw[jm,bdC_len];exact hui)
             rw[jy,bdC_at]at b1
             simp only[I64]at b1
             have HL:Hid (lastN (bdP vars (posL R)) ((numsN vars ts).take (j+1)) 0=max l1 (bdP vars (posL R) u)):=zO (by rw[HST9.out,if_neg (by omega),jO])
             obtain⟨bu,hbu⟩:∃x,x=bdP vars (posL R) u:=⟨_,rfl⟩
             rw[←hbu]at b1 HL
             clear hbu
             go_wp2_with fail
             go_roundw
             case rel=>exact⟨j+1,by omega,by go_num,by rw[HL.out];congr 1;omega,by trivial⟩
             case measure=>simp[intOf];omega
           ·obtain rfl:j=nt:=by omega
            have hdj:¬(j:Int)<(j:Int):=by omega
            have hle:lastN (bdP vars (posL R)) ((numsN vars ts).take j) 0=la:=by
             rw[jo (by have:=HNT.out;simp[numsN];omega),HLA.out]
             rfl
            rw[hle]
            have hnb:=ngP_len vars M R p
            have hpb:p≤100:=by omega
            obtain⟨j0,hi0,hz0,hz1,hz2⟩:=info_parts info_neg
            have HJ0:=zO (And.intro hi0 (And.intro hz0 (And.intro hz1 hz2)));clear hi0 hz0 hz1 hz2
            have n0:=HKN.out.cell (i:=0) (by simp);have n1:=HKN.out.cell (i:=1) (by simp);have n2:=HKN.out.cell (i:=2) (by simp);have n3:=HKN.out.cell (i:=3) (by simp)
            simp only[ja,je]at n0 n1 n2 n3
            have hX3:X.heap.size≤Y3.heap.size:=by omega
            clear hle
            by_cases hla0:la=0
            ·have HN4:=zO (HN3.out none (by rw[←HLA.out,hla0];rfl))
             subst hla0
             have hof:=HFM3.out.own none
             obtain⟨Af,cf,ef⟩:=own_slice hof
             rw[ef]at hof ⊢
             have HEF:=zO ef
             have hnf2:=hnb none
             obtain⟨nf,hnf⟩:∃k,k=(ngP vars M R p none).length:=⟨_,rfl⟩
             rw[←hnf]at hof HEF hnf2 ⊢
             have HNF:=zO hnf;have HOF:=zO hof
             clear hof ef hnf hnb
             go_wp2_with (first
              | (at_builtin;refine wpList_append_at rfl _ _ 216 rfl X.heap.size 220 j0 (.agg #[.int .i64 0,nilS,nilS,nilS]) 4 80 Tryz.underlying216 HJ0.out.1 HJ0.out.2.1 HJ0.out.2.2.1 HJ0.out.2.2.2 rfl (by omega) (.slice Af nf cf) nf (us none).flatten rfl (own_ext' HOF.out ((Ext.refl Y3).alloc _)) ⟨Y3.heap.size,0,none⟩ 1 1 [.int .i64 ra,.slice Ar nr cr,.slice Au j cu,.slice Av j cv3] rfl rfl (laid_news Y3 _ _) (ng_one HNG3.out) (by simp only[maxLen];omega) (by omega) (by simp;omega) ?_;intro v9 w9 hr9 hg9 hl9;have hxa:=(Ext.refl Y3).alloc (.cells #[.int .i64 ra,.slice Ar nr cr,.slice Au j cu,.slice Av j cv3] 220);have hfp:=HFM3.out.push (o:=none) hxa (by rw[←HNF.out];exact hr9) (HEF.out.symm ▸ hg9) (HEF.out.symm ▸ hl9) (rdNg.ext HNG3.out hxa);have hsp:=HST3.out.beside hxa HOF.out (by decide) (fun q e=>HFM3.out.out none q (by rw[HEF.out];exact e)) hg9 hl9;have hp9:=(HFP3.out.ext hxa).grown hg9 (fun b hb=>.inr (own_ge HOF.out hb));have hle9:=(fun (u:Nat) (e:v9.ownBlock=some u)=>own_lt hr9 e);have hlt9:=js hxa.size hg9.size;have hge9:=(fun (u:Nat) (e:v9.ownBlock=some u)=>own_ge hr9 e);have HFP9:=zO hfp;have HSP9:=zO hsp;have HP9:=zO hp9;have HLE9:=zO hle9;have HGE9:=zO hge9;clear hr9 hl9 hxa hfp hsp hg9 hp9 hle9 hge9))
             have hneS:∀u,(Value.slice As k9 cs).ownBlock=some u→v9.ownBlock≠some u:=fun u hu e=>by
              have h1:=(HOWN0.out u hu).2
              have h2:=HGE9.out _ e
              omega
             have hst9:=HSP9.out.atFirst (v9:=v9)
             have HST9:=zO hst9
             go_roundw
             case rel=>exact⟨p+1,css,_,_,_,by omega,by go_num,by rw[updI_same],HST9,zO (by rw[HN4.out];exact HFP9.out),zO (fun u hu=>⟨HGN.out u (hu.imp_right (fun h=>by omega)),fun e=>by
              rcases hu with hu|hu
              ·have:=HGE9.out _ e;omega
              ·have:=HLE9.out _ e;omega⟩),zO (fun u hu=>HGI.out u hu.1),HP9⟩
             case measure=>simp[intOf];omega
            ·obtain⟨s,hs⟩:∃s,la=s+1:=⟨la-1,by omega⟩
             subst hs
             have HN4:=zO (HN3.out (some s) (by rw[←HLA.out];rfl))
             have hsk:s<k9:=by have:=HK9.out;omega
             have hof:=HFM3.out.own (some s)
             obtain⟨Af,cf,ef⟩:=own_slice hof
             rw[ef]at hof
             have HEF:=zO ef
             have hnf2:=hnb (some s)
             obtain⟨nf,hnf⟩:∃k,k=(ngP vars M R p (some s)).length:=⟨_,rfl⟩
             rw[←hnf]at hof HEF hnf2
             have HNF:=zO hnf;have HOF:=zO hof
             have hkk:k9=SS.length:=HSL.out.symm
             obtain⟨adS,eS⟩:∃g,As=some (⟨g,0,none⟩:Addr):=by
              rcases HST3.out.own.2 with ⟨e,e2⟩|⟨g,cap,cur,e,-⟩
              ·injection e with e e3
               have:=hsk
               omega
              ·injection e with e
               exact⟨g,e⟩
             subst eS
             obtain⟨bS,w1,w2',w3',eC,-⟩:=HST3.out.rd s (by rw[HSL.out];exact hsk) (by rw[HST3.out.len,HSL.out];exact hsk)
             have hcel:Y3.cell? ⟨adS,s*5+4,none⟩=some (.slice Af nf cf):=by
              have h1:=(Cl.of_own HST3.out.own)
              obtain⟨A0,c0,e0,-,hcl⟩:=h1
              injection e0 with e0
              subst e0
              have h2:=flat_get HST3.out.all (i:=s) (j:=4) (by rw[HST3.out.len,HSL.out];exact hsk) (by decide)
              rw[eC]at h2
              obtain⟨ad,e3,-,h4⟩:=hcl.at' (h2.trans (by simp[HEF.out];rfl))
              injection e3 with e3
              subst e3
              rw[add_zero']at h4
              exact h4
             have s1:=(Ext.refl Y3).drew.cell hcel
             have s2:=((Ext.refl Y3).alloc (.cells #[.int .i64 ra,.slice Ar nr cr,.slice Au j cu,.slice Av j cv3] 220)).cell hcel
             have s3:=((Ext.refl Y3).alloc (.cells #[.int .i64 ra,.slice Ar nr cr,.slice Au j cu,.slice Av j cv3] 220)).drew.cell hcel
             have j1:(0:Int)≤(s:Int):=by omega
             have j2:(s:Int)<(k9:Int):=by omega
             have e1:IntKind.i64.wrap (((s+1:Nat):Int)-1)=(s:Int):=by
              rw[show ((s+1:Nat):Int)-1=(s:Int) by omega]
              exact IntWalk.i64_in _ (by omega)
             have ew:IntKind.i64.wrap (s:Int)=(s:Int):=IntWalk.i64_in _ (by omega)
             have e0:(((s+1:Nat):Int) == 0)=false:=by simp;omega
             clear hof ef hnf hnb eC hkk hla0
             go_upto_region 42 with fail
             go_region_law (first
              | (refine step_append_at (by rfl) _ _ _ (by rfl) X.heap.size 220 j0 (.agg #[.int .i64 0,nilS,nilS,nilS]) 4 80 Tryz.underlying216 HJ0.out.1 HJ0.out.2.1 HJ0.out.2.2.1 HJ0.out.2.2.2 rfl (by omega) (.slice Af nf cf) nf (us (some s)).flatten (by rfl) (by refine own_ext' HOF.out ?_;repeat (first|exact Ext.refl _|refine Ext.drew ?_|refine Ext.alloc ?_ _)) ⟨Y3.heap.size,0,none⟩ 1 1 [.int .i64 ra,.slice Ar nr cr,.slice Au j cu,.slice Av j cv3] (by rfl) (by rfl) (by exact laid_news Y3 _ _) (by exact ng_one HNG3.out) (by simp only[maxLen];omega) (by omega) (by simp;omega) ?_;intro v9 w9 hr9 hg9 hl9;obtain⟨A9,c9,rfl⟩:=own_slice hr9;have hfp:=HFM3.out.push (o:=some s) (by (repeat (first|exact Ext.refl _|refine Ext.drew ?_|refine Ext.alloc ?_ _))) (by rw[←HNF.out];exact hr9) (HEF.out.symm ▸ hg9) (HEF.out.symm ▸ hl9) (by refine rdNg.ext HNG3.out ?_;repeat (first|exact Ext.refl _|refine Ext.drew ?_|refine Ext.alloc ?_ _));have hsp:=HST3.out.beside (by (repeat (first|exact Ext.refl _|refine Ext.drew ?_|refine Ext.alloc ?_ _))) HOF.out (by decide) (fun q e=>HFM3.out.out (some s) q (by rw[HEF.out];exact e)) hg9 hl9;have hp9:=(HFP3.out.ext (by (repeat (first|exact Ext.refl _|refine Ext.drew ?_|refine Ext.alloc ?_ _)))).grown hg9 (fun b hb=>.inr (own_ge HOF.out hb));have hle9:=(fun (u:Nat) (e:(Value.slice A9 (nf+1) c9).ownBlock=some u)=>own_lt hr9 e);have hlt9:Y3.heap.size≤w9.heap.size:=js (by simp) hg9.size;have hge9:=(fun (u:Nat) (e:(Value.slice A9 (nf+1) c9).ownBlock=some u)=>own_ge hr9 e);have hso:w9.ownsRow w8.heap.size 229 5 (.slice (some ⟨adS,0,none⟩) k9 cs) k9 css.flatten:=(by have h:=hsp.own;rw[HSL.out]at h;exact h);obtain⟨⟨y9,t9⟩,g9⟩:=own_cellS hso (i:=s*5+4) (by omega);have HFP9:=zO hfp;have HSP9:=zO hsp;have HP9:=zO hp9;have HLE9:=zO hle9;have HGE9:=zO hge9;clear hr9 hl9 hfp hsp hg9 hp9 hle9 hge9))
             all_goals
              have hst9:StB (w9.setCell ⟨adS,s*5+4,none⟩ (.slice A9 (nf+1) c9)) w8.heap.size (.slice (some ⟨adS,0,none⟩) k9 cs) (css.set s ((css[s]'(by rw[HST3.out.len,HSL.out];exact hsk)).set 4 (.slice A9 (nf+1) c9))) SS (fun u=>G u∧(Value.slice A9 (nf+1) c9).ownBlock≠some u) (updI val (some s) (.slice A9 (nf+1) c9)):=StB.put' HSL.out HSP9.out hsk (by rw[HST3.out.len,HSL.out];exact hsk)
              have hfrS:Fr (fun u=>u=adS) w9 (w9.setCell ⟨adS,s*5+4,none⟩ (.slice A9 (nf+1) c9)):=(Fr.refl (fun u=>u=adS) w9).setCell (p:=⟨adS,s*5+4,none⟩) (.inl rfl) _
              have hfm9:=HFP9.out.fr hfrS (fun o u hu e=>own_ne (HFP9.out.own o) HSP9.out.own (by decide) hu (by rw[e];rfl)) (fun u hu e=>HSP9.out.out u (by rw[e];rfl) hu)
              have hp10:=HP9.out.trans (hfrS.mono (T:=fun b=>(Value.slice (some (⟨adS,0,none⟩:Addr)) k9 cs).ownBlock=some b) (fun u _ e=>by rw[e];rfl))
              have HST9:=zO hst9;have HFM9:=zO hfm9;have HP10:=zO hp10
              have hw10:w9.heap.size≤(w9.setCell ⟨adS,s*5+4,none⟩ (.slice A9 (nf+1) c9)).heap.size:=hfrS.size
              clear hst9 hfrS hfm9 hp10 s1 s2 s3 hcel t9 g9 n0 n1 n2 n3 e1 ew e0
              go_wp2_with fail
              go_roundw
              case rel=>exact⟨p+1,_,_,_,_,by omega,by go_num,by rw[updI_ne (by simp)],HST9,zO (by rw[HN4.out];exact HFM9.out),zO (fun u hu=>⟨HGN.out u (hu.imp_right (fun h=>by omega)),fun e=>by
               rcases hu with hu|hu
               ·have:=HGE9.out _ e;omega
               ·have:=HLE9.out _ e;omega⟩),zO (fun u hu=>HGI.out u hu.1),HP10⟩
              case measure=>simp[intOf];omega
        ·obtain rfl:p=q:=by omega
         have hdp:¬(p:Int)<(p:Int):=by omega
         have hall:∀o,ngP vars M R p o=(negK vars R (idO o)).map (ngOf vars M):=fun o=>by
          rw[show p=R.ats.length from by rw[HRR.out];exact HN.out]
          exact ngP_all R o
         have hfin:=HST.out.fin (K:=fun u=>F u∨w.heap.size≤u) HFM.out HNOTS.out (fun u hu=>(HGI.out u hu).imp_left (fun h=>h.1)) (fun u hu=>.inr (by omega)) (fun u hu=>.inr (by omega))
         have hsl:=HFM.out.sl (K:=fun u=>F u∨w.heap.size≤u) (by decide) none (fun u hu=>(HGI.out u hu).imp_left (fun h=>h.1)) (fun u hu=>.inr (by omega))
         rw[hall none]at hsl
         have hsm:(SS.zipIdx.map (fun t=>({ t.1 with nots:=ngP vars M R p (some t.2) }:Sm)))=smF vars M R:=by
          unfold smF
          rw[HSS.out,show R.cds=cds from by rw[HRR.out]]
          refine jU (fun t _=>?_)
          rw[hall (some t.2)]
          rfl
         rw[hsm]at hfin
         obtain⟨Af,cf,ef⟩:=hsl.sl
         rw[jm]at ef
         rw[ef]at hsl ⊢
         have hcap:=hfin.cap.1
         have HPOST:Hid (PP (.returned (.tuple #[.slice As k9 cs,.slice Af (negK vars R (idO none)).length cf])) Y):=zO (by
          rw[HPP.out]
          refine⟨HXY.out,As,cs,Af,cf,?_,?_,?_⟩
          ·rw[←HRR.out,←hcap,jm]
           rfl
          ·rw[←HRR.out,←hcap]
           exact hfin
          ·rw[←HRR.out,jm]
           exact hsl)
         clear hall hfin hsl hsm ef hcap
         go_wp2_with fail
         exact HPOST.out
