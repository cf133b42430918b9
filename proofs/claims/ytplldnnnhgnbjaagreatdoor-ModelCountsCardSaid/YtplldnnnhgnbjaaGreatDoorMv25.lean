/- packed -/
import Derived.Test.YtplldnnnhgnbjaaGreatDoorMv24
namespace Go.Proofs.YtplldnnnhgnbjaaGreatDoor
open Go.RowKit Go.Maps
theorem info_cds:(Tryz.prog.info? 44).map (fun i=>(i.zero,i.size,i.bytes))=some (some (.slice none 0 0),1,24):=by kernel_rfl
theorem info_cond:(Tryz.prog.info? 53).map (fun i=>(i.zero,i.size,i.bytes))=some (some (.agg #[.string ⟨#[]⟩,.int .i64 0,.int .i64 0,.int .i64 0,.string ⟨#[]⟩]),5,56):=by kernel_rfl
theorem info_step:(Tryz.prog.info? 229).map (fun i=>(i.zero,i.size,i.bytes))=some (some (.agg #[.map none,aB,aB,aB,aB]),5,104):=by kernel_rfl
theorem info_neg:(Tryz.prog.info? 220).map (fun i=>(i.zero,i.size,i.bytes))=some (some (.agg #[.int .i64 0,aB,aB,aB]),4,80):=by kernel_rfl
theorem Cl.of_bk{F:Nat→Prop}{w:World}{g:Nat}{t:TypeId}{xs:List Value}(h:Bk w g t xs)(hF:F g):Cl F w (some ⟨g,0,none⟩) xs:=.inr ⟨_,rfl,hF,fun j hj=>by rw[cJ];exact h.cell hj⟩
theorem ins_bk{w:World}{g n:Nat}{t:TypeId}{l:List Int}(h:Bk w g t (l.map I64))(hn:n=l.length):Ins (fun q=>q=g) w (.slice (some ⟨g,0,none⟩) n n) l:=⟨_,n,by rw[hn],by omega,Cl.of_bk h rfl⟩
structure CoB(w:World)(base gC nv:Nat)(cds:List Cd)(vars:List ByteArray)(val:Nat→Value)(us:Nat→List (List Value)):Prop where
 box:Bk w gC 44 ((List.range nv).map val)
 fam:Fam eL w base 53 (fun _=>False) val us (bK vars cds)
theorem CoB.sl{w:World}{base gC nv:Nat}{cds:List Cd}{vars:List ByteArray}{val:Nat→Value}{us:Nat→List (List Value)}(h:CoB w base gC nv cds vars val us)(hg:gC≤base):Sl nQ (fun q=>gC≤q) w (.slice (some ⟨gC,0,none⟩) nv nv) ((List.range nv).map (bK vars cds)):=by
 refine⟨_,nv,by rw[jk,List.length_range],by simp,fun i hi=>?_⟩
 have se:i<nv:=by simpa using hi
 refine⟨_,[val i],rfl,jo _,⟨_,rfl,?_⟩,fun j hj=>?_⟩
 ·rw[jy,zK]
  exact h.fam.sl (K:=fun q=>gC≤q) (by decide) i (fun q hq=>hq.elim) (fun q hq=>jr hg hq)
 ·obtain rfl:j=0:=by simpa using hj
  rw[cJ]
  have:=h.box.cell (i:=i) (by simpa using se)
  simpa [nQ] using this
theorem CoB.fr{S:Nat→Prop}{w w':World}{base gC nv:Nat}{cds:List Cd}{vars:List ByteArray}{val:Nat→Value}{us:Nat→List (List Value)}(h:CoB w base gC nv cds vars val us)(hf:Fr S w w')(hg:¬S gC)(hs:∀q,base≤q→¬S q):CoB w' base gC nv cds vars val us:=⟨h.box.fr hf hg,h.fam.fr hf (fun o q hq=>hs q (aw (h.fam.own o) hq)) (fun _ h=>h.elim)⟩
theorem CoB.ext{w w':World}{base gC nv:Nat}{cds:List Cd}{vars:List ByteArray}{val:Nat→Value}{us:Nat→List (List Value)}(h:CoB w base gC nv cds vars val us)(he:Ext w w'):CoB w' base gC nv cds vars val us:=h.fr (he.fr (fun _=>False)) (fun h=>h) (fun _ _ h=>h)
theorem cdsAt_snoc{vars:List ByteArray}{cds:List Cd}{c:Cd}{u:Nat}(h:dl vars c.var=(u:Int)):bK vars (cds++[c])=gL (bK vars cds) u (bK vars cds u++[c]):=by
 funext v
 unfold gL bK
 rw[jK]
 by_cases hv:v=u
 ·subst hv
  rw[if_pos rfl]
  simp[h]
 ·rw[if_neg hv]
  have:¬dl vars c.var=(v:Int):=fun e=>hv (by omega)
  simp[this]
theorem cdsAt_skip{vars:List ByteArray}{cds:List Cd}{c:Cd}(h:dl vars c.var<0):bK vars (cds++[c])=bK vars cds:=by
 funext v
 unfold bK
 rw[jK]
 have:¬dl vars c.var=(v:Int):=fun e=>by omega
 simp[this]
theorem range_set{f:Nat→Value}{n v:Nat}{y:Value}:((List.range n).map f).set v y=(List.range n).map (gL f v y):=by
 refine List.ext_getElem? (fun i=>?_)
 rw[List.getElem?_set]
 simp only[List.getElem?_map,jk,List.length_range]
 unfold gL
 by_cases h:v=i
 ·subst h
  rw[if_pos rfl]
  by_cases hv:v<n
  ·rw[if_pos hv,jl (by simpa using hv)]
   simp
  ·rw[if_neg hv,zo (by simp;omega)]
   rfl
 ·rw[if_neg h]
  rcases jz i n with hi|hi
  ·rw[jl (by simpa using hi)]
   simp only[zK,Option.map_some]
   rw[if_neg (fun e=>h e.symm)]
  ·rw[zo (by simpa using hi)]
   rfl
theorem CoB.push{w wb w9:World}{base gC nv v:Nat}{cds:List Cd}{c:Cd}{vars:List ByteArray}{val:Nat→Value}{us:Nat→List (List Value)}{v9:Value}(h:CoB w base gC nv cds vars val us)(he:Ext w wb)(hc:dl vars c.var=(v:Int))(sg:gC<base)(hr:w9.ownsRow base 53 5 v9 ((bK vars cds v).length+1) ((us v).flatten++c.cells))(hg:wb.grownBy w9 (val v).ownBlock)(hl:df wb (val v) v9):Bk w9 gC 44 ((List.range nv).map val)∧CoB (w9.setCell ⟨gC,v,none⟩ v9) base gC nv (cds++[c]) vars (gL val v v9) (gL us v (us v++[c.cells])):=by
 have se:Bk w9 gC 44 ((List.range nv).map val):=(h.box.ext he).fr (am hg) (fun e=>by have:=aw (h.fam.own v) e;omega)
 refine⟨se,?_,?_⟩
 ·rw[←range_set]
  exact se.set v v9
 ·have h1:=h.fam.push he (o:=v) hr hg hl (show eL.R (fun _=>False) wb c.cells c from rfl)
  rw[cdsAt_snoc hc]
  have h2:=h1.fr ((Fr.refl (fun k=>k=gC) w9).setCell (p:=⟨gC,v,none⟩) (.inl rfl) v9) (fun o q hq e=>by have:=aw (h1.own o) hq;omega) (fun q hq=>hq.1.elim)
  exact h2.less (fun q _ hq=>hq.1) (fun o q _ hq=>hq)
structure StB(w:World)(base:Nat)(vS:Value)(css:List (List Value))(ss:List Sm)(G:Nat→Prop)(val:Option Nat→Value):Prop where
 own:w.ownsRow base 229 5 vS ss.length css.flatten
 len:css.length=ss.length
 rd:∀i (h:i<ss.length) (h':i<css.length),∃b u1 u2 u3,css[i]=[.map (some b),u1,u2,u3,val (some i)]∧fo.R G w [.map (some b),u1,u2,u3,aB] ss[i]
 out:∀q,vS.ownBlock=some q→¬G q
theorem StB.all{w:World}{base:Nat}{vS:Value}{css:List (List Value)}{ss:List Sm}{G:Nat→Prop}{val:Option Nat→Value}(h:StB w base vS css ss G val):∀cs∈css,cs.length=5:=fun cs se=>by
 obtain⟨i,hi,rfl⟩:=jx se
 obtain⟨b,u1,u2,u3,e,-⟩:=h.rd i (by rw[←h.len];exact hi) hi
 rw[e]
 rfl
theorem StB.fr{S:Nat→Prop}{w w':World}{base:Nat}{vS:Value}{css:List (List Value)}{ss:List Sm}{G:Nat→Prop}{val:Option Nat→Value}(h:StB w base vS css ss G val)(hf:Fr S w w')(h1:∀q,vS.ownBlock=some q→¬S q)(h2:∀q,G q→¬S q):StB w' base vS css ss G val :=
 ⟨bo h.own hf h1,h.len,fun i hi h'=>let ⟨b,u1,u2,u3,e,hr⟩:=h.rd i hi h';⟨b,u1,u2,u3,e,fo.fr hr hf h2⟩,h.out⟩
theorem StB.ext{w w':World}{base:Nat}{vS:Value}{css:List (List Value)}{ss:List Sm}{G:Nat→Prop}{val:Option Nat→Value}(h:StB w base vS css ss G val)(he:Ext w w'):StB w' base vS css ss G val:=h.fr (he.fr (fun _=>False)) (fun _ _ h=>h) (fun _ _ h=>h)
theorem StB.less{w:World}{base:Nat}{vS:Value}{css:List (List Value)}{ss:List Sm}{G G':Nat→Prop}{val:Option Nat→Value}(h:StB w base vS css ss G val)(hg:∀q,q<w.heap.size→G q→G' q)(ho:∀q,vS.ownBlock=some q→¬G' q):StB w base vS css ss G' val :=
 ⟨h.own,h.len,fun i hi h'=>let ⟨b,u1,u2,u3,e,hr⟩:=h.rd i hi h';⟨b,u1,u2,u3,e,fo.mono hr hg⟩,ho⟩
theorem qN{sz:Nat}:∀{css:List (List Value)} {i j:Nat} {y:Value} (_:∀cs∈css,cs.length=sz) (hi:i<css.length) (_:j<sz),css.flatten.set (i*sz+j) y=(css.set i (css[i].set j y)).flatten
 | c::css,0,j,y,h,_,hj=>by
  have hc:=h c zx
  rw[List.flatten_cons,List.set_append_left _ _ (by omega)]
  simp
 | c::css,i+1,j,y,h,hi,hj=>by
  have hc:=h c zx
  rw[List.flatten_cons,List.set_append_right _ _ (by rw[hc,Nat.add_mul];omega)]
  have e:(i+1)*sz+j-c.length=i*sz+j:=by rw[hc,Nat.add_mul];omega
  rw[e,qN (fun d hd=>h d (js _ hd)) (by simpa using hi) hj]
  simp
theorem StB.put{w:World}{base g cap:Nat}{css:List (List Value)}{ss:List Sm}{G:Nat→Prop}{val:Option Nat→Value}{k:Nat}{v9:Value}(h:StB w base (.slice (some ⟨g,0,none⟩) ss.length cap) css ss G val)(hk:k<ss.length):StB (w.setCell ⟨g,k*5+4,none⟩ v9) base (.slice (some ⟨g,0,none⟩) ss.length cap) (css.set k ((css[k]'(by have:=h.len;omega)).set 4 v9)) ss G (gL val (some k) v9):=by
 have sg:k<css.length:=by have:=h.len;omega
 have hf:Fr (fun q=>q=g) w (w.setCell ⟨g,k*5+4,none⟩ v9):=(Fr.refl (fun q=>q=g) w).setCell (p:=⟨g,k*5+4,none⟩) (.inl rfl) v9
 refine⟨?_,by rw[zc];exact h.len,fun i hi h'=>?_,h.out⟩
 ·rw[←qN h.all sg (by decide)]
  exact bZ h.own (by omega) v9
 ·have se:i<css.length:=by rw[h.len];exact hi
  obtain⟨b,u1,u2,u3,e,hr⟩:=h.rd i hi se
  refine⟨b,u1,u2,u3,?_,fo.fr hr hf (fun q hq e=>h.out q (by rw[e];rfl) hq)⟩
  rw[List.getElem_set]
  by_cases hik:k=i
  ·subst hik
   rw[if_pos rfl,e,du]
   rfl
  ·rw[if_neg hik,e,dR (fun e=>hik (by injection e with e;exact e.symm))]
theorem Sl.sm{F:Nat→Prop}{w:World}{A:Option Addr}{n c:Nat}{xs:List Sm}(h:Sl fo F w (.slice A n c) xs){i:Nat}(hi:i<xs.length):∃ad b A1 c1 A2 c2 A3 c3 A4 c4,A=some ad∧w.cell? (ad.add (i*5))=some (.map (some b))∧w.cell? ⟨(ad.add (i*5)).block,(ad.add (i*5)).off+1,none⟩=some (.slice A1 xs[i].bound.length c1)∧w.cell? ⟨(ad.add (i*5)).block,(ad.add (i*5)).off+2,none⟩=some (.slice A2 xs[i].fresh.length c2)∧w.cell? ⟨(ad.add (i*5)).block,(ad.add (i*5)).off+3,none⟩=some (.slice A3 xs[i].frm.length c3)∧w.cell? ⟨(ad.add (i*5)).block,(ad.add (i*5)).off+4,none⟩=some (.slice A4 xs[i].nots.length c4)∧F ad.block∧fo.R F w [.map (some b),.slice A1 xs[i].bound.length c1,.slice A2 xs[i].fresh.length c2,.slice A3 xs[i].frm.length c3,.slice A4 xs[i].nots.length c4] xs[i]:=by
 obtain⟨ad,cs,h1,hF,hr,h6,h7⟩:=h.at hi
 have se:=hr
 obtain⟨b,u1,u2,u3,u4,e,hb,h0,h2,h3,h4,h5⟩:=se
 obtain⟨A1,c1,e1,-⟩:=h2
 obtain⟨A2,c2,e2,-⟩:=h3
 obtain⟨A3,c3,e3,-⟩:=h4
 obtain⟨A4,c4,e4⟩:=h5.sl
 rw[jk]at e1 e2 e3
 subst e1 e2 e3 e4 e
 exact⟨ad,b,A1,c1,A2,c2,A3,c3,A4,c4,h1,h6 (by simp),h7 0 (by simp),h7 1 (by simp),h7 2 (by simp),h7 3 (by simp),hF,hr⟩
def gJ(xs:List At)(q:Nat):List At:=(xs.take q).filter (fun a=>!a.neg)
theorem posQ_neg{xs:List At}{q:Nat}(hq:q<xs.length)(h:xs[q].neg=true):gJ xs (q+1)=gJ xs q:=by
 unfold gJ
 rw[jj hq,jK]
 simp[h]
theorem posQ_pos{xs:List At}{q:Nat}(hq:q<xs.length)(h:xs[q].neg=false):gJ xs (q+1)=gJ xs q++[xs[q]]:=by
 unfold gJ
 rw[jj hq,jK]
 simp[h]
theorem posQ_len(xs:List At)(q:Nat):(gJ xs q).length≤q:=by
 unfold gJ
 have h1:=jF (fun a:At=>!a.neg) (xs.take q)
 rw[jt]at h1
 omega
theorem oc{l:List Nat}{p:Nat}(hp:p<l.length)(v:Nat):v∈l.take (p+1)↔v=l[p]∨v∈l.take p:=by
 rw[jj hp,ju,jq,or_comm]
theorem sm_one{F:Nat→Prop}{w:World}{cs:List Value}{s:Sm}(h:fo.R F w cs s):∀u∈cs,u.oneCell'=true:=by
 obtain⟨b,u1,u2,u3,u4,rfl,-,-,⟨_,_,rfl,-⟩,⟨_,_,rfl,-⟩,⟨_,_,rfl,-⟩,h4⟩:=h
 obtain⟨_,_,rfl⟩:=h4.sl
 simp[Value.oneCell']
theorem get_last{α : Type}{l:List α}{a : α}{k:Nat}(h:l.length=k)(hk:k<(l++[a]).length):(l++[a])[k]=a:=by
 subst h
 rw[jv (jo _)]
 simp
theorem ng_one{F:Nat→Prop}{w:World}{cs:List Value}{s:Ng}(h:lV.R F w cs s):∀u∈cs,u.oneCell'=true:=by
 obtain⟨u1,u2,u3,rfl,h1,⟨_,_,rfl,-⟩,h3⟩:=h
 obtain⟨_,_,rfl⟩:=h1.sl
 obtain⟨_,_,rfl⟩:=h3.sl
 simp[Value.oneCell']
theorem StB.atFirst{w:World}{base:Nat}{vS v9:Value}{css:List (List Value)}{ss:List Sm}{G:Nat→Prop}{val:Option Nat→Value}(h:StB w base vS css ss G val):StB w base vS css ss G (gL val none v9) :=
 ⟨h.own,h.len,fun i hi h'=>by rw[dR (by simp)];exact h.rd i hi h',h.out⟩
theorem StB.of{F:Nat→Prop}{w:World}{base n:Nat}{vS:Value}{css:List (List Value)}{ss:List Sm}{G:Nat→Prop}(h:Rw fo w base 229 vS n ss css)(hc:∀c∈css,∃mb u1 u2 u3,c=[.map (some mb),u1,u2,u3,aB])(hG:∀k,base≤k→vS.ownBlock≠some k→G k)(ho:∀q,vS.ownBlock=some q→¬G q):StB w base vS css ss G (fun _=>aB):=by
 have hn:=h.num (by decide)
 refine⟨by rw[←hn];exact h.own,h.len,fun i hi h'=>?_,ho⟩
 obtain⟨mb,u1,u2,u3,e⟩:=hc _ (jf h')
 have hr:=h.rd i hi h'
 rw[e]at hr
 exact⟨mb,u1,u2,u3,e,fo.mono hr (fun k _ hk=>hG k hk.1 hk.2)⟩
theorem nL(bd:Nat→Nat)(v:Int):∀(l:List Int) (m:Nat),dH bd (l++[v]) m=if v<0 then dH bd l m else max (dH bd l m) (bd v.toNat)
 | [],m=>rfl
 | x::l,m=>by
  rw[zw,dH,nL bd v l,dH]
theorem posQ_all(r:Rl):gJ r.ats r.ats.length=bL r:=by unfold gJ bL;rw[jT]
theorem StB.fin{w:World}{base se:Nat}{vS:Value}{css:List (List Value)}{ss:List Sm}{G K:Nat→Prop}{val:Option Nat→Value}{us:Option Nat→List (List Value)}{ns:Option Nat→List Ng}(h:StB w base vS css ss G val)(hf:Fam lV w se 220 G val us ns)(hn:∀s∈ss,s.nots=[])(hG:∀q,G q→K q)(hb:∀q,base≤q→K q)(sg:∀q,se≤q→K q):Sl fo K w vS (ss.zipIdx.map (fun p=>{ p.1 with nots:=ns (some p.2) })):=by
 have ho:=h.own
 have hl:(ss.zipIdx.map (fun p=>({ p.1 with nots:=ns (some p.2) }:Sm))).length=ss.length:=by simp
 refine own_rdg (us:=css) (by decide) ho (by rw[hl];exact h.len) (fun i hi h'=>?_) (fun k hk=>hb k (aw ho hk))
 have si:i<ss.length:=by rw[hl]at hi;exact hi
 obtain⟨b,u1,u2,u3,e,hr⟩:=h.rd i si h'
 obtain⟨b',v1,v2,v3,v4,e2,sh,h0,h1,h2,h3,-⟩:=fo.mono hr (fun q _ hq=>hG q hq)
 injection e2 with e3 e2;injection e3 with e3;injection e3 with e3;injection e2 with e4 e2;injection e2 with e5 e2;injection e2 with e6 e2
 subst e3 e4 e5 e6
 rw[e]
 refine⟨b,_,_,_,_,rfl,sh,?_,?_,?_,?_,?_⟩
 ·simpa using h0
 ·simpa using h1
 ·simpa using h2
 ·simpa using h3
 ·have:=hf.sl (K:=K) (by decide) (some i) hG sg
  simpa using this
theorem ngP_pos'{vars:List ByteArray}{M:Dm}{r:Rl}{i:Nat}{a:At}(hi:r.ats[i]?=some a)(h:a.neg=false):ngP vars M r (i+1)=ngP vars M r i:=by
 obtain⟨hl,rfl⟩:=zj.1 hi
 exact ngP_pos hl h
theorem ngP_neg'{vars:List ByteArray}{M:Dm}{r:Rl}{i:Nat}{a:At}(hi:r.ats[i]?=some a)(h:a.neg=true){o:Option Nat}(ho:eZ vars r a=idO o):ngP vars M r (i+1)=gL (ngP vars M r i) o (ngP vars M r i o++[gi vars M a]):=by
 obtain⟨hl,rfl⟩:=zj.1 hi
 exact ngP_neg hl h ho
theorem ngP_len(vars:List ByteArray)(M:Dm)(r:Rl)(i:Nat)(o:Option Nat):(ngP vars M r i o).length≤i:=by
 unfold ngP
 rw[jk]
 have h1:=jF (fun a:At=>a.neg && decide (eZ vars r a=idO o)) (r.ats.take i)
 rw[jt]at h1
 omega
theorem StB.beside{w wb w9:World}{base se n s:Nat}{vS v v9:Value}{E:TypeId}{xs:List Value}{css:List (List Value)}{ss:List Sm}{G:Nat→Prop}{val:Option Nat→Value}(h:StB w base vS css ss G val)(he:Ext w wb)(ho:w.ownsRow se E s v n xs)(hE : 229≠E)(sg:∀q,v.ownBlock=some q→¬G q)(hg:wb.grownBy w9 v.ownBlock)(hl:df wb v v9):StB w9 base vS css ss (fun u=>G u∧v9.ownBlock≠some u) val:=by
 have h1:StB w base vS css ss (fun u=>G u∧u<w.heap.size) val:=h.less (fun q hq hG=>⟨hG,hq⟩) (fun q hq hG=>h.out q hq hG.1)
 have h2:=(h1.ext he).fr (am hg) (fun q hq e=>nN h.own ho hE hq e) (fun q hq e=>sg q e hq.1)
 refine h2.less (fun q _ hq=>⟨hq.1,fun e=>?_⟩) (fun q hq hG=>h.out q hq hG.1)
 rcases hl with hl|hl
 ·exact sg q (hl ▸ e) hq.1
 ·rw[hl]at e
  injection e with e
  have:=he.size
  have:=hq.2
  omega
theorem StB.put'{w:World}{base g cap n:Nat}{css:List (List Value)}{ss:List Sm}{G:Nat→Prop}{val:Option Nat→Value}{k:Nat}{v9:Value}(hn:ss.length=n)(h:StB w base (.slice (some ⟨g,0,none⟩) n cap) css ss G val)(hk:k<n)(hc:k<css.length):StB (w.setCell ⟨g,k*5+4,none⟩ v9) base (.slice (some ⟨g,0,none⟩) n cap) (css.set k (css[k].set 4 v9)) ss G (gL val (some k) v9):=by
 subst hn
 exact h.put hk
def ql(K:Nat→Prop)(ss:List Sm)(fs:List Ng)(w:World)(e:Ending)(w':World):Prop:=Ext w w'∧∃S cs T ct,e=.returned (.tuple #[.slice S ss.length cs,.slice T fs.length ct])∧Sl fo K w' (.slice S ss.length cs) ss∧Sl lV K w' (.slice T fs.length ct) fs
set_option maxRecDepth 20000 in
set_option maxHeartbeats 6400000 in
theorem plan_any{F G H J:Nat→Prop}{w:World}{sv vc:Value}{r:Rl}{b nb nv cv:Nat}{A:Option Addr}{M:Dm}{vars:List ByteArray}(hA:Ats G w sv r.ats)(hC:Sl eL H w vc r.cds)(hD:DbB F w b nb M)(hV:Strs J w (.slice A nv cv) vars)(hs:eF vars r)(hM:∀a∈r.ats,∃x,M a.rel=some x)(tz:∀a∈r.ats,∀x∈aS M a.rel,x.length=a.terms.length∧∀v∈x,okV v=true∧VOk v)(tf:∀a∈r.ats,(aS M a.rel).length≤1000000)(xO:∀c∈r.cds,eI c=0)(hz:RlZ r)(yl:∀s∈vars,s.size≤maxLen)(xH:r.ats.length≤100)(xI:∀a∈r.ats,a.terms.length≤1000)(xJ:r.cds.length≤1000)(y6:vars.length≤100000)(vE:eG w) :
  Calls Tryz.prog 114 #[.agg #[sv,vc],.agg #[.map (some b)],.slice A nv cv] w (ql (fun q=>F q∨w.heap.size≤q) (smF vars M r) ((iM vars r 0).map (gi vars M)) w):=by
 obtain⟨A',Am,e,-,yh⟩:=hV
 injection e with e1 e2 e3
 subst e1
 have yN:=zN yh;have tn:=zN e2;have HS:=zN hs;have HM:=zN hM;have uQ:=zN tz;have yK:=zN tf;have yq:=zN xO;have HZ:=zN hz;have yP:=zN yl;have xo:=zN xI;have wN:=zN vE;have HD:=zN hD
 have zW:nv≤100000:=by omega
 clear yh e2 e3 hs hM tz tf xO hz yl xI vE hD y6
 obtain⟨PP,wS⟩:=sd (ql (fun q=>F q∨w.heap.size≤q) (smF vars M r) ((iM vars r 0).map (gi vars M)) w)
 rw[←wS]
 have yI:=zN wS
 clear wS
 obtain⟨xs,cds⟩:=r
 simp only at hA hC xH xJ
 obtain⟨Ac,cc,rfl⟩:=hC.sl
 obtain⟨nc,xf⟩:=sd cds.length
 rw[←xf]at hC xJ ⊢
 have wB:=zN xf;have HC:=zN hC
 clear xf hC
 obtain⟨Aa,c,rfl,hc,xG⟩:=hA.at'
 obtain⟨n,hn⟩:=sd xs.length
 rw[←hn]at hc xH ⊢
 have HN:=zN hn;have xm:=zN xG
 clear hn xG hA
 have zT:=@run_makeMap Tryz.prog
 have k2:=bH w 46 33 [.slice Aa n c,.slice Ac nc cc] [.map (some b)]
 have hx:Ext w ((w.alloc (.cells #[.slice Aa n c,.slice Ac nc cc] 46)).alloc (.cells #[.map (some b)] 33)):=((Ext.refl w).alloc _).alloc _
 have uI:=zN (aI.made ((w.alloc (.cells #[.slice Aa n c,.slice Ac nc cc] 46)).alloc (.cells #[.map (some b)] 33)))
 have vD:((w.alloc (.cells #[.slice Aa n c,.slice Ac nc cc] 46)).alloc (.cells #[.map (some b)] 33)).heap.size=w.heap.size+1+1:=by simp
 rw[vD]at uI
 clear vD
 go_enter Tryz.func114,Tryz.ntmps114
 go_upto_region 1 with fail
 change Bk ((w.alloc (.cells #[.slice Aa n c,.slice Ac nc cc] 46)).alloc (.cells #[.map (some b)] 33)) _ _ _∧Bk ((w.alloc (.cells #[.slice Aa n c,.slice Ac nc cc] 46)).alloc (.cells #[.map (some b)] 33)) _ _ _ at k2
 obtain⟨ka,kb⟩:=k2
 have vZ:((w.alloc (.cells #[.slice Aa n c,.slice Ac nc cc] 46)).alloc (.cells #[.map (some b)] 33)).heap.size=w.heap.size+1+1:=by simp
 obtain⟨w1,ym⟩:=sd (((w.alloc (.cells #[.slice Aa n c,.slice Ac nc cc] 46)).alloc (.cells #[.map (some b)] 33)))
 rw[←ym]at ka kb hx uI vZ ⊢
 have xu:=zN ka;have xw:=zN kb;have HX:=zN hx
 clear ka kb hx ym
 obtain⟨bN,xK⟩:=sd (w.heap.size+1+1)
 rw[←xK]at uI vZ
 have AE:w.heap.size+1<bN:=by omega
 have yQ:=zN vZ
 clear xK
 go_upto_region 2 with (first
  | (refine gA rfl _ _ _ 145 3 rfl Tryz.underlying145 bN 0 (fun _=>none) rfl uI.out (by simp[maxLen]) ⟨#[]⟩ (.int .i64 (-1)) rfl (by decide) rfl ?_;intro w3 vR xS))
 rw[numP_zero vars]at vR
 have hx1:Ext w1 (w1.alloc (.map #[] 0)):=(Ext.refl w1).alloc _
 have hx3:Ext w1 w3:=hx1.grown xS (fun k e=>by injection e with e;have:=yQ.out;omega)
 have xx:=zN vR;have yR:=zN (HX.out.trans hx3);have ux:=zN (xu.out.ext hx3);have uC:=zN (xw.out.ext hx3)
 have y7:bN<w3.heap.size:=vR.lt
 clear vR hx1 hx3 xS zT vZ uI xu xw
 go_wp2_with fail
 go_loopw [32] (fun t wr=>∃i:Nat,i≤nv∧t=.int .i64 (i:Int)∧Hid (aI wr bN (0+1+i) (p8 vars i))∧Hid (Fr (fun q=>q=bN) w3 wr)) (fun t _=>nv-(intOf t).toNat)
 case atStart=>exact⟨0,jn _,rfl,xx,zN (Fr.refl _ _)⟩
 case round =>
  obtain⟨i,hi,rfl,wy,uq⟩:=hrel
  obtain⟨W,rfl⟩:∃W:World,W=wr:=⟨_,rfl⟩
  have wP:=zN (uq.out.new yR.out (fun q hq=>by omega))
  by_cases hlt:i<nv
  ·have i1:(0:Int)≤(i:Int):=by omega
   have i2:(i:Int)<(nv:Int):=by omega
   have vP:i<vars.length:=by have:=tn.out;omega
   obtain⟨ad,rfl,-,c0⟩:=yN.out.str vP
   replace c0:=wP.out.cell c0
   have tW:=yP.out _ (jf vP)
   have uk:=zN (numP_add HS.out.nd HS.out.ne vP)
   obtain⟨s,hs⟩:=sd (vars[i])
   rw[←hs]at c0 tW uk
   clear hs vP
   go_wp2_with (first
    | (refine aN rfl _ _ _ 145 3 rfl Tryz.underlying145 bN (0+1+i) (p8 vars i) rfl wy.out (by simp only[maxLen];omega) s (.int .i64 (i:Int)) rfl tW rfl ?_;intro w5 x9 xT;have yC:=zN x9;have yw:=zN xT;clear x9 xT))
   go_roundw
   case rel=>exact⟨i+1,by omega,by go_num,zN (by rw[←uk.out];exact yC.out),zN (uq.out.grown yw.out (fun q e=>by injection e with e;exact .inl e.symm))⟩
   case measure=>simp[intOf];omega
  ·obtain rfl:i=nv:=by omega
   have AF:¬(i:Int)<(i:Int):=by omega
   have xy:Hid (∃m,aI W bN m (numF vars)):=zN ⟨_,by have h:=wy.out;rw[show i=vars.length from tn.out,numP_all]at h;exact h⟩
   have wV:bN<W.heap.size:=by have:=uq.out.size;omega
   have uy:=zN (ux.out.fr uq.out (by omega));have uD:=zN (uC.out.fr uq.out (by omega))
   clear wy xx ux uC
   have zS:=ig 289 44 aB 24 Tryz.underlying289 info_cds rfl i (by omega) (by omega)
   go_upto_region 8 with fail
   have kc:=Bk.new W 44 (List.replicate i aB)
   have ui:Ext W (W.alloc (.cells (List.replicate i aB).toArray 44)):=(Ext.refl W).alloc _
   rw[show (List.replicate i aB).toArray=Array.replicate i aB by simp]at kc ui
   obtain⟨gC,xV⟩:=sd W.heap.size
   rw[←xV]at kc ⊢
   generalize (W.alloc (.cells (Array.replicate i aB) 44))=w7 at *
   have ve:gC<w7.heap.size:=kc.lt
   have Aw:bN<gC:=by omega
   have yS:=zN (wP.out.trans ui);have tH:=zN (uy.out.ext ui);have uE:=zN (uD.out.ext ui)
   obtain⟨mN,ya⟩:=xy.out
   have wv:=zN (ya.ext ui)
   have xP:CoB w7 w7.heap.size gC i (cds.take 0) vars (fun _=>aB) (fun _=>[]):=⟨by
    have e:(List.range i).map (fun _:Nat=>aB)=List.replicate i aB:=by
     refine zf (by simp) (fun j h1 h2=>by simp)
    rw[e];exact kc,by
    have e:bK vars (cds.take 0)=fun _=>[]:=by funext v;simp[bK]
    rw[e];exact Fam.nil _ _ _ _ _⟩
   have xp:=zN xP
   have a1:=tH.out.c1
   clear zS kc ui xV ya xP xy uy uD wV
   go_wp2_with fail
   clear a1
   go_loopw [47] (fun t wr=>∃(k:Nat) (val:Nat→Value) (us:Nat→List (List Value)),k≤nc∧t=.int .i64 (k:Int)∧Hid (CoB wr w7.heap.size gC i (cds.take k) vars val us)∧Hid (Fr (fun q=>q=gC) w7 wr)) (fun t _=>nc-(intOf t).toNat)
   case atStart=>exact⟨0,_,_,jn _,rfl,xp,zN (Fr.refl _ _)⟩
   case round =>
    obtain⟨k,val,us,hk,rfl,tZ,tE⟩:=hrel
    obtain⟨V,rfl⟩:∃V:World,V=wr:=⟨_,rfl⟩
    have ud:=zN (tE.out.new yS.out (fun q hq=>by have:=wP.out.size;omega))
    have Ax:w7.heap.size≤V.heap.size:=tE.out.size
    by_cases hkl:k<nc
    ·have k1:(0:Int)≤(k:Int):=by omega
     have k2:(k:Int)<(nc:Int):=by omega
     have vh:k<cds.length:=by have:=wB.out;omega
     obtain⟨Ag,rfl,-,d0,d1,d2,d3,d4⟩:=HC.out.cd vh
     replace d0:=ud.out.cell d0;replace d1:=ud.out.cell d1;replace d2:=ud.out.cell d2;replace d3:=ud.out.cell d3;replace d4:=ud.out.cell d4
     have wO:=zN (jj vh)
     have tW:=HZ.out.var _ (jf vh)
     have uV:=HS.out.cd _ (jf vh)
     have sH:=zN (lk vars cds[k].var)
     have x8:∀v,(bK vars (cds.take k) v).length≤k:=fun v=>by
      have h1:=jF (fun c:Cd=>decide (dl vars c.var=(v:Int))) (cds.take k)
      rw[jt]at h1
      unfold bK
      omega
     obtain⟨c,xN⟩:=sd (cds[k])
     rw[←xN]at d0 d1 d2 d3 d4 wO tW uV sH
     obtain⟨si,sQ,sP,sO,sR⟩:=c
     simp only at d0 d1 d2 d3 d4 tW uV sH
     obtain⟨v,hv⟩:=sd (dl vars si)
     rw[←hv]at sH
     have vY:(v<0∧dl vars si<0)∨∃u:Nat,v=(u:Int)∧u<vars.length∧dl vars si=(u:Int):=by
      by_cases h0:si=⟨#[]⟩
      ·left
       have:dl vars si = -1:=if_pos h0
       rw[hv,this]
       omega
      ·right
       have:=cE h0 (uV h0)
       exact⟨posN vars si,by rw[hv,this],bR (uV h0),this⟩
     have kt:=Bk.new V 53 [.string si,.int .i64 sQ,.int .i64 sP,.int .i64 sO,.string sR]
     change Bk (V.alloc (.cells #[.string si,.int .i64 sQ,.int .i64 sP,.int .i64 sO,.string sR] 53)) _ _ _ at kt
     have hx4:Ext V (V.alloc (.cells #[.string si,.int .i64 sQ,.int .i64 sP,.int .i64 sO,.string sR] 53)):=(Ext.refl V).alloc _
     have uJ:=zN ((wv.out.fr tE.out (by omega)).ext hx4)
     have q0:=kt.c0;have q1:=kt.c1;have q2:=kt.c2;have q3:=kt.c3;have q4:=kt.c4
     have tY:=zN (tZ.out.ext hx4);have xt:=zN (tE.out.ext hx4)
     have yA:=zN x8
     obtain⟨gb,vO⟩:=sd V.heap.size
     have AM:gb<(V.alloc (.cells #[.string si,.int .i64 sQ,.int .i64 sP,.int .i64 sO,.string sR] 53)).heap.size:=by rw[vO];exact kt.lt
     have vt:∀v q,(val v).ownBlock=some q→w7.heap.size≤q∧q<gb:=fun v q hq=>⟨aw (tZ.out.fam.own v) hq,by rw[vO];exact aV (tZ.out.fam.own v) hq⟩
     have wG:=zN vt
     clear xN hv uV x8 kt hx4 vh vt
     go_upto_region 11 with fail
     rw[←vO]at q0 q1 q2 q3 q4 ⊢
     have AL:w7.heap.size≤gb:=by omega
     clear vO
     generalize (V.alloc (.cells #[.string si,.int .i64 sQ,.int .i64 sP,.int .i64 sO,.string sR] 53))=V4 at *
     clear d0 d1 d2 d3 d4
     rcases vY with ⟨tR,tt⟩|⟨u,rfl,AO,hu⟩
     ·have n1:¬(0:Int)≤v:=by omega
      have yL:=zN (cdsAt_skip (cds:=cds.take k) (c:=⟨si,sQ,sP,sO,sR⟩) tt)
      clear tt
      go_wp2_with (first
       | (refine ao rfl _ _ 145 3 rfl Tryz.underlying145 (.int .i64 0) (aO _) bN mN _ rfl uJ.out si rfl tW (.int .i64 v) sH.out ?_))
      go_roundw
      case rel=>exact⟨k+1,val,us,by omega,by go_num,zN (by rw[wO.out];exact⟨tY.out.box,by rw[yL.out];exact tY.out.fam⟩),xt⟩
      case measure=>simp[intOf];omega
     ·have u0:(0:Int)≤(u:Int):=by omega
      have vX:u<i:=by have:=tn.out;omega
      have u2:(u:Int)<(i:Int):=by omega
      have HU:=zN hu
      have s0:=tY.out.box.cell (i:=u) (by simpa using vX)
      simp only[jy,zK]at s0
      have sf:=tY.out.box.free u
      have vq:=tY.out.fam.own u
      obtain⟨Av,xF,ev⟩:=af vq
      rw[ev]at s0 vq
      have vJ:=zN ev
      have zV:=yA.out u
      obtain⟨m,hm⟩:=sd ((bK vars (cds.take k) u).length)
      rw[←hm]at s0 vq vJ zV
      have yH:=zN vq;have yD:=zN hm
      have yd:∀q,(Value.slice Av m xF).ownBlock=some q→w7.heap.size≤q∧q<gb:=fun q hq=>wG.out u q (by rw[vJ.out];exact hq)
      have yG:=zN yd
      obtain⟨j0,tq,tA,tB,tC⟩:=info_parts info_cond
      have sh:=zN (And.intro tq (And.intro tA (And.intro tB tC)));clear tq tA tB tC
      have s1:=(Ext.refl V4).drew.cell s0
      have s2:=((Ext.refl V4).alloc (.cells #[.string si,.int .i64 sQ,.int .i64 sP,.int .i64 sO,.string sR] 53)).cell s0
      have s3:=((Ext.refl V4).alloc (.cells #[.string si,.int .i64 sQ,.int .i64 sP,.int .i64 sO,.string sR] 53)).drew.cell s0
      clear hm vq ev hu yd
      go_upto_region 13 with (first
       | (refine ao rfl _ _ 145 3 rfl Tryz.underlying145 (.int .i64 0) (aO _) bN mN _ rfl uJ.out si rfl tW (.int .i64 (u:Int)) sH.out ?_))
      go_region_law (first
       | (refine bO (by rfl) _ _ _ (by rfl) w7.heap.size 53 j0 (.agg #[.string ⟨#[]⟩,.int .i64 0,.int .i64 0,.int .i64 0,.string ⟨#[]⟩]) 5 56 Tryz.underlying44 sh.out.1 sh.out.2.1 sh.out.2.2.1 sh.out.2.2.2 rfl (by omega) (.slice Av m xF) m (us u).flatten (by rfl) (by refine aD yH.out ?_;repeat (first|exact Ext.refl _|refine Ext.drew ?_|refine Ext.alloc ?_ _)) ⟨V4.heap.size,0,none⟩ 1 1 [.string si,.int .i64 sQ,.int .i64 sP,.int .i64 sO,.string sR] (by rfl) (by rfl) (by exact aE V4 _ _) (by simp[Value.oneCell']) (by simp only[maxLen];omega) (by omega) (by simp;omega) ?_;intro v9 w9 su sq sS;obtain⟨A9,c9,rfl⟩:=af su;have vN:=tY.out.push (c:=⟨si,sQ,sP,sO,sR⟩) (by (repeat (first|exact Ext.refl _|refine Ext.drew ?_|refine Ext.alloc ?_ _))) HU.out ve (by rw[←yD.out];exact su) (vJ.out.symm ▸ sq) (vJ.out.symm ▸ sS);have t9:=vN.1.cell (i:=u) (by simpa using vX);have g9:=vN.1.free u;have yr:=zN vN.2;have wg:Hid (Fr (fun q=>q=gC) w7 (w9.setCell ⟨gC,u,none⟩ (.slice A9 (m+1) c9))):=zN (((xt.out.ext (by (repeat (first|exact Ext.refl _|refine Ext.drew ?_|refine Ext.alloc ?_ _)))).grown sq (fun q hq=>.inr (yG.out q hq).1)).setCell (p:=⟨gC,u,none⟩) (.inl rfl) _);simp only[jy,zK]at t9;clear su sq sS vN))
      all_goals
       clear q0 q1 q2 q3 q4 s0 s1 s2 s3 t9 g9 sf
       go_wp2_with fail
       go_roundw
       case rel=>exact⟨k+1,_,_,by omega,by go_num,zN (by rw[wO.out];exact yr.out),wg⟩
       case measure=>simp[intOf];omega
    ·obtain rfl:k=nc:=by omega
     have AI:¬(k:Int)<(k:Int):=by omega
     have et:cds.take k=cds:=jp (by have:=wB.out;omega)
     rw[et]at tZ
     clear et
     have uJ:=zN (wv.out.fr tE.out (by omega));have uA:=zN (tH.out.fr tE.out (by omega));have uF:=zN (uE.out.fr tE.out (by omega))
     have zP:gC<V.heap.size:=by omega
     have xe:=ig 63 3 (.int .i64 0) 8 Tryz.underlying63 ib rfl i (by omega) (by omega)
     clear xp wv tH uE
     go_upto_region 16 with fail
     have kB:=Bk.new V 3 (List.replicate i (Value.int .i64 0))
     have tX:Ext V (V.alloc (.cells (List.replicate i (Value.int .i64 0)).toArray 3)):=(Ext.refl V).alloc _
     rw[show (List.replicate i (Value.int .i64 0)).toArray=Array.replicate i (Value.int .i64 0) by simp]at kB tX
     rw[←bdC_zero]at kB
     obtain⟨gB,xU⟩:=sd V.heap.size
     rw[←xU]at kB ⊢
     generalize (V.alloc (.cells (Array.replicate i (Value.int .i64 0)) 3))=w8 at *
     have zO:gB<w8.heap.size:=kB.lt
     have Aq:gC<gB:=by omega
     have An:w7.heap.size≤gB:=by omega
     have yT:=zN (ud.out.trans tX);have tI:=zN (uA.out.ext tX);have tJ:=zN (uF.out.ext tX);have ww:=zN (uJ.out.ext tX)
     have xQ:Sl nQ (fun q=>q<gB) V (.slice (some ⟨gC,0,none⟩) i i) ((List.range i).map (bK vars cds)):=(tZ.out.sl (Nat.le_of_lt ve)).mono (by decide) (fun q hq _=>by omega)
     have yt:=zN (xQ.ext tX)
     have a0:=tI.out.c0
     have wq:=zN kB
     have Ao:w.heap.size≤gB:=by omega
     clear xe kB tX xU xQ tZ uJ uA uF
     go_wp2_with fail
     clear a0
     go_loopw [74,16] (fun t vS wr=>∃(q:Nat) (css:List (List Value)),q≤n∧t=.int .i64 (q:Int)∧Hid (Rw fo wr w8.heap.size 229 vS (gJ xs q).length (smL vars M cds (gJ xs q) []) css)∧Hid (Bk wr gB 3 ((bdC i (bdP vars (gJ xs q))).map I64))∧Hid (Fr (fun b=>b=gB) w8 wr)∧Hid (∀c∈css,∃mb u1 u2 u3,c=[.map (some mb),u1,u2,u3,aB])) (fun t _ _=>n-(intOf t).toNat)
     case atStart=>exact⟨0,[],jn _,rfl,zN (Rw.empty _ _ _ _),wq,zN (Fr.refl _ _),zN (fun c hc=>by simp at hc)⟩
     case round =>
      obtain⟨q,css,hq,rfl,HR,wa,sV,sY⟩:=hrel
      obtain⟨X,rfl⟩:∃X:World,X=wr:=⟨_,rfl⟩
      have uR:=zN (sV.out.new yT.out (fun b hb=>by omega))
      have AA:w8.heap.size≤X.heap.size:=sV.out.size
      obtain⟨As,cs,rfl⟩:=af HR.out.own
      have wJ:=zN (posQ_len xs q)
      obtain⟨P,hP⟩:=sd (gJ xs q)
      rw[←hP]at HR wa wJ ⊢
      obtain⟨k9,wY⟩:=sd P.length
      rw[←wY]at HR wJ ⊢
      have HP:=zN hP;have ub:=zN wY
      clear hP wY
      have zQ:k9≤100:=by have:=wJ.out;omega
      by_cases hql:q<n
      ·have i1:(0:Int)≤(q:Int):=by omega
       have i2:(q:Int)<(n:Int):=by omega
       have sE:q<xs.length:=by have:=HN.out;omega
       obtain⟨ad,Bt,dt,rfl,-,c0,c1,c2,hd,sy⟩:=xm.out q sE
       replace c0:=uR.out.cell c0;replace c1:=uR.out.cell c1;replace c2:=uR.out.cell c2
       have sB:=HZ.out.tms _ (jf sE)
       have tj:=HZ.out.rel _ (jf sE)
       have sA:=HS.out.at' _ (jf sE)
       obtain⟨x,sj⟩:=HM.out _ (jf sE)
       have ug:=uQ.out _ (jf sE)
       have tf:=yK.out _ (jf sE)
       have sT:=xo.out _ (jf sE)
       have vL:=zN (posQ_neg (xs:=xs) sE);have sZ:=zN (posQ_pos (xs:=xs) sE)
       rw[←HP.out]at vL sZ
       obtain⟨a,ha⟩:=sd (xs[q])
       (try simp only at sB);(try simp only at tj);(try simp only at sA);(try simp only at sj);(try simp only at ug);(try simp only at tf);(try simp only at sT)
       rw[←ha]at c0 c1 c2 hd sy sB tj sA sj ug tf sT vL sZ
       obtain⟨ng,rl,ts⟩:=a
       simp only at c0 c1 c2 hd sy sB tj sA sj ug tf sT vL sZ
       obtain⟨nt,vo⟩:=sd ts.length
       have kx:=Bk.new X 49 [.bool ng,.string rl,.slice Bt ts.length dt]
       change Bk (X.alloc (.cells #[.bool ng,.string rl,.slice Bt ts.length dt] 49)) _ _ _ at kx
       have hx1:Ext X (X.alloc (.cells #[.bool ng,.string rl,.slice Bt ts.length dt] 49)):=(Ext.refl X).alloc _
       have g0:=kx.c0;have g1:=kx.c1;have g2:=kx.c2
       have wK:=zN (HR.out.ext hx1);have tD:=zN (wa.out.ext hx1);have xq:=zN (sV.out.ext hx1);have tO:=zN (uR.out.trans hx1)
       have ws:=zN ((tJ.out.fr sV.out (by omega)).ext hx1);have yB:=zN ((ww.out.fr sV.out (by omega)).ext hx1)
       have wf:=zN ((yt.out.fr sV.out (fun q hq e=>by omega)).ext hx1)
       have yZ:=hx1.size
       rcases ng with _|_
       ·have uO:=zN (sZ.out rfl)
        have vW:aS M rl=x.rel.rows:=by unfold aS;rw[sj];rfl
        have vn:=ro (Bl:=ee vars P []) (ng:=false) (rl:=rl) (d:=dt) (HD.out.ext tO.out) sj tj (sy.ext tO.out) yB.out (nc:=i) (cc:=i) (C:=some ⟨gC,0,none⟩) (K:=fun q=>q<gB) (by have h:=wf.out;have e:List.range i=List.range vars.length:=(by rw[←tn.out]);rw[e]at h;exact h) (ins_bk tD.out (mG _ _).symm) (by rw[mG,tn.out]) (fun v hv=>by rw[bdC_at hv,bdP_mem];omega) sA (fun t ht=>(sB t ht).1) (by rw[←vW];exact ug) (by rw[←vW];exact tf) (fun c hc=>⟨yq.out c hc,HZ.out.str c hc⟩) (by omega) (by have:=wB.out;omega) (by have:=tn.out;omega) (wN.out.fore tO.out)
        have wC:=zN vn
        have Ae:=zN sj;have yJ:=zN vW
        clear vn sj vW ug tf sA sB sy kx hx1
        go_upto_region 20 with fail
        generalize (X.alloc (.cells #[.bool false,.string rl,.slice Bt ts.length dt] 49))=X1 at *
        clear c0 c1 c2
        have b0:=ws.out.c0
        go_wp2_with fail
        refine wC.out.mono ?_
        rintro e w9 ⟨uW,mb,u1,u2,u3,rfl,yf⟩
        have yg:fo.R (fun k=>w8.heap.size≤k∧(Value.slice As k9 cs).ownBlock≠some k) w9 [.map (some mb),u1,u2,u3,aB] (rK vars M cds (ee vars P []) ⟨false,rl,ts⟩ []):=by
         have h1:=fo.mono (G:=fun k=>w8.heap.size≤k∧(Value.slice As k9 cs).ownBlock≠some k) yf (fun k _ hk=>⟨by omega,fun e=>by have:=aV wK.out.own e;omega⟩)
         rw[show rK vars M cds (ee vars P []) ⟨false,rl,ts⟩ []=(⟨x.rel.rows.filter (mtB vars ts cds (aR vars (ee vars P []) ts)),(aR vars (ee vars P []) ts).key,(aR vars (ee vars P []) ts).bound,(aR vars (ee vars P []) ts).fresh,(aR vars (ee vars P []) ts).frm,[]⟩:Sm) from by unfold rK;rw[yJ.out]]
         exact h1
        have AQ:X1.heap.size≤w9.heap.size:=uW.size
        have xC:=zN yg;have vM:=zN (wK.out.ext uW);have wd:=zN (tD.out.ext uW);have wg:=zN (xq.out.ext uW)
        obtain⟨j0,tq,tA,tB,tC⟩:=info_parts info_step
        have sh:=zN (And.intro tq (And.intro tA (And.intro tB tC)));clear tq tA tB tC
        clear yf yg uW g0 g1 g2 b0
        go_upto_region 22 with (first
         | (at_builtin;refine aq rfl _ _ 215 rfl w8.heap.size 229 j0 (.agg #[.map none,aB,aB,aB,aB]) 5 104 Tryz.underlying215 sh.out.1 sh.out.2.1 sh.out.2.2.1 sh.out.2.2.2 rfl (by omega) (.slice As k9 cs) k9 css.flatten rfl (aD vM.out.own ((Ext.refl w9).alloc _)) ⟨w9.heap.size,0,none⟩ 1 1 [.map (some mb),u1,u2,u3,aB] rfl rfl (aE w9 _ _) (sm_one xC.out) (by simp only[maxLen];omega) (by omega) (by simp;omega) ?_;intro AS yp tT td vm;obtain⟨z6,c10,rfl⟩:=af tT;have sF:=(Ext.refl w9).alloc (.cells #[.map (some mb),u1,u2,u3,aB] 229);have uP:=zN (Rw.more vM.out sF (fo.ext xC.out sF) tT td vm);have um:=zN ((wd.out.ext sF).fr (am td) (fun e=>by have:=aw vM.out.own e;omega));have uo:=zN ((wg.out.ext sF).grown td (fun b hb=>.inr (aw vM.out.own hb)));clear tT td vm sF))
        have hL:(smL vars M cds P []).length=k9:=by rw[mO,ub.out]
        obtain⟨wQ,b10,A1,c1,A2,c2,A3,c3,A4,c4,yV,-,-,y2,-,-,yX,vA⟩:=(uP.out.sl (by decide)).sm (i:=k9) (by rw[jm,hL];simp)
        rw[get_last hL]at y2 vA
        subst yV
        obtain⟨bq,v1,v2,v3,v4,eq,-,-,-,wR,-,-⟩:=vA
        injection eq with eq1 eq2;injection eq2 with eq2 eq3;injection eq3 with eq3 eq4
        subst eq3
        clear eq1 eq2 eq4
        obtain⟨L,uU⟩:=sd ((aR vars (ee vars P []) ts).fresh)
        rw[show (rK vars M cds (ee vars P []) ⟨false,rl,ts⟩ []).fresh=L from uU.symm]at y2 wR
        have yz:Hid (∀v∈L,v<i):=zN (fun v hv=>by
         rw[uU]at hv
         obtain⟨-,t,ht,h1,rfl⟩:=(dJ (fun t ht=>HS.out.at' _ (jf sE) t (by rw[←ha];exact ht))).1 hv
         rw[tn.out]
         exact bR (HS.out.at' _ (jf sE) t (by rw[←ha];exact ht) h1))
        have yy:=zN uU
        have xg:L.length≤1000:=by
         rw[uU]
         exact jr (ii (ee vars P []) (bg vars ts) ts.length).2.2.1 sT
        obtain⟨nf,sD⟩:=sd L.length
        rw[←sD]at xg
        rw[←sD]at y2 wR
        obtain⟨z7,Ai,yW,-,uT⟩:=wR
        injection yW with e2a e2b e2c
        subst e2a
        have yx:=zN uT;have uc:=zN sD
        have xl:w8.heap.size≤yp.heap.size:=uo.out.size
        clear hL uU uT e2b e2c sD
        go_wp2_with fail
        clear y2
        go_loopw [98] (fun t wr=>∃p:Nat,p≤nf∧t=.int .i64 (p:Int)∧Hid (Bk wr gB 3 ((bdC i (fun v=>if v∈L.take p then k9+1 else bdP vars P v)).map I64))∧Hid (Fr (fun b=>b=gB) yp wr)) (fun t _=>nf-(intOf t).toNat)
        case atStart=>exact⟨0,jn _,rfl,by simpa using um,zN (Fr.refl _ _)⟩
        case round =>
         obtain⟨p,hp,rfl,vH,sG⟩:=hrel
         obtain⟨Y,rfl⟩:∃Y:World,Y=wr:=⟨_,rfl⟩
         by_cases hpl:p<nf
         ·have p1:(0:Int)≤(p:Int):=by omega
          have p2:(p:Int)<(nf:Int):=by omega
          have uf:p<L.length:=by have:=uc.out;omega
          obtain⟨xE,rfl,xR,e0⟩:=yx.out.int (i:=p) (by simpa using uf)
          simp only[jy]at e0
          replace e0:=sG.out.cell e0 (by rw[aT];intro (e:xE.block=gB);have h9:w8.heap.size≤xE.block:=xR;omega)
          have yj:=yz.out _ (jf uf)
          have tg:=bdC_set (n:=i) (f:=fun v=>if v∈L.take p then k9+1 else bdP vars P v) (v:=L[p]) (k:=k9+1)
          have vd:(fun u=>if u=L[p] then k9+1 else (if u∈L.take p then k9+1 else bdP vars P u))=(fun v=>if v∈L.take (p+1) then k9+1 else bdP vars P v):=by
           funext u
           by_cases h1:u=L[p]
           ·rw[if_pos h1,if_pos ((oc uf u).2 (.inl h1))]
           ·rw[if_neg h1]
            by_cases h2:u∈L.take p
            ·rw[if_pos h2,if_pos ((oc uf u).2 (.inr h2))]
            ·rw[if_neg h2,if_neg (fun h=>((oc uf u).1 h).elim h1 h2)]
          rw[vd]at tg
          obtain⟨u,hu⟩:=sd (L[p])
          rw[←hu]at e0 yj tg
          have wL:=zN tg
          have v1:(0:Int)≤(u:Int):=by omega
          have v2:(u:Int)<(i:Int):=by omega
          have x0:=vH.out.cell (i:=u) (by rw[jk,mG];exact yj)
          have x1:=vH.out.free u
          obtain⟨y,hy⟩:∃y,some y=(Y.cell? ⟨gB,u,none⟩):=⟨_,x0.symm⟩
          have x2:=hy.symm
          clear tg vd hu uf xR x0 hy
          go_wp2_with fail
          go_roundw
          case rel=>exact⟨p+1,by omega,by go_num,zN (by
           have h:=vH.out.set u (.int .i64 ((k9+1:Nat):Int))
           rw[wL.out]at h
           exact h),zN (sG.out.setCell (p:=⟨gB,u,none⟩) (.inl rfl) _)⟩
          case measure=>simp[intOf];omega
         ·obtain rfl:p=nf:=by omega
          have y8:¬(p:Int)<(p:Int):=by omega
          have xL:(fun v=>if v∈L.take p then k9+1 else bdP vars P v)=bdP vars (gJ xs (q+1)):=by
           rw[uO.out,bdP_snoc,jp (by have:=uc.out;omega),yy.out,←ub.out]
          have sp:Rw fo Y w8.heap.size 229 (.slice (some wQ) (k9+1) c10) (gJ xs (q+1)).length (smL vars M cds (gJ xs (q+1)) []) (css++[[.map (some mb),u1,u2,u3,aB]]):=by
           rw[uO.out,rJ,jm,←ub.out]
           exact uP.out.fr sG.out (fun b hb e=>by omega)
          have wh:=zN sp;have we:Hid (Bk Y gB 3 ((bdC i (bdP vars (gJ xs (q+1)))).map I64)):=zN (by rw[←xL];exact vH.out)
          clear xL sp
          go_wp2_with fail
          go_roundw
          case rel=>exact⟨q+1,_,by omega,by go_num,wh,we,zN (uo.out.trans sG.out),zN (fun c hc=>by
           rcases ju.1 hc with hc|hc
           ·exact sY.out c hc
           ·rw[jq.1 hc];exact⟨_,_,_,_,rfl⟩)⟩
          case measure=>simp[intOf];omega
       ·have uM:=zN (vL.out rfl)
        clear sj ug tf sA sB sy kx hx1
        go_upto_region 20 with fail
        generalize (X.alloc (.cells #[.bool true,.string rl,.slice Bt ts.length dt] 49))=X1 at *
        clear c0 c1 c2
        go_wp2_with fail
        go_roundw
        case rel=>exact⟨q+1,css,by omega,by go_num,zN (by rw[uM.out,←ub.out];exact wK.out),zN (by rw[uM.out];exact tD.out),xq,sY⟩
        case measure=>simp[intOf];omega
      ·obtain rfl:q=n:=by omega
       have AK:¬(q:Int)<(q:Int):=by omega
       obtain⟨R,hR⟩:∃R:Rl,R=⟨xs,cds⟩:=⟨_,rfl⟩
       have yY:P=bL R:=by rw[HP.out,hR,←posQ_all];simp only;rw[←HN.out]
       subst yY
       have tM:=zN hR
       obtain⟨SS,ue⟩:=sd (smL vars M cds (bL R) [])
       rw[←ue]at HR
       have wU:SS.length=k9:=by rw[ue,mO,ub.out]
       have tu:∀s∈SS,s.nots=[]:=by
        rw[ue]
        clear ue wU
        generalize bL R=l
        generalize ([]:List Nat)=B0
        induction l generalizing B0 with
        | nil=>intro s hs;simp[smL]at hs
        | cons a l ih =>
         intro s hs
         rcases jB.1 hs with rfl|hs
         ·rfl
         ·exact ih _ s hs
       have uL:=zN tu;have yM:=zN ue;have tp:=zN wU
       obtain⟨vS,zY⟩:=sd (Value.slice As k9 cs)
       have vC:StB X w8.heap.size (.slice As k9 cs) css SS (fun q=>(F q∧q<w.heap.size∨w.heap.size≤q)∧(Value.slice As k9 cs).ownBlock≠some q) (fun _=>aB):=StB.of (F:=F) HR.out sY.out (fun k h1 h2=>⟨.inr (by omega),h2⟩) (fun q hq h=>h.2 hq)
       have uX:Fam lV X X.heap.size 220 (fun q=>(F q∧q<w.heap.size∨w.heap.size≤q)∧(Value.slice As k9 cs).ownBlock≠some q) (fun _=>aB) (fun _=>[]) (ngP vars M R 0):=by rw[ngP_zero];exact Fam.nil _ _ _ _ _
       have sr:∀q,(Value.slice As k9 cs).ownBlock=some q→w8.heap.size≤q∧q<X.heap.size:=fun q hq=>⟨aw HR.out.own hq,aV HR.out.own hq⟩
       have sg:=zN sr;have wM:=zN vC;have wk:=zN uX
       have wm:Hid (∀q,(F q∧q<w.heap.size)∨X.heap.size≤q→(F q∧q<w.heap.size∨w.heap.size≤q)∧(Value.slice As k9 cs).ownBlock≠some q):=zN (fun q hq=>by
        rcases hq with hq|hq
        ·exact⟨.inl hq,fun e=>by have:=sr q e;omega⟩
        ·exact⟨.inr (by omega),fun e=>by have:=sr q e;omega⟩)
       have uw:=zN (tI.out.fr sV.out (by omega));have uB:=zN (tJ.out.fr sV.out (by omega));have wu:=zN (ww.out.fr sV.out (by omega))
       have yu:=zN (HD.out.mono (G:=fun k=>F k∧k<w.heap.size) (fun k h1 h2=>⟨h2,h1⟩))
       have a0:=uw.out.c0
       clear zY vC uX sr ue wU tu hR tI tJ ww sY HR
       go_wp2_with fail
       clear a0
       go_loopw [112,21] (fun t vF wr=>∃(p:Nat) (css:List (List Value)) (G:Nat→Prop) (val:Option Nat→Value) (us:Option Nat→List (List Value)),p≤q∧t=.int .i64 (p:Int)∧vF=val none∧Hid (StB wr w8.heap.size (.slice As k9 cs) css SS G val)∧Hid (Fam lV wr X.heap.size 220 G val us (ngP vars M R p))∧Hid (∀q,(F q∧q<w.heap.size)∨wr.heap.size≤q→G q)∧Hid (∀q,G q→(F q∧q<w.heap.size)∨w.heap.size≤q)∧Hid (Fr (fun b=>(Value.slice As k9 cs).ownBlock=some b) X wr)) (fun t _ _=>q-(intOf t).toNat)
       case atStart=>exact⟨0,_,_,_,_,jn _,rfl,rfl,wM,wk,wm,zN (fun q hq=>hq.1),zN (Fr.refl _ _)⟩
       case round =>
        obtain⟨p,css,G,val,us,hp,rfl,rfl,xD,wj,ua,uv,sG⟩:=hrel
        obtain⟨Y,rfl⟩:∃Y:World,Y=wr:=⟨_,rfl⟩
        have uS:=zN (sG.out.new uR.out (fun b hb=>by have:=(sg.out b hb).1;omega))
        have AB:X.heap.size≤Y.heap.size:=sG.out.size
        by_cases hpl:p<q
        ·have i1:(0:Int)≤(p:Int):=by omega
         have i2:(p:Int)<(q:Int):=by omega
         have tw:p<xs.length:=by have:=HN.out;omega
         obtain⟨ad,Bt,dt,rfl,-,c0,c1,c2,hd,sy⟩:=xm.out p tw
         replace c0:=uS.out.cell c0;replace c1:=uS.out.cell c1;replace c2:=uS.out.cell c2
         have sB:=HZ.out.tms _ (jf tw)
         have tj:=HZ.out.rel _ (jf tw)
         have sA:=HS.out.at' _ (jf tw)
         have sT:=xo.out _ (jf tw)
         have vQ:=ri HS.out (jf tw)
         obtain⟨x,sj⟩:=HM.out _ (jf tw)
         obtain⟨a,ha⟩:=sd (xs[p])
         have vV:R.ats[p]?=some a:=by rw[tM.out,ha];exact jl tw
         (try simp only at sB);(try simp only at tj);(try simp only at sA);(try simp only at sj);(try simp only at sT);(try simp only at vQ)
         rw[←tM.out]at vQ
         rw[←ha]at c0 c1 c2 hd sy sB tj sA sj sT vQ
         have wF:=zN (fun h=>ngP_pos' (vars:=vars) (M:=M) vV h);have wE:=zN (fun h (o:Option Nat) (ho:eZ vars R a=idO o)=>ngP_neg' (vars:=vars) (M:=M) vV h ho)
         obtain⟨la,te⟩:=sd (eZ vars R a)
         have wt:=zN te
         rw[←te]at vQ
         obtain⟨ng,rl,ts⟩:=a
         simp only at c0 c1 c2 hd sy sB tj sA sj sT wF wE
         have kx:=Bk.new Y 49 [.bool ng,.string rl,.slice Bt ts.length dt]
         change Bk (Y.alloc (.cells #[.bool ng,.string rl,.slice Bt ts.length dt] 49)) _ _ _ at kx
         have hx1:Ext Y (Y.alloc (.cells #[.bool ng,.string rl,.slice Bt ts.length dt] 49)):=(Ext.refl Y).alloc _
         have g0:=kx.c0;have g1:=kx.c1;have g2:=kx.c2
         have tN:=zN (xD.out.ext hx1);have tF:=zN (wj.out.ext hx1);have tG:=zN (sG.out.ext hx1);have tO:=zN (uS.out.trans hx1)
         have y5:=hx1.size
         rcases ng with _|_
         ·have yE:=zN (wF.out rfl)
          have wn:Hid (∀u,(F u∧u<w.heap.size)∨(Y.alloc (.cells #[.bool false,.string rl,.slice Bt ts.length dt] 49)).heap.size≤u→G u):=zN (fun u hu=>ua.out u (hu.imp_right (fun h=>by omega)))
          clear kx hx1 sj sA sB sy te vV ha
          go_upto_region 32 with fail
          generalize (Y.alloc (.cells #[.bool false,.string rl,.slice Bt ts.length dt] 49))=Y1 at *
          clear c0 c1 c2
          go_wp2_with fail
          go_roundw
          case rel=>exact⟨p+1,css,G,val,us,by omega,by go_num,by trivial,tN,zN (by rw[yE.out];exact tF.out),wn,uv,tG⟩
          case measure=>simp[intOf];omega
         ·have xA:=zN (wE.out rfl)
          have ye:∀u,(Value.slice As k9 cs).ownBlock=some u→u<X.heap.size:=fun u hu=>(sg.out u hu).2
          have uG:=zN ((uB.out.fr sG.out (fun e=>by have:=(sg.out _ e).1;omega)).ext hx1);have xz:=zN ((wu.out.fr sG.out (fun e=>by have:=(sg.out _ e).1;omega)).ext hx1)
          have un:=zN ((wa.out.fr sG.out (fun e=>by have:=(sg.out _ e).1;omega)).ext hx1)
          have uK:=zN (newneg_any (ng:=true) (d:=dt) (num:=dl vars) (yu.out.ext tO.out) sj tj (sy.ext tO.out) sT xz.out (fun t ht=>⟨(sB t ht).1,lk vars t.var⟩))
          have wD:Hid (gi vars M ⟨true,rl,ts⟩=⟨x.rel.ar,x.rel.rows,bg vars ts,ts.map Tm.vl⟩):=zN (by unfold gi aS;simp only;rw[sj];rfl)
          have yO:=zN sA
          obtain⟨nr,yc⟩:=sd x.rel.rows.length
          obtain⟨ra,vy⟩:=sd x.rel.ar
          obtain⟨nt,vo⟩:=sd ts.length
          rw[←vo]at g0 g1 g2 sT uK tO tN tF tG uG xz un y5
          have vK:=zN vo;have yF:=zN yc;have xB:=zN vy
          clear sj sA sB sy hx1 te vV ha wF wE
          rw[←vo]at kx c2
          clear vo yc vy
          go_upto_region 32 with fail
          generalize (Y.alloc (.cells #[.bool true,.string rl,.slice Bt nt dt] 49))=Y1 at *
          clear c0 c1 c2 kx
          have b0:=uG.out.c0
          go_wp2_with fail
          refine uK.out.mono ?_
          rintro e Y2 ⟨wW,Ar,cr,u,v,rfl,xj,vp,vU⟩
          rw[←yF.out]at xj ⊢
          rw[←xB.out]
          obtain⟨Au,cu,rfl⟩:=af vp
          obtain⟨Av,sC,rfl⟩:=af vU
          rw[←vK.out]at vp vU ⊢
          have yb:lV.R G Y2 [.int .i64 ra,.slice Ar nr cr,.slice Au nt cu,.slice Av nt sC] (gi vars M ⟨true,rl,ts⟩):=by
           rw[wD.out]
           exact⟨_,_,_,by rw[←xB.out],xj.mono (by decide) (fun u _ hu=>ua.out u (.inl hu)),(Ins.of_own vp).mono (fun u _ hu=>ua.out u (.inr (by omega))),(mM vU).mono (by decide) (fun u _ hu=>ua.out u (.inr (by omega)))⟩
          have zZ:=(Ins.of_own vp).ext ((Ext.refl Y2).alloc (.cells #[.int .i64 ra,.slice Ar nr cr,.slice Au nt cu,.slice Av nt sC] 220))
          have hx3:=wW.trans ((Ext.refl Y2).alloc (.cells #[.int .i64 ra,.slice Ar nr cr,.slice Au nt cu,.slice Av nt sC] 220))
          have se:=zN (tN.out.ext hx3);have sw:=zN (tF.out.ext hx3);have ut:=zN (tG.out.ext hx3);have wc:=zN (un.out.ext hx3)
          have sX:=zN (lV.ext yb ((Ext.refl Y2).alloc (.cells #[.int .i64 ra,.slice Ar nr cr,.slice Au nt cu,.slice Av nt sC] 220)))
          have AR:=wW.size
          have kn:=Bk.new Y2 220 [.int .i64 ra,.slice Ar nr cr,.slice Au nt cu,.slice Av nt sC]
          change Bk (Y2.alloc (.cells #[.int .i64 ra,.slice Ar nr cr,.slice Au nt cu,.slice Av nt sC] 220)) _ _ _ at kn
          have uH:=zN kn
          have n2:=kn.c2
          have xh:=kn.lt
          clear g0 g1 g2 b0 yb xj vp vU wW kn hx3
          go_upto_region 34 with fail
          obtain⟨gn,xW⟩:=sd Y2.heap.size
          rw[←xW]at n2 uH xh ⊢
          generalize (Y2.alloc (.cells #[.int .i64 ra,.slice Ar nr cr,.slice Au nt cu,.slice Av nt sC] 220))=Y3 at *
          have AC:X.heap.size≤gn:=by omega
          have AD:Y.heap.size≤gn:=by omega
          clear xW
          obtain⟨Au',Aj,ez,-,yo⟩:=zZ
          injection ez with ez1 ez2 ez3
          subst ez1
          have vG:Cl _ Y3 Au ((bg vars ts).map I64):=yo
          have yU:=zN vG;have z8:=zN ez2
          clear vG
          clear yo ez2 ez3
          go_wp2_with fail
          clear n2
          go_loopw [126,25] (fun t l wr=>∃j:Nat,j≤nt∧t=.int .i64 (j:Int)∧l=.int .i64 ((dH (bdP vars (bL R)) ((bg vars ts).take j) 0:Nat):Int)∧Y3=wr) (fun t _ _=>nt-(intOf t).toNat)
          case atStart=>exact⟨0,jn _,rfl,rfl,by trivial⟩
          case round =>
           obtain⟨j,hj,rfl,rfl,rfl⟩:=hrel
           by_cases hjt:j<nt
           ·have j1:(0:Int)≤(j:Int):=by omega
            have j2:(j:Int)<(nt:Int):=by omega
            have wX:j<(bg vars ts).length:=by have:=vK.out;simp[bg];omega
            have xX:j<ts.length:=by have:=vK.out;omega
            obtain⟨Ah,rfl,-,z0⟩:=yU.out.int wX
            have vB:=nL (bdP vars (bL R)) (bg vars ts)[j] ((bg vars ts).take j) 0
            rw[←jj wX]at vB
            have vY:(bg vars ts)[j]<0∨∃u:Nat,(bg vars ts)[j]=(u:Int)∧u<i:=by
             have e:(bg vars ts)[j]=dl vars ts[j].var:=by simp[bg]
             rw[e]
             by_cases h0:ts[j].var=⟨#[]⟩
             ·left;have:dl vars ts[j].var = -1:=if_pos h0
              omega
             ·right
              have hm:=yO.out _ (jf xX) h0
              exact⟨_,cE h0 hm,by rw[tn.out];exact bR hm⟩
            obtain⟨v,hv⟩:=sd ((bg vars ts)[j])
            rw[←hv]at z0 vB vY
            obtain⟨l1,xY⟩:=sd (dH (bdP vars (bL R)) ((bg vars ts).take j) 0)
            rw[←xY]at vB ⊢
            have sx:=zN vB
            clear hv vB xY wX xX
            rcases vY with tR|⟨u,rfl,vX⟩
            ·have n0:¬(0:Int)≤v:=by omega
             have HL:Hid (dH (bdP vars (bL R)) ((bg vars ts).take (j+1)) 0=l1):=zN (by rw[sx.out,if_pos tR])
             clear tR
             go_wp2_with fail
             go_roundw
             case rel=>exact⟨j+1,by omega,by go_num,by rw[HL.out],by trivial⟩
             case measure=>simp[intOf];omega
            ·have u0:(0:Int)≤(u:Int):=by omega
             have u2:(u:Int)<(i:Int):=by omega
             have b1:=wc.out.cell (i:=u) (by rw[jk,mG];exact vX)
             rw[jy,bdC_at]at b1
             simp only[I64]at b1
             have HL:Hid (dH (bdP vars (bL R)) ((bg vars ts).take (j+1)) 0=max l1 (bdP vars (bL R) u)):=zN (by rw[sx.out,if_neg (by omega),jL])
             obtain⟨bu,xM⟩:=sd (bdP vars (bL R) u)
             rw[←xM]at b1 HL
             clear xM
             go_wp2_with fail
             go_roundw
             case rel=>exact⟨j+1,by omega,by go_num,by rw[HL.out];congr 1;omega,by trivial⟩
             case measure=>simp[intOf];omega
           ·obtain rfl:j=nt:=by omega
            have AH:¬(j:Int)<(j:Int):=by omega
            have xZ:dH (bdP vars (bL R)) ((bg vars ts).take j) 0=la:=by
             rw[jp (by have:=vK.out;simp[bg];omega),wt.out]
             rfl
            rw[xZ]
            have vT:=ngP_len vars M R p
            have AN:p≤100:=by omega
            obtain⟨j0,tq,tA,tB,tC⟩:=info_parts info_neg
            have sh:=zN (And.intro tq (And.intro tA (And.intro tB tC)));clear tq tA tB tC
            have n0:=uH.out.c0;have n1:=uH.out.c1;have n2:=uH.out.c2;have n3:=uH.out.c3
            have Az:X.heap.size≤Y3.heap.size:=by omega
            clear xZ
            by_cases hla0:la=0
            ·have wA:=zN (xA.out none (by rw[←wt.out,hla0];rfl))
             subst hla0
             have sL:=sw.out.own none
             obtain⟨Af,cf,ef⟩:=af sL
             rw[ef]at sL ⊢
             have sM:=zN ef
             have tS:=vT none
             obtain⟨nf,sD⟩:=sd ((ngP vars M R p none).length)
             rw[←sD]at sL sM tS ⊢
             have uc:=zN sD;have tL:=zN sL
             clear sL ef sD vT
             go_wp2_with (first
              | (at_builtin;refine aq rfl _ _ 216 rfl X.heap.size 220 j0 (.agg #[.int .i64 0,aB,aB,aB]) 4 80 Tryz.underlying216 sh.out.1 sh.out.2.1 sh.out.2.2.1 sh.out.2.2.2 rfl (by omega) (.slice Af nf cf) nf (us none).flatten rfl (aD tL.out ((Ext.refl Y3).alloc _)) ⟨Y3.heap.size,0,none⟩ 1 1 [.int .i64 ra,.slice Ar nr cr,.slice Au j cu,.slice Av j sC] rfl rfl (aE Y3 _ _) (ng_one sX.out) (by simp only[maxLen];omega) (by omega) (by simp;omega) ?_;intro v9 w9 su sq sS;have sF:=(Ext.refl Y3).alloc (.cells #[.int .i64 ra,.slice Ar nr cr,.slice Au j cu,.slice Av j sC] 220);have uZ:=sw.out.push (o:=none) sF (by rw[←uc.out];exact su) (sM.out.symm ▸ sq) (sM.out.symm ▸ sS) (lV.ext sX.out sF);have uh:=se.out.beside sF tL.out (by decide) (fun q e=>sw.out.out none q (by rw[sM.out];exact e)) sq sS;have vw:=(ut.out.ext sF).grown sq (fun b hb=>.inr (aw tL.out hb));have sK:=(fun (u:Nat) (e:v9.ownBlock=some u)=>aV su e);have wZ:=jr sF.size sq.size;have sJ:=(fun (u:Nat) (e:v9.ownBlock=some u)=>aw su e);have sU:=zN uZ;have sI:=zN uh;have wI:=zN vw;have tK:=zN sK;have sW:=zN sJ;clear su sS sF uZ uh sq vw sK sJ))
             have zU:∀u,(Value.slice As k9 cs).ownBlock=some u→v9.ownBlock≠some u:=fun u hu e=>by
              have h1:=(sg.out u hu).2
              have h2:=sW.out _ e
              omega
             have th:=sI.out.atFirst (v9:=v9)
             have sx:=zN th
             go_roundw
             case rel=>exact⟨p+1,css,_,_,_,by omega,by go_num,by rw[du],sx,zN (by rw[wA.out];exact sU.out),zN (fun u hu=>⟨ua.out u (hu.imp_right (fun h=>by omega)),fun e=>by
              rcases hu with hu|hu
              ·have:=sW.out _ e;omega
              ·have:=tK.out _ e;omega⟩),zN (fun u hu=>uv.out u hu.1),wI⟩
             case measure=>simp[intOf];omega
            ·obtain⟨s,hs⟩:∃s,la=s+1:=⟨la-1,by omega⟩
             subst hs
             have wA:=zN (xA.out (some s) (by rw[←wt.out];rfl))
             have tU:s<k9:=by have:=ub.out;omega
             have sL:=sw.out.own (some s)
             obtain⟨Af,cf,ef⟩:=af sL
             rw[ef]at sL
             have sM:=zN ef
             have tS:=vT (some s)
             obtain⟨nf,sD⟩:=sd ((ngP vars M R p (some s)).length)
             rw[←sD]at sL sM tS
             have uc:=zN sD;have tL:=zN sL
             have zR:k9=SS.length:=tp.out.symm
             obtain⟨sN,eS⟩:∃g,As=some (⟨g,0,none⟩:Addr):=by
              rcases se.out.own.2 with ⟨e,e2⟩|⟨g,cap,Al,e,-⟩
              ·injection e with e e3
               have:=tU
               omega
              ·injection e with e
               exact⟨g,e⟩
             subst eS
             obtain⟨bS,w1,AT,AW,eC,-⟩:=se.out.rd s (by rw[tp.out];exact tU) (by rw[se.out.len,tp.out];exact tU)
             have ta:Y3.cell? ⟨sN,s*5+4,none⟩=some (.slice Af nf cf):=by
              have h1:=(Cl.of_own se.out.own)
              obtain⟨A0,c0,e0,-,sy⟩:=h1
              injection e0 with e0
              subst e0
              have h2:=dW se.out.all (i:=s) (j:=4) (by rw[se.out.len,tp.out];exact tU) (by decide)
              rw[eC]at h2
              obtain⟨ad,e3,-,h4⟩:=sy.at' (h2.trans (by simp[sM.out];rfl))
              injection e3 with e3
              subst e3
              rw[cJ]at h4
              exact h4
             have s1:=(Ext.refl Y3).drew.cell ta
             have s2:=((Ext.refl Y3).alloc (.cells #[.int .i64 ra,.slice Ar nr cr,.slice Au j cu,.slice Av j sC] 220)).cell ta
             have s3:=((Ext.refl Y3).alloc (.cells #[.int .i64 ra,.slice Ar nr cr,.slice Au j cu,.slice Av j sC] 220)).drew.cell ta
             have j1:(0:Int)≤(s:Int):=by omega
             have j2:(s:Int)<(k9:Int):=by omega
             have e1:IntKind.i64.wrap (((s+1:Nat):Int)-1)=(s:Int):=by
              rw[show ((s+1:Nat):Int)-1=(s:Int) by omega]
              exact IntWalk.i64_in _ (by omega)
             have ew:IntKind.i64.wrap (s:Int)=(s:Int):=IntWalk.i64_in _ (by omega)
             have e0:(((s+1:Nat):Int) == 0)=false:=by simp;omega
             clear sL ef sD vT eC zR hla0
             go_upto_region 42 with fail
             go_region_law (first
              | (refine bO (by rfl) _ _ _ (by rfl) X.heap.size 220 j0 (.agg #[.int .i64 0,aB,aB,aB]) 4 80 Tryz.underlying216 sh.out.1 sh.out.2.1 sh.out.2.2.1 sh.out.2.2.2 rfl (by omega) (.slice Af nf cf) nf (us (some s)).flatten (by rfl) (by refine aD tL.out ?_;repeat (first|exact Ext.refl _|refine Ext.drew ?_|refine Ext.alloc ?_ _)) ⟨Y3.heap.size,0,none⟩ 1 1 [.int .i64 ra,.slice Ar nr cr,.slice Au j cu,.slice Av j sC] (by rfl) (by rfl) (by exact aE Y3 _ _) (by exact ng_one sX.out) (by simp only[maxLen];omega) (by omega) (by simp;omega) ?_;intro v9 w9 su sq sS;obtain⟨A9,c9,rfl⟩:=af su;have uZ:=sw.out.push (o:=some s) (by (repeat (first|exact Ext.refl _|refine Ext.drew ?_|refine Ext.alloc ?_ _))) (by rw[←uc.out];exact su) (sM.out.symm ▸ sq) (sM.out.symm ▸ sS) (by refine lV.ext sX.out ?_;repeat (first|exact Ext.refl _|refine Ext.drew ?_|refine Ext.alloc ?_ _));have uh:=se.out.beside (by (repeat (first|exact Ext.refl _|refine Ext.drew ?_|refine Ext.alloc ?_ _))) tL.out (by decide) (fun q e=>sw.out.out (some s) q (by rw[sM.out];exact e)) sq sS;have vw:=(ut.out.ext (by (repeat (first|exact Ext.refl _|refine Ext.drew ?_|refine Ext.alloc ?_ _)))).grown sq (fun b hb=>.inr (aw tL.out hb));have sK:=(fun (u:Nat) (e:(Value.slice A9 (nf+1) c9).ownBlock=some u)=>aV su e);have wZ:Y3.heap.size≤w9.heap.size:=jr (by simp) sq.size;have sJ:=(fun (u:Nat) (e:(Value.slice A9 (nf+1) c9).ownBlock=some u)=>aw su e);have zX:w9.ownsRow w8.heap.size 229 5 (.slice (some ⟨sN,0,none⟩) k9 cs) k9 css.flatten:=(by have h:=uh.own;rw[tp.out]at h;exact h);obtain⟨⟨y9,t9⟩,g9⟩:=bt zX (i:=s*5+4) (by omega);have sU:=zN uZ;have sI:=zN uh;have wI:=zN vw;have tK:=zN sK;have sW:=zN sJ;clear su sS uZ uh sq vw sK sJ))
             all_goals
              have th:StB (w9.setCell ⟨sN,s*5+4,none⟩ (.slice A9 (nf+1) c9)) w8.heap.size (.slice (some ⟨sN,0,none⟩) k9 cs) (css.set s ((css[s]'(by rw[se.out.len,tp.out];exact tU)).set 4 (.slice A9 (nf+1) c9))) SS (fun u=>G u∧(Value.slice A9 (nf+1) c9).ownBlock≠some u) (gL val (some s) (.slice A9 (nf+1) c9)):=StB.put' tp.out sI.out tU (by rw[se.out.len,tp.out];exact tU)
              have tc:Fr (fun u=>u=sN) w9 (w9.setCell ⟨sN,s*5+4,none⟩ (.slice A9 (nf+1) c9)):=(Fr.refl (fun u=>u=sN) w9).setCell (p:=⟨sN,s*5+4,none⟩) (.inl rfl) _
              have uY:=sU.out.fr tc (fun o u hu e=>nN (sU.out.own o) sI.out.own (by decide) hu (by rw[e];rfl)) (fun u hu e=>sI.out.out u (by rw[e];rfl) hu)
              have vu:=wI.out.trans (tc.mono (T:=fun b=>(Value.slice (some (⟨sN,0,none⟩:Addr)) k9 cs).ownBlock=some b) (fun u _ e=>by rw[e];rfl))
              have sx:=zN th;have wl:=zN uY;have wH:=zN vu
              have xl:w9.heap.size≤(w9.setCell ⟨sN,s*5+4,none⟩ (.slice A9 (nf+1) c9)).heap.size:=tc.size
              clear th tc uY vu s1 s2 s3 ta t9 g9 n0 n1 n2 n3 e1 ew e0
              go_wp2_with fail
              go_roundw
              case rel=>exact⟨p+1,_,_,_,_,by omega,by go_num,by rw[dR (by simp)],sx,zN (by rw[wA.out];exact wl.out),zN (fun u hu=>⟨ua.out u (hu.imp_right (fun h=>by omega)),fun e=>by
               rcases hu with hu|hu
               ·have:=sW.out _ e;omega
               ·have:=tK.out _ e;omega⟩),zN (fun u hu=>uv.out u hu.1),wH⟩
              case measure=>simp[intOf];omega
        ·obtain rfl:p=q:=by omega
         have y8:¬(p:Int)<(p:Int):=by omega
         have tP:∀o,ngP vars M R p o=(iM vars R (idO o)).map (gi vars M):=fun o=>by
          rw[show p=R.ats.length from by rw[tM.out];exact HN.out]
          exact ngP_all R o
         have sp:=xD.out.fin (K:=fun u=>F u∨w.heap.size≤u) wj.out uL.out (fun u hu=>(uv.out u hu).imp_left (fun h=>h.1)) (fun u hu=>.inr (by omega)) (fun u hu=>.inr (by omega))
         have vz:=wj.out.sl (K:=fun u=>F u∨w.heap.size≤u) (by decide) none (fun u hu=>(uv.out u hu).imp_left (fun h=>h.1)) (fun u hu=>.inr (by omega))
         rw[tP none]at vz
         have vA:(SS.zipIdx.map (fun t=>({ t.1 with nots:=ngP vars M R p (some t.2) }:Sm)))=smF vars M R:=by
          unfold smF
          rw[yM.out,show R.cds=cds from by rw[tM.out]]
          refine zH (fun t _=>?_)
          rw[tP (some t.2)]
          rfl
         rw[vA]at sp
         obtain⟨Af,cf,ef⟩:=vz.sl
         rw[jk]at ef
         rw[ef]at vz ⊢
         have tQ:=sp.cap.1
         have uN:Hid (PP (.returned (.tuple #[.slice As k9 cs,.slice Af (iM vars R (idO none)).length cf])) Y):=zN (by
          rw[yI.out]
          refine⟨uS.out,As,cs,Af,cf,?_,?_,?_⟩
          ·rw[←tM.out,←tQ,jk]
           rfl
          ·rw[←tM.out,←tQ]
           exact sp
          ·rw[←tM.out,jk]
           exact vz)
         clear tP sp vz vA ef tQ
         go_wp2_with fail
         exact uN.out
