/- packed -/
import Derived.Test.YtplldnnnhgnbjaaGreatDoorMv28
import Derived.Test.YtplldnnnhgnbjaaGreatDoorMv32
import Derived.Test.YtplldnnnhgnbjaaGreatDoorMv31
import Derived.Sort.WalkA
import Derived.Sort.WalkB2
import Derived.Sort.WalkB12
import Derived.Deep.LoopGhost
import Derived.Sort.Lot0
set_option maxRecDepth 100000
set_option maxHeartbeats 12800000
namespace Go.Proofs.YtplldnnnhgnbjaaGreatDoor
open Go.RowKit Go.Maps
theorem lH{s:Stp}{f:List Vl→List (List Vl)×List Vl}{m:Nat}(hf:∀y,(f y).1.length≤m):∀(l:List (List Vl)) (acc:List (List Vl)×List Vl),(eH s f l acc).1.length≤acc.1.length+l.length*m
 | [],acc=>by simp[eH]
 | c::l,acc=>by
  rw[eH]
  split
  ·refine jr (lH hf l _) ?_
   rw[jD,Nat.succ_mul]
   show acc.1.length+_≤_
   omega
  ·refine jr (lH hf l _) ?_
   rw[jD,Nat.succ_mul]
   show (acc.1++(f _).1).length+_≤_
   rw[jm]
   have:=hf (cz acc.2 c (s.fresh.zip s.frm))
   omega
def rv(l:List Stp):Nat:=l.foldr (fun s k=>max s.rows.length 1*k) 1
theorem sb:∀(l:List Stp) (y:List Vl),(cC l y).1.length≤rv l
 | [],_=>jo _
 | s::l,y=>by
  rw[cC]
  refine jr (lH (sb l) _ _) ?_
  have h1:(fT s y).length≤max s.rows.length 1:=jr (jF _ _) (Nat.le_max_left _ _)
  have h2:=jW (rv l) h1
  show 0+(fT s y).length*rv l≤max s.rows.length 1*rv l
  omega
def bM(M:Dm)(l:List At):Nat:=l.foldr (fun a k=>max (aS M a.rel).length 1*k) 1
theorem n9{vars:List ByteArray}{M:Dm}{cds:List Cd}{bad:Nat→List Vl→Bool}:∀(l:List At) (B:List Nat) (k:Nat),rv (gu vars M cds bad l B k)≤bM M l
 | [],_,_=>jo _
 | a::l,B,k=>by
  have ih:=n9 (vars:=vars) (M:=M) (cds:=cds) (bad:=bad) l (B++(aR vars B a.terms).fresh) (k+1)
  show max (mA vars M cds B a (bad (k+1))).rows.length 1*_≤max (aS M a.rel).length 1*bM M l
  refine Nat.mul_le_mul ?_ ih
  have h1:(mA vars M cds B a (bad (k+1))).rows.length≤(aS M a.rel).length:=jF _ _
  omega
theorem sat_count{M:Dm}{vars:List ByteArray}{r:Rl}(hs:eF vars r)(hr:∀a∈r.ats,∀x∈aS M a.rel,x.length=a.terms.length)(hn:∀a∈r.ats,(aS M a.rel).Nodup){L:List (List Vl)}(hL:L.Nodup)(hm:∀z,z∈L↔z.length=vars.length∧eO M vars r z):L.length≤bM M (bL r):=by
 rcases hf:fW M vars r (dq vars.length) with _|_
 ·have h:=rt hs hr hn (y:=dq vars.length) (by simp[dq]) hf
  have hp:L.Perm (cC (nP M vars r) (dq vars.length)).1:=(List.perm_ext_iff_of_nodup hL h.1).2 (fun z=>(hm z).trans (h.2 z).symm)
  rw[hp.length_eq]
  exact jr (sb _ _) (n9 _ _ _)
 ·have h0:L=[]:=List.eq_nil_iff_forall_not_mem.2 (fun z hz=>nG hs hf z ((hm z).1 hz).2)
  rw[h0]
  exact jn _
end Go.Proofs.YtplldnnnhgnbjaaGreatDoor
namespace Go.Proofs.YtplldnnnhgnbjaaGreatDoor
open Go.RowKit Go.Maps
def iI(base gs gr bm:Nat)(rows:List (List Vl))(O:Nat→Prop)(W:World):Prop :=
 ∃F v us,Bk W gs 121 [.map (some bm)]∧aI W bm rows.length (iR rows)∧Bk W gr 38 [v]∧OwR F W base v us.length us rows∧¬F bm∧¬F gr∧(∀q,O q→q<W.heap.size)∧O gs∧O gr∧O bm∧(∀q,F q→O q)∧∀q,v.ownBlock=some q→O q
theorem iI.keep{base gs gr bm:Nat}{rows:List (List Vl)}{O T:Nat→Prop}{W W':World}(h:iI base gs gr bm rows O W)(hf:Fr T W W')(ht:∀q,T q→¬O q):iI base gs gr bm rows O W':=by
 obtain⟨F,v,us,h1,h2,h3,h4,h5,h6,h7,h8,h9,h10,h11,h12⟩:=h
 exact⟨F,v,us,h1.fr hf (fun e=>ht _ e h8),h2.fr hf (fun e=>ht _ e h10),h3.fr hf (fun e=>ht _ e h9),h4.fr hf (fun k hk e=>ht _ e (h12 k hk)) (fun k hk e=>ht _ e (h11 k hk)),h5,h6,fun q hq=>jE (h7 q hq) hf.size,h8,h9,h10,h11,h12⟩
theorem iI.ext{base gs gr bm:Nat}{rows:List (List Vl)}{O:Nat→Prop}{W W':World}(h:iI base gs gr bm rows O W)(he:Ext W W'):iI base gs gr bm rows O W':=h.keep (he.fr (fun _=>False)) (fun _ h=>h.elim)
theorem iI.st{base gs gr bm gh p c B:Nat}{H:Option Addr}{cols:List Int}{rows:List (List Vl)}{O:Nat→Prop}{W W1:World}(h1:∀q,O q→q<W1.heap.size)(h:iI base gs gr bm rows O W)(hb:Bk W gh 63 [.slice H p c])(hc:W.ownsRow B 3 1 (.slice H p c) p (cols.map I64))(hB:W1.heap.size≤B)(hx:W1.heap.size≤W.heap.size) :
  AnsSt base gh gs gr bm p c H (fun q=>(Value.slice H p c).ownBlock=some q∧B≤q) cols rows [] (fun q=>O q∨q=gh∨(Value.slice H p c).ownBlock=some q) W:=by
 obtain⟨F,v,us,k1,k2,k3,k4,k5,k6,k7,k8,k9,se,si,sg⟩:=h
 refine⟨F,v,us,⟨hb,Ins.of_own hc,k1,k2,k3,k4,k5,k6,fun q hq=>?_⟩,?_,.inr (.inl rfl),.inl k8,.inl k9,.inl se,fun q hq=>.inr (.inr hq.1),fun q hq=>.inl (si q hq),fun q hq=>.inl (sg q hq)⟩
 ·have sh:=aV hc hq.1
  refine⟨fun e=>?_,fun e=>?_,fun e=>?_,sh⟩
  ·have:=h1 _ se;have:=hq.2;omega
  ·have:=h1 _ k9;have:=hq.2;omega
  ·have:=h1 _ (sg q e);have:=hq.2;omega
 ·rintro q (hq|hq|hq)
  ·exact k7 q hq
  ·rw[hq];exact hb.lt
  ·exact aV hc hq
theorem iI.of{base gh gs gr bm p c:Nat}{H:Option Addr}{G O:Nat→Prop}{cols:List Int}{rows L:List (List Vl)}{W:World}(h:AnsSt base gh gs gr bm p c H G cols rows L O W):iI base gs gr bm (cB cols rows L) O W:=by
 obtain⟨F,v,us,hB,h1,h2,h3,h4,h5,h6,h7,h8⟩:=h
 exact⟨F,v,us,hB.seen,hB.map,hB.box,hB.own,hB.fm,hB.fr',h1,h3,h4,h5,h7,h8⟩
structure mU(M:Dm)(q:Qy)(i:Nat)(rows:List (List Vl)):Prop where
 nd:rows.Nodup
 ln:rows.length≤i*1500
 mem:∀x,x∈rows↔∃r∈q.rs.take i,∃y:List Vl,y.length=(aj r).length∧eO M (aj r) r y∧x=be (aC (aj r) q.hd) y
theorem mU.more{M:Dm}{q:Qy}{i:Nat}{rows L:List (List Vl)}(h:mU M q i rows)(hi:i<q.rs.length)(hl:L.length≤1500)(hm:∀z,z∈L↔z.length=(aj q.rs[i]).length∧eO M (aj q.rs[i]) q.rs[i] z):mU M q (i+1) (cB (aC (aj q.rs[i]) q.hd) rows L):=by
 refine⟨mj h.nd,?_,fun x=>?_⟩
 ·have h1:=fx (aC (aj q.rs[i]) q.hd) rows L
  have h2:=h.ln
  rw[Nat.succ_mul]
  omega
 ·rw[ix,h.mem,jj hi]
  constructor
  ·rintro(⟨r,hr,k⟩|⟨z,hz,e⟩)
   ·exact⟨r,jP _ hr,k⟩
   ·exact⟨q.rs[i],zq _ (jq.2 rfl),z,((hm z).1 hz).1,((hm z).1 hz).2,e⟩
  ·rintro⟨r,hr,y,k1,k2,k3⟩
   rcases ju.1 hr with hr|hr
   ·exact .inl ⟨r,hr,y,k1,k2,k3⟩
   ·rw[jq]at hr
    subst hr
    exact .inr ⟨y,(hm y).2 ⟨k1,k2⟩,k3⟩
def mg(M:Dm)(q:Qy)(ev:Int)(w:World)(e:Ending)(w':World):Prop :=
 Ext w w'∧((ev≠0∧e=.returned (.tuple #[.slice none 0 0,.int .i64 ev]))∨(ev=0∧q.ag≠0∧e=.returned (.tuple #[.slice none 0 0,.int .i64 1]))∨(ev=0∧q.ag=0∧∃A n c R,e=.returned (.tuple #[.slice A n c,.int .i64 0])∧iP M q R∧Sl aG (fun k=>w.heap.size≤k) w' (.slice A n c) R))
theorem ans_ok{M:Dm}{q:Qy}(hc:mC M q){rows R:List (List Vl)}(h:mU M q q.rs.length rows)(ha:lD (cN q.hd q.od) R)(hp:R.Perm rows):iP M q R:=by
 have hv:=fun r (hr:r∈q.rs)=>ep hc hr
 have se:∀x,x∈R↔ansP M q x:=fun x=>by
  rw[hp.mem_iff,h.mem,jT]
  unfold ansP
  constructor
  ·rintro⟨r,hr,y,k1,k2,k3⟩
   obtain⟨σ,j1,j2⟩:=(oY (dE (hv r hr).1) (hv r hr).2.2 x).1 ⟨y,k1,k2,k3⟩
   exact⟨r,hr,σ,j1,j2⟩
  ·rintro⟨r,hr,σ,j1,j2⟩
   obtain⟨y,k1,k2,k3⟩:=(oY (dE (hv r hr).1) (hv r hr).2.2 x).2 ⟨σ,j1,j2⟩
   exact⟨r,hr,y,k1,k2,k3⟩
 refine⟨se,mZ (g8 hc.1.hd) hc.1.od ha (hp.nodup_iff.2 h.nd) (fun x hx=>?_)⟩
 obtain⟨r,-,σ,-,rfl⟩:=(se x).1 hx
 rw[jk]
theorem rows_len{M:Dm}{q:Qy}{i:Nat}{rows:List (List Vl)}(h:mU M q i rows):∀x∈rows,x.length=q.hd.length:=fun x hx=>by
 obtain⟨r,-,y,-,-,rfl⟩:=(h.mem x).1 hx
 unfold be aC
 rw[jk,jk]
theorem cols_in{r:Rl}{hd:List ByteArray}(h:∀s∈hd,s∈aj r):∀x∈aC (aj r) hd,0≤x∧x<((aj r).length:Int):=fun x hx=>by
 unfold aC at hx
 obtain⟨s,hs,rfl⟩:=jG.1 hx
 rw[fC (r8 r) (h s hs)]
 have:=bR (h s hs)
 omega
theorem fL{M:Dm}{r:Rl}(hd:mD M)(hv:bC M r=0)(hh:bM M (bL r)≤1500){L:List (List Vl)}(hL:L.Nodup)(hm:∀z,z∈L↔z.length=(aj r).length∧eO M (aj r) r z):L.length≤1500 :=
 jr (sat_count (dE hv) (fun a ha x hx=>((cX hd hv ha).2.1 x hx).1) (fun a ha=>rL (cX hd hv ha).2.2.2) hL hm) hh
theorem eN{nd:List ByteArray}{r:Rl}(h:pD nd r):r.ats.length≤90∧(∀a∈r.ats,a.terms.length≤1000)∧r.cds.length≤1000∧(aj r).length≤8 :=
 ⟨jr h.la (by omega),fun a ha=>jr (pH (h.at' a ha)).2.1 (by omega),jr h.lc (by omega),h.vs⟩
def AnsEach(M:Dm)(q:Qy)(r:Rl)(gs gr bm gq gd:Nat)(rows:List (List Vl))(w W2:World)(e:Ending)(W3:World):Prop :=
 e=.returned (.int .i64 0)∧∃L O,iI w.heap.size gs gr bm (cB (aC (aj r) q.hd) rows L) O W3∧Ext w W3∧(¬O gq∧¬O gd∧∀q,O q→w.heap.size≤q)∧(∀t xs,Bk W2 gq t xs→Bk W3 gq t xs)∧(∀t xs,Bk W2 gd t xs→Bk W3 gd t xs)∧L.length≤1500∧∀z,z∈L↔z.length=(aj r).length∧eO M (aj r) r z
theorem ans_each{F G H OB:Nat→Prop}{w W1 W2:World}{sv vc t12 t36 t39:Value}{r:Rl}{q:Qy}{b nb gs gr bm gq gd:Nat}{M:Dm}{rows:List (List Vl)}(hA:Ats F w sv r.ats)(sB:Sl eL G w vc r.cds)(hD:DbB H w b nb M)(hz:RlZ r)(hd:mD M)(hc:mC M q)(hr:r∈q.rs)(hh:bM M (bL r)≤1500)(sq:eG w)(hX:Ext w W1)(hT:iI w.heap.size gs gr bm rows OB W1)(si:¬OB gq∧¬OB gd∧∀q,OB q→w.heap.size≤q)(sH:rows.length≤100000)(hg:gq<W1.heap.size∧gd<W1.heap.size)(hC:dF W1 r q.hd true true true true t12 t36 t39 W2) :
  Calls Tryz.prog 49 #[.agg #[sv,vc],.agg #[.map (some b)],.func (.func 50) #[] #[t12,.pointer (some ⟨gs,0,none⟩),.pointer (some ⟨gr,0,none⟩)]] W2 (AnsEach M q r gs gr bm gq gd rows w W2):=by
 obtain⟨hv,sF,sC⟩:=ep hc hr
 obtain⟨k1,k2,k3,k4⟩:=eN sF
 obtain⟨gh,rfl,sG,sy⟩:=hC.h5 rfl
 obtain⟨B,hB,sg⟩:=hC.h4 rfl
 obtain⟨Hc,c,rfl⟩:=af sg
 rw[if_pos rfl]at sy
 have hx12:=hC.ext
 have sw:=hx12.size
 have sh:=hX.trans hx12
 have sI:=hX.size
 have sA:=iI.st (W1:=W1) (fun q hq=>by obtain⟨F,v,us,h1,h2,h3,h4,h5,h6,h7,-⟩:=hT;exact h7 q hq) (hT.ext hx12) sy sg hB sw
 have se:∀k,(OB k∨k=gh∨(Value.slice Hc q.hd.length c).ownBlock=some k)→w.heap.size≤k:=fun k hk=>by
  rcases hk with h|h|h
  ·exact si.2.2 k h
  ·omega
  ·have:=aw sg h;omega
 have su:∀g,g<W1.heap.size→¬OB g→¬(OB g∨g=gh∨(Value.slice Hc q.hd.length c).ownBlock=some g):=fun g h1 h2 hk=>by
  rcases hk with h|h|h
  ·exact h2 h
  ·omega
  ·have:=aw sg h;omega
 have sD:∀k,(OB k∨k=gh∨(Value.slice Hc q.hd.length c).ownBlock=some k)→k<W2.heap.size:=fun k hk=>by
  obtain⟨F,v,us,-,h1,-⟩:=sA
  exact h1 k hk
 refine(nF (N:=1500) (wT:=w) (hA.ext sh) (sB.ext sh) ((hD.mono (G:=fun k=>H k∧k<w.heap.size) (fun k h1 h2=>⟨h2,h1⟩)).ext sh) hz k1 k2 k3 hd sq sh (fun _ _=>rfl) (fun gx h1 _ _=>ans_vis (jo _) (by omega) (cols_in sC) (by have:=ia hc.1.hd;omega) sq) (fun _ L' hL hm=>by rw[jQ,jY];exact fL hd hv hh hL hm) sA sD se (fun k hk _ hO=>by have:=se k hO;have:=hk.2;omega)).mono ?_
 rintro e W3 ⟨he,L,O',hS,sr,sx,hL⟩
 rw[hv]at he
 rcases hL with ⟨h0,-⟩|⟨-,sE,hm⟩
 ·exact absurd hv h0
 rw[ze]at hS
 have sj:∀k,O' k→w.heap.size≤k:=fun k hk=>(sx k hk).elim (se k) (fun h=>by have:=sh.size;omega)
 have sp:∀g,g<W1.heap.size→¬OB g→¬O' g:=fun g h1 h2 hk=>(sx g hk).elim (su g h1 h2) (fun h=>by omega)
 exact⟨he,L,O',iI.of hS,sr.new sh se,⟨sp gq hg.1 si.1,sp gd hg.2 si.2.1,sj⟩,fun t xs hb=>hb.fr sr (su gq hg.1 si.1),fun t xs hb=>hb.fr sr (su gd hg.2 si.2.1),fL hd hv hh sE hm,hm⟩
theorem rM{F:Nat→Prop}{W0 V W:World}{base:Nat}{v vf:Value}{us:List Value}{rows:List (List Vl)}{hd:List ByteArray}{od:List Ky}(hO:OwR F W0 base v us.length us rows)(hV:Ext W0 V)(hp:dm hd od V (.returned vf) W)(hr:∀x∈rows,x.length=hd.length)(hn:us.length≤1048576)(h1:hd.Nodup)(h2:dp hd od=0)(h3:(aP hd od).length≤1000000) :
  Calls Tryz.prog 53 #[v,vf] W (fun e w'=>e=.returned (.tuple #[])∧∃sh R,lD (cN hd od) R∧R.Perm rows∧OwR F w' base v us.length sh R∧W.grownBy w' v.ownBlock∧Ext W0 W):=by
 obtain⟨hE,gC,gK,C,D,c3,c4,e,k1,k2,k3,k4,k5,k6⟩:=hp
 injection e with e
 subst e
 have se:=hV.trans hE
 have sg:=hO.ext se
 have hs:=hV.size
 rcases hO.own.2 with ⟨e,si⟩|⟨g,cap,sq,e,-⟩
 ·subst e
  have hl:=hO.len
  have sp:rows=[]:=jZ (by omega)
  rw[si]
  refine pq.mono ?_
  rintro e w' ⟨rfl,rfl⟩
  subst sp
  exact⟨rfl,us,[],List.Pairwise.nil,List.Perm.nil,by rw[si]at sg;exact sg,kC _ _,se⟩
 ·subst e
  have hg:g<W0.heap.size:=aV hO.own rfl
  refine(sort_cmpq sg hr hn k5 k6 k3 k4 (colsQ_in h1 h2) h3 (by omega) (by omega) (fun k hk=>by omega) (fun k hk=>by omega)).mono ?_
  rintro e w' ⟨rfl,sj,sh,R,j1,j2,j3⟩
  exact⟨rfl,sh,R,j1,j2,j3,sj,se⟩
theorem mo{F H:Nat→Prop}{w:World}{A B O_:Option Addr}{ca cb co b nb:Nat}{q:Qy}{M:Dm}{l0:List ByteArray}(h:QyR F w A ca B cb O_ co q)(hD:DbB H w b nb M)(hz:QyZ q)(uJ:q.od.length≤100000)(hd:mD M)(uK:nb≤1000000)(tq:bU M l0)(hh:∀r∈q.rs,bM M (bL r)≤1500)(sL:eG w) :
  Calls Tryz.prog 14 #[.agg #[.slice A q.hd.length ca,.int .i64 q.ag,.string q.av,.slice B q.rs.length cb,.slice O_ q.od.length co],.agg #[.map (some b)]] w (mg M q (aZ (cH M l0) q) w):=by
 have k2:=bH w 28 33 [.slice A q.hd.length ca,.int .i64 q.ag,.string q.av,.slice B q.rs.length cb,.slice O_ q.od.length co] [.map (some b)]
 have hx:=((Ext.refl w).alloc (.cells #[.slice A q.hd.length ca,.int .i64 q.ag,.string q.av,.slice B q.rs.length cb,.slice O_ q.od.length co] 28)).alloc (.cells #[.map (some b)] 33)
 have tL:=fun (V:World) (hV:Ext w V)=>im (hD.ext hV) uK hd.key
 have sM:=fun (V:World) (S:Option Addr) (n c:Nat) (l:List ByteArray) (G:Nat→Prop) (hV:Ext w V) (h1:bU M l) (h2:l.length≤nb) (hs:Sl el G V (.slice S n c) (cH M l))=>(mq h1 tq q) ▸ oL (h.ext hV) hs hz (by omega) (by unfold cH;rw[jk];simp only[maxLen];omega)
 have sx:Hid (aZ (cH M l0) q=0→mC M q):=zN (fun e=>(mH tq).1 e)
 obtain⟨ev,su⟩:=sd (aZ (cH M l0) q)
 rw[←su]at sx
 obtain⟨PP,sI⟩:=sd (mg M q (aZ (cH M l0) q) w)
 have uw:Hid (∀V,Ext w V→ev≠0→PP (.returned (.tuple #[.slice none 0 0,.int .i64 ev])) V):=zN (fun V hV h0=>by rw[sI,←su];exact⟨hV,.inl ⟨h0,rfl⟩⟩)
 have ux:Hid (∀V,Ext w V→ev=0→q.ag≠0→PP (.returned (.tuple #[.slice none 0 0,.int .i64 1])) V):=zN (fun V hV h0 h1=>by rw[sI,←su];exact⟨hV,.inr (.inl ⟨h0,h1,rfl⟩)⟩)
 have uy:Hid (∀V (A:Option Addr) (n c:Nat) (R:List (List Vl)),Ext w V→ev=0→q.ag=0→iP M q R→Sl aG (fun k=>w.heap.size≤k) V (.slice A n c) R→PP (.returned (.tuple #[.slice A n c,.int .i64 0])) V):=zN (fun V A n c R hV h0 h1 h2 h3=>by rw[sI,←su];exact⟨hV,.inr (.inr ⟨h0,h1,A,n,c,R,rfl,h2,h3⟩)⟩)
 rw[←su]at sM
 rw[←sI]
 have HH:=zN h;have HD:=zN hD;have HZ:=zN hz;have uo:=zN hd;have ut:=zN hh;have tf:=zN sL
 have uR:=@run_makeMap Tryz.prog
 have sA:=zN (fun (V:World) (hV:Ext w V) (uI:q.hd.length≤100000)=>gW (ca:=ca) (cb:=cb) (co:=co) (nb:=q.rs.length) (ag:=q.ag) (av:=q.av) (B:=B) (h.hd.ext hV) (h.od.ext hV) hz.hd hz.od uI uJ)
 obtain⟨nh,tt⟩:=sd q.hd.length
 obtain⟨nr,tu⟩:=sd q.rs.length
 obtain⟨no,ub⟩:=sd q.od.length
 obtain⟨ag,tj⟩:=sd q.ag
 obtain⟨av,tP⟩:=sd q.av
 rw[←tt,←tu,←ub,←tj,←tP]at k2 hx sM sA ⊢
 have sF:=zN tt;have tc:=zN tu;have tD:=zN tj;have uP:=zN su
 have sG:=zN (fun (V:World) (hV:Ext _ V)=>tL V (hx.trans hV))
 have sy:=zN (fun (V:World) (S:Option Addr) (n c:Nat) (l:List ByteArray) (G:Nat→Prop) (hV:Ext _ V)=>sM V S n c l G (hx.trans hV))
 clear h hD hz hd hh sL tq su sI tt tu ub tj tP tL sM
 go_enter Tryz.func14,Tryz.ntmps14
 go_upto_region 1 with fail
 change Bk ((w.alloc (.cells #[.slice A nh ca,.int .i64 ag,.string av,.slice B nr cb,.slice O_ no co] 28)).alloc (.cells #[.map (some b)] 33)) _ _ _∧Bk ((w.alloc (.cells #[.slice A nh ca,.int .i64 ag,.string av,.slice B nr cb,.slice O_ no co] 28)).alloc (.cells #[.map (some b)] 33)) _ _ _ at k2
 generalize ((w.alloc (.cells #[.slice A nh ca,.int .i64 ag,.string av,.slice B nr cb,.slice O_ no co] 28)).alloc (.cells #[.map (some b)] 33))=w1 at *
 obtain⟨kq,kd⟩:=k2
 obtain⟨gd,tn⟩:=sd (w.heap.size+1)
 obtain⟨gq,tT⟩:=sd w.heap.size
 rw[←tn]at kd ⊢
 rw[←tT]at kq tn ⊢
 have tS:w.heap.size≤gq∧gq<w1.heap.size∧gd<w1.heap.size∧w.heap.size≤gd:=⟨by omega,kq.lt,kd.lt,by omega⟩
 have tH:=zN tS
 clear tS tn tT
 have b0:=kq.c0;have b1:=kq.c1;have b2:=kq.c2;have b3:=kq.c3;have b4:=kq.c4;have b5:=kd.c0
 have sh:=zN kq;have sN:=zN kd;have uC:=zN hx
 clear kq kd hx
 refine cS ?_
 intro KK si
 refine chk_regA b0 b1 b2 b3 b4 b5 sG sy ?_
 intro t6 t14 t17 t18 t19 t20 w2 hx2
 have sP:=zN (uC.out.trans hx2)
 have sD:=zN (sh.out.ext hx2);have sW:=zN (sN.out.ext hx2)
 have uS:=hx2.size
 clear hx2 b0 b1 b2 b3 b4 b5 sG sy
 rw[si]
 clear si KK
 by_cases h0:ev=0
 ·have g0:(ev != 0)=false:=by rw[h0];rfl
  have b1:=sD.out.c1
  have HC:=zN (sx.out h0)
  have tF:=zN h0
  clear h0
  by_cases ha:ag=0
  ·have g1:(ag != 0)=false:=by rw[ha];rfl
   have um:=zN ha
   clear ha
   have tY:=HC.out.1.hd
   have sV:Hid (nh≤6):=zN (by rw[sF.out];exact ia tY)
   have tK:Hid (nr≤3):=zN (by rw[tc.out];exact HC.out.1.l3.1)
   have tw:=tK.out
   clear tY
   have hm:=aI.made w2
   have ui:=(Ext.refl w2).alloc (.map #[] 0)
   have k3:=bH (w2.alloc (.map #[] 0)) 121 38 [.map (some w2.heap.size)] [.slice none 0 0]
   simp only[World.size_alloc]at k3
   have hx3:=(ui.alloc (.cells #[.map (some w2.heap.size)] 121)).alloc (.cells #[.slice none 0 0] 38)
   have sT:aI _ w2.heap.size 0 (fun _=>none):=hm.ext (((Ext.refl _).alloc (.cells #[.map (some w2.heap.size)] 121)).alloc (.cells #[.slice none 0 0] 38))
   clear hm ui
   go_upto_region 8 with fail
   clear b1
   change Bk (((w2.alloc (.map #[] 0)).alloc (.cells #[.map (some w2.heap.size)] 121)).alloc (.cells #[.slice none 0 0] 38)) _ _ _∧Bk (((w2.alloc (.map #[] 0)).alloc (.cells #[.map (some w2.heap.size)] 121)).alloc (.cells #[.slice none 0 0] 38)) _ _ _ at k3
   generalize (((w2.alloc (.map #[] 0)).alloc (.cells #[.map (some w2.heap.size)] 121)).alloc (.cells #[.slice none 0 0] 38))=w3 at *
   obtain⟨kS,kR⟩:=k3
   obtain⟨gr,tU⟩:=sd (w2.heap.size+1+1)
   obtain⟨gs,tW⟩:=sd (w2.heap.size+1)
   obtain⟨bm,tR⟩:=sd w2.heap.size
   rw[←tU]at kR ⊢
   rw[←tW]at kS ⊢
   rw[←tR]at kS sT
   have tN:iI w.heap.size gs gr bm [] (fun q=>q=bm∨q=gs∨q=gr) w3:=by
    have l1:=kS.lt;have l2:=kR.lt;have l3:=sT.lt
    refine⟨fun _=>False,.slice none 0 0,[],kS,sT,kR,OwR.nil _ _ _,fun h=>h,fun h=>h,?_,.inr (.inl rfl),.inr (.inr rfl),.inl rfl,fun _ h=>h.elim,fun q hq=>by cases hq⟩
    rintro q (rfl|rfl|rfl) <;> assumption
   have tM:=zN tN
   have uF:=tH.out
   have tB:=sP.out.size
   have tJ:Hid (¬(gq=bm∨gq=gs∨gq=gr)∧¬(gd=bm∨gd=gs∨gd=gr)∧∀q,(q=bm∨q=gs∨q=gr)→w.heap.size≤q):=zN ⟨by omega,by omega,by rintro q (rfl|rfl|rfl) <;> omega⟩
   have sQ:=zN (sP.out.trans hx3)
   have sr:=zN (sD.out.ext hx3);have sC:=zN (sW.out.ext hx3)
   have b3:=sr.out.c3
   clear tN kS kR sT uF tB hx3 tU tW tR
   go_wp2_with fail
   go_loopw [31] (fun t wr=>∃(i:Nat) (O:Nat→Prop) (rows:List (List Vl)),i≤nr∧t=.int .i64 (i:Int)∧Hid (iI w.heap.size gs gr bm rows O wr)∧Hid (¬O gq∧¬O gd∧∀q,O q→w.heap.size≤q)∧Hid (mU M q i rows)∧Hid (Ext w wr)∧Hid (Bk wr gq 28 [.slice A nh ca,.int .i64 ag,.string av,.slice B nr cb,.slice O_ no co])∧Hid (Bk wr gd 33 [.map (some b)])) (fun t _=>nr-(intOf t).toNat)
   case atStart=>exact⟨0,_,[],jn _,rfl,tM,tJ,zN ⟨zC,jn _,fun x=>by simp⟩,sQ,sr,sC⟩
   case round =>
    obtain⟨i,OB,rows,hi,rfl,HT,HO,td,HX,sh,sN⟩:=hrel
    obtain⟨W,rfl⟩:∃W:World,W=wr:=⟨_,rfl⟩
    clear tM tJ sQ sr sC b3
    by_cases hlt:i<nr
    ·have i1:(0:Int)≤(i:Int):=by omega
     have i2:(i:Int)<(nr:Int):=by omega
     have sS:i<q.rs.length:=by have:=tc.out;omega
     obtain⟨ad,B1,d1,C1,e1,rfl,-,f0,f1,tg,th⟩:=HH.out.rs.rl sS
     replace f0:=HX.out.cell f0;replace f1:=HX.out.cell f1
     have sK:q.rs[i]∈q.rs:=jf sS
     have tC:=HZ.out.rs _ sK
     obtain⟨uM,tA,uH⟩:=ep HC.out sK
     obtain⟨m1,m2,m3,m4⟩:=eN tA
     obtain⟨tQ,-⟩:=ie (lr (iH.2 tA)).1 tC
     have tp:=fun L hl hm=>td.out.more (L:=L) sS hl hm
     have uf:rows.length≤100000:=by
      have h1:=td.out.ln
      have h2:i*1500≤3*1500:=jW _ (by have:=tK.out;omega)
      omega
     have ue:=ut.out _ sK
     have sp:=HX.out.alloc (.cells #[.slice B1 q.rs[i].ats.length d1,.slice C1 q.rs[i].cds.length e1] 46)
     have kt:=Bk.new W 46 [.slice B1 q.rs[i].ats.length d1,.slice C1 q.rs[i].cds.length e1]
     have sj:=(Ext.refl W).alloc (.cells #[.slice B1 q.rs[i].ats.length d1,.slice C1 q.rs[i].cds.length e1] 46)
     have sH:=zN (fun (V:World) (hV:Ext _ V)=>fN (tg.ext (sp.trans hV)) (th.ext (sp.trans hV)) tQ)
     have se:=fun (V:World) (B:Nat) (v:Value) (hV:Ext _ V) (hv:V.ownsRow B 9 1 v (aj q.rs[i]).length ((aj q.rs[i]).map Sv))=>(show Calls Tryz.prog 47 #[v,.slice A nh ca] V (Ret (fun x w'=>w'.ownsRow V.heap.size 3 1 x q.hd.length ((aC (aj q.rs[i]) q.hd).map I64)) V) from by
      obtain⟨A',c',rfl⟩:=af hv
      rw[sF.out]
      exact mr (Strs.of_own hv) (HH.out.hd.ext (sp.trans hV)) (by omega) (by have:=sV.out;have:=sF.out;omega))
     have sg:=fun (gq gd:Nat) (V:World) (t12 t36 t39:Value) (uD:¬OB gq∧¬OB gd∧∀q,OB q→w.heap.size≤q) (hg : _) (hC:dF _ q.rs[i] q.hd true true true true t12 t36 t39 V)=>ans_each (gq:=gq) (gd:=gd) tg th HD.out tC uo.out HC.out sK ue tf.out sp (HT.out.ext sj) uD uf hg hC
     obtain⟨r,hr⟩:=sd (q.rs[i])
     obtain⟨n1,tZ⟩:=sd r.ats.length
     obtain⟨n2,ua⟩:=sd r.cds.length
     rw[←hr]at f0 f1 tp sp kt sj sH se sg
     rw[←tZ]at f0 sp kt sj sH se sg
     rw[←ua]at f1 sp kt sj sH se sg
     have uq:=zN tp;have tE:=zN se;have tG:=zN sg
     clear tp se sg sK tC uM tA uH m1 m2 m3 m4 tQ uf ue tg th hr tZ ua sS
     go_upto_region 11 with fail
     change Bk (W.alloc (.cells #[.slice B1 n1 d1,.slice C1 n2 e1] 46)) _ _ _ at kt
     have b0:=(sh.out.ext sj).c0;have q0:=kt.c0;have q1:=kt.c1
     have uG:=tH.out
     have tI:Hid (gq<(W.alloc (.cells #[.slice B1 n1 d1,.slice C1 n2 e1] 46)).heap.size∧gd<(W.alloc (.cells #[.slice B1 n1 d1,.slice C1 n2 e1] 46)).heap.size):=zN (by
      have h1:=sh.out.lt;have h2:=sN.out.lt
      rw[World.size_alloc]
      omega)
     have sE:=zN (sh.out.ext sj);have sq:=zN (sN.out.ext sj);have sO:=zN kt
     obtain⟨W1,tO⟩:=sd (W.alloc (.cells #[.slice B1 n1 d1,.slice C1 n2 e1] 46))
     rw[←tO]at b0 q0 q1 sH tE tG tI sE sq sO ⊢
     obtain⟨gt,tX⟩:=sd W.heap.size
     rw[←tX]at q0 q1 sO ⊢
     clear sp kt sj uG f0 f1 tO tX
     refine cS ?_
     intro KK si
     refine col_regA b0 q0 q1 sH tE ?_
     intro t12 t36 t39 W2 hC
     have sB:=zN (tG.out gq gd _ _ _ _ HO.out tI.out hC)
     have hx12:=hC.ext
     have c0:=(sO.out.ext hx12).c0;have c1:=(sO.out.ext hx12).c1;have c2:=(sq.out.ext hx12).c0
     have sZ:=zN (sE.out.ext hx12);have sX:=zN (sq.out.ext hx12)
     clear hC hx12 b0 q0 q1
     rw[si]
     clear si KK
     go_wp2_with fail
     refine sB.out.mono ?_
     rintro e W3 ⟨rfl,L,O',k1,k2,k3,k4,k5,k6,k7⟩
     have uB:=zN k1;have sQ:=zN k2;have uv:=zN k3;have ta:=zN (k4 _ _ sZ.out);have sY:=zN (k5 _ _ sX.out);have te:=zN (uq.out L k6 k7)
     clear k1 k2 k3 k4 k5 k6 k7 c0 c1 c2
     go_wp2_with fail
     go_roundw
     case rel=>exact⟨i+1,O',_,by omega,by go_num,uB,uv,te,sQ,ta,sY⟩
     case measure=>simp[intOf];omega
    ·obtain rfl:i=nr:=by omega
     have uQ:¬(i:Int)<(i:Int):=by omega
     obtain⟨F1,v,us,j1,j2,j3,j4,j5,j6,j7,j8,j9,uN,uk,uO⟩:=HT.out
     have sJ:=td.out
     have uc:i=q.rs.length:=tc.out
     have uh:us.length≤1048576:=by
      have h1:=j4.len
      have h2:=sJ.ln
      have h3:i*1500≤3*1500:=jW _ tw
      omega
     have ud:(aP q.hd q.od).length≤1000000:=by
      unfold aP
      rw[jm,jk]
      have h1:=jF (fun v=>!decide (v∈q.od.map Ky.var)) q.hd
      have h2:=sV.out
      have h3:=sF.out
      omega
     have uA:=zN (fun (V X:World) (vf:Value) (hV:Ext W V) (hp:dm q.hd q.od V (.returned vf) X)=>rM j4 hV hp (rows_len sJ) uh (g8 HC.out.1.hd) HC.out.1.od ud)
     have un:=zN (fun (V:World) (hV:Ext W V)=>sA.out V (HX.out.trans hV) (by have:=sV.out;have:=sF.out;omega))
     have sU:Hid (∀X,(∃sw R,lD (cN q.hd q.od) R∧R.Perm rows∧OwR F1 X w.heap.size v us.length sw R∧(∃Y,Y.grownBy X v.ownBlock∧Ext W Y))→PP (.returned (.tuple #[v,.int .i64 0])) X∧Bk X gr 38 [v]):=zN (fun X hX=>by
      obtain⟨sw,R,q1,q2,q3,Y,q4,q5⟩:=hX
      have sR:=(j3.ext q5).fr (am q4) (fun e=>aQ j4.own j3 (by decide) e rfl)
      refine⟨?_,sR⟩
      have uE:Ext w X:=(HX.out.trans q5).grown q4 (fun k hk=>aw j4.own hk)
      have ug:=q3.sl (G:=fun k=>w.heap.size≤k) (fun k hk=>aw q3.own hk) (fun k hk=>HO.out.2.2 k (uk k hk))
      obtain⟨A3,c3,e3⟩:=af q3.own
      rw[e3]at ug ⊢
      rw[uc]at sJ
      exact uy.out X A3 _ c3 R uE tF.out (by rw[←tD.out];exact um.out) (ans_ok HC.out sJ q1 q2) ug)
     have uL:∃A n c,v=.slice A n c:=by
      obtain⟨A3,c3,e3⟩:=af j4.own
      exact⟨A3,_,c3,e3⟩
     have tz:v.oneCell'=true:=by
      obtain⟨A3,c3,e3⟩:=af j4.own
      rw[e3]
      rfl
     have b0:=sh.out.c0;have b1:=sh.out.c1;have b2:=sh.out.c2;have b3:=sh.out.c3;have b4:=sh.out.c4;have b5:=j3.c0
     clear j1 j2 j3 j4 j5 j6 j7 j8 j9 uN uk uO sJ uc uh ud
     go_upto_region 16 with fail
     refine cS ?_
     intro KK si
     refine srt_regA (P:=fun X=>∃sw R,lD (cN q.hd q.od) R∧R.Perm rows∧OwR F1 X w.heap.size v us.length sw R∧(∃Y,Y.grownBy X v.ownBlock∧Ext W Y)) b0 b1 b2 b3 b4 b5 tz un (zN (fun V X vf hV hp=>(uA.out V X vf hV hp).mono (by
      rintro e w' ⟨rfl,sw,R,q1,q2,q3,q4,q5⟩
      exact⟨rfl,sw,R,q1,q2,q3,X,q4,q5⟩))) ?_
     intro t48 t49 t50 t51 X hX
     obtain⟨hp,sR⟩:=sU.out X hX
     have HP:=zN hp
     have c0:=sR.c0
     clear hX hp sR b0 b1 b2 b3 b4 b5
     rw[si]
     clear si KK
     obtain⟨A3,n3,c3,rfl⟩:=uL
     go_wp2_with fail
     exact HP.out
  ·have g1:(ag != 0)=true:=bne_iff_ne.2 ha
   have HP:=zN (ux.out w2 sP.out tF.out (by rw[←tD.out];exact ha))
   clear ha
   go_wp2_with fail
   exact HP.out
 ·have g0:(ev != 0)=true:=bne_iff_ne.2 h0
  have HP:=zN (uw.out w2 sP.out h0)
  clear h0
  go_wp2_with fail
  exact HP.out
end Go.Proofs.YtplldnnnhgnbjaaGreatDoor
namespace Go.Proofs.YtplldnnnhgnbjaaGreatDoor
open Go.RowKit Go.Maps
structure pB(W:World)(base gr:Nat)(F:Nat→Prop)(rows:List (List Vl))(v:Value)(us:List Value):Prop where
 box:Bk W gr 38 [v]
 own:OwR F W base v us.length us rows
 fr':¬F gr
theorem pB.fr{W W':World}{S F:Nat→Prop}{base gr:Nat}{rows:List (List Vl)}{v:Value}{us:List Value}(h:pB W base gr F rows v us)(hf:Fr S W W')(h3:¬S gr)(h6:∀q,F q→¬S q)(h7:∀q,v.ownBlock=some q→¬S q):pB W' base gr F rows v us :=
 ⟨h.box.fr hf h3,h.own.fr hf h7 h6,h.fr'⟩
def iw(base gr:Nat)(F:Nat→Prop)(rows:List (List Vl))(v:Value)(W:World)(e:Ending)(W':World):Prop :=
 e=.returned (.tuple #[])∧∃F' v' us',pB W' base gr F' rows v' us'∧Fr (fun q=>q=gr∨v.ownBlock=some q) W W'∧(∀q,F' q→F q∨(W.heap.size≤q∧q<W'.heap.size))∧∀q,v'.ownBlock=some q→v.ownBlock=some q∨(W.heap.size≤q∧q<W'.heap.size)
theorem pB.step{W W1 W2 W9:World}{F:Nat→Prop}{base gr nu n c0 c1:Nat}{A A1:Option Addr}{rows:List (List Vl)}{us:List Value}{y:List Vl}{o:Obj}(hO:pB W base gr F rows (.slice A nu c0) us)(hn:nu=us.length)(sq:Ext W W1)(hy:Sl aM (fun k=>W.heap.size≤k∧k<W1.heap.size) W1 (.slice A1 n c1) y)(sg:Ext W1 W2){v9:Value}(si:W9.ownsRow base 74 1 v9 (nu+1) (us++[.slice A1 n c1]))(se:(W2.alloc o).grownBy W9 (Value.slice A nu c0).ownBlock)(sr:df (W2.alloc o) (.slice A nu c0) v9)(sp:base≤W.heap.size) :
  iw base gr F (rows++[y]) (.slice A nu c0) W (.returned (.tuple #[])) (W9.setCell ⟨gr,0,none⟩ v9):=by
 subst hn
 have he:=(sq.trans sg).alloc o
 have sC:=sq.size;have sD:=sg.size
 have sy:∀k,(Value.slice A us.length c0).ownBlock=some k→k<W.heap.size:=fun k hk=>aV hO.own.own hk
 have sB:gr<W.heap.size:=hO.box.lt
 have sw:Bk W9 gr 38 [.slice A us.length c0]:=Bk.fr (hO.box.ext he) (am se) (fun e=>aQ hO.own.own hO.box (by decide) e rfl)
 have sj:Fr (fun k=>k=gr) W9 (W9.setCell ⟨gr,0,none⟩ v9):=Fr.setCell (S:=fun k=>k=gr) (Fr.refl _ W9) (p:=⟨gr,0,none⟩) (.inl rfl) _
 have sA:=se.size
 rw[World.size_alloc]at sA
 have hl:∀q,v9.ownBlock=some q→(Value.slice A us.length c0).ownBlock=some q∨(W.heap.size≤q∧q<W9.heap.size):=fun q hq=>by
  rcases sr with h|h
  ·exact .inl (h ▸ hq)
  ·have h3:=aV si hq
   rw[h]at hq
   injection hq with hq
   rw[World.size_alloc]at hq
   right
   omega
 have su:(W9.setCell ⟨gr,0,none⟩ v9).heap.size=W9.heap.size:=World.size_setCell _ _ _
 have hx3:Sl aM (fun k=>(F k∨(W.heap.size≤k∧k<W1.heap.size))∧(Value.slice A us.length c0).ownBlock≠some k∧k<(W2.alloc o).heap.size) (W2.alloc o) (.slice A1 n c1) y :=
  (hy.ext (sg.alloc o)).mono (by decide) (fun k h1 hk=>⟨.inr hk,fun e=>by have:=sy k e;omega,h1⟩)
 have sh:=OwR.more2 (F':=fun k=>F k∨(W.heap.size≤k∧k<W1.heap.size)) (hO.own.ext he) (Ext.refl _) hx3 (fun k hk=>.inl hk) si se sr
 have sx:Fr (fun q=>q=gr∨(Value.slice A us.length c0).ownBlock=some q) W (W9.setCell ⟨gr,0,none⟩ v9):=Fr.setCell (Fr.comp (he.fr _) (am se) (fun k hk=>.inl (.inr hk))) (.inl (.inl rfl)) _
 refine⟨rfl,fun k=>F k∨(W.heap.size≤k∧k<W1.heap.size),v9,us++[.slice A1 n c1],⟨sw.set 0 _,?_,?_⟩,sx,?_,?_⟩
 ·have h9:=sh.fr sj (fun k hk e=>by subst e;exact aQ si sw (by decide) hk rfl) (fun k hk e=>by
   subst e
   rcases hk with hk|hk
   ·exact hO.fr' hk
   ·omega)
  rw[show (us++[Value.slice A1 n c1]).length=us.length+1 by simp]
  exact h9
 ·rintro(hk|hk)
  ·exact hO.fr' hk
  ·omega
 ·rintro q (hq|hq)
  ·exact .inl hq
  ·exact .inr ⟨hq.1,by rw[su];omega⟩
 ·intro q hq
  exact(hl q hq).imp_right (fun h=>⟨h.1,by rw[su];exact h.2⟩)
def AsgSt(base gr:Nat)(L:List (List Vl))(O:Nat→Prop)(W:World):Prop :=
 ∃F v us,pB W base gr F L v us∧(∀q,O q→q<W.heap.size)∧O gr∧(∀q,F q→O q)∧∀q,v.ownBlock=some q→O q
noncomputable def asgRg:Code:=((Tryz.f56.body.bind (aK 0)).getD .skip)
def AsgI(W0:World)(base gr n nu c0:Nat)(A:Option Addr)(F:Nat→Prop)(rows:List (List Vl))(y:List Vl)(p:Nat)(a:Bool)(t3 t5 t6 t7:Value)(W:World):Prop :=
 (a=true→t3=.slice A nu c0)∧(p=0→Ext W0 W) ∧
 (p=1→∃A1 c1 W1,t5=.slice A1 n c1∧Ext W0 W1∧Sl aM (fun k=>W0.heap.size≤k∧k<W1.heap.size) W1 (.slice A1 n c1) y∧Ext W1 W) ∧
 (p=2→∃A1 c1 W1 W2,Ext W0 W1∧Sl aM (fun k=>W0.heap.size≤k∧k<W1.heap.size) W1 (.slice A1 n c1) y∧Ext W1 W2∧W=W2.alloc (.cells #[.slice A1 n c1] 74)∧t6=.slice (some ⟨W2.heap.size,0,none⟩) 1 1) ∧
 (p=3→∃A9 c9,t7=.slice A9 (nu+1) c9∧Bk W gr 38 [.slice A nu c0]∧iw base gr F (rows++[y]) (.slice A nu c0) W0 (.returned (.tuple #[])) (W.setCell ⟨gr,0,none⟩ (.slice A9 (nu+1) c9))) ∧
 (p=4→iw base gr F (rows++[y]) (.slice A nu c0) W0 (.returned (.tuple #[])) W)
def lA(p:Nat)(a:Bool):Array Bool:=#[a,true,decide (1≤p),decide (2≤p),decide (3≤p),decide (4≤p)]
def AsgJ(W0:World)(base gr n nu c0:Nat)(A:Option Addr)(F:Nat→Prop)(rows:List (List Vl))(y:List Vl)(G:Value→Value→Value→Value→Act)(m:Nat)(l:Array Bool)(act:Act)(W:World):Prop :=
 ∃p a t3 t5 t6 t7,m+p+a.toNat=5∧p≤4∧(3≤p→a=true)∧l=lA p a∧act=G t3 t5 t6 t7∧AsgI W0 base gr n nu c0 A F rows y p a t3 t5 t6 t7 W
theorem asg_reg{K:Act→World→Prop}{Q:Exit→Act→World→Prop}{W0:World}{base gr gx n nu c0:Nat}{A:Option Addr}{F:Nat→Prop}{rows:List (List Vl)}{y:List Vl}{us:List Value}{u2 u3 u4 u5 u6 u7:Value}(hO:pB W0 base gr F rows (.slice A nu c0) us)(sw:nu=us.length)(sg:base≤W0.heap.size)(sH:nu≤1048576)(sp:Hid (∀V,Ext W0 V→Calls Tryz.prog 57 #[.slice (some ⟨gx,0,none⟩) n n] V (Ret (fun x w'=>∃A' c',x=.slice A' n c'∧Sl aM (fun k=>V.heap.size≤k) w' x y) V)))(hK:∀t3 t5 t6 t7 W,iw base gr F (rows++[y]) (.slice A nu c0) W0 (.returned (.tuple #[])) W→K ⟨#[.slice (some ⟨gx,0,none⟩) n n,.pointer (some ⟨gr,0,none⟩),u2,t3,.slice (some ⟨gx,0,none⟩) n n,t5,t6,t7],[]⟩ W) :
  Code.wp Tryz.prog asgRg (Exit.then K Q) ⟨#[.slice (some ⟨gx,0,none⟩) n n,.pointer (some ⟨gr,0,none⟩),u2,u3,u4,u5,u6,u7],[]⟩ W0:=by
 have HK:=zN hK
 obtain⟨i0,su,sA,sB,sC⟩:=info_parts lM
 have sh:=zN (And.intro su (And.intro sA (And.intro sB sC)))
 have HO:=zN hO
 have sq:=zN sw
 clear hK su sA sB sC hO sw
 conv=>arg 2;whnf
 refine cR ?_
 refine wp_region_held_drew (S:=fun _=>True) (by kernel_rfl) trivial (fun se=>?_)
 refine wpAnyH_take (i:=1) (oi:=?ox1) (v:=.slice (some ⟨gx,0,none⟩) n n) ?hx1 (by kernel_rfl) (by kernel_rfl) (by kernel_rfl) (fun _ _ _ h=>h) (Or.inl ⟨?wx1,?yx1⟩) se ?rx1
 case hx1=>simp only[jd,jb,jc];rfl
 case wx1=>rfl
 case yx1 =>
  intro V sG
  simp[go_sem] <;> with_reducible rfl
 (try simp only[Act.put,jg,jh,ji])
 refine cD (I:=AsgJ W0 base gr n nu c0 A F rows y (fun t3 t5 t6 t7=>⟨#[.slice (some ⟨gx,0,none⟩) n n,.pointer (some ⟨gr,0,none⟩),u2,t3,.slice (some ⟨gx,0,none⟩) n n,t5,t6,t7],[]⟩)) ?hS ?h0 ?h1 _ _ _ _ ?st
 case hS=>intros;trivial
 case st=>exact⟨0,false,u3,u5,u6,u7,rfl,by omega,fun h=>by omega,rfl,rfl,(fun h=>by cases h),(fun _=>(Ext.refl W0).drew),(fun h=>by omega),(fun h=>by omega),(fun h=>by omega),(fun h=>by omega)⟩
 case h0 =>
  rintro l sD W ⟨p,a,t3,t5,t6,t7,hn,hp,si,rfl,rfl,h⟩
  obtain⟨rfl,rfl⟩:p=4∧a=true:=by
   cases a <;> simp at hn si ⊢ <;> omega
  refine⟨by kernel_rfl,?_⟩
  exact HK.out _ _ _ _ _ (h.2.2.2.2.2 rfl)
 case h1 =>
  rintro m l sD W ⟨p,a,t3,t5,t6,t7,hn,hp,si,rfl,rfl,h⟩
  obtain rfl|rfl|rfl|rfl|rfl:p=0∨p=1∨p=2∨p=3∨p=4:=by omega
  ·rcases a with _|_
   ·refine ab (rs:=[0,2]) (by kernel_rfl) (by simp) ?_
    refine aa (o:=?ow2) ?ho2 (fun K hK=>?c2) ?d2
    case ho2=>simp only[jd,jb,jc];rfl
    case c2 =>
     have k0:=HO.out.box.ext (h.2.1 rfl)
     have k0:=k0.c0
     go_simp
     exact hK.out _ _ ⟨0,true,_,t5,t6,t7,by simp at hn ⊢;omega,by omega,fun _=>rfl,rfl,rfl,(fun _=>rfl),h.2⟩
    refine aa (o:=?ow10) ?ho10 (fun K hK=>?c10) ?d10
    case ho10=>simp only[jd,jb,jc];rfl
    case c10 =>
     go_simp
     go_at_call 57
     have sj:=h.2.1 rfl
     (with_reducible refine(sp.out _ sj).mono ?_)
     rintro e W1 ⟨x,rfl,he,A1,c1,rfl,hy⟩
     (try simp only[Act.put,jg,jh,ji])
     have hs:=(h.2.1 rfl).size
     exact hK.out _ _ ⟨1,false,t3,_,t6,t7,by simp at hn ⊢;omega,by omega,fun h=>by omega,rfl,rfl,(fun h=>by cases h),(fun h=>by omega),(fun _=>⟨A1,c1,W1,rfl,(h.2.1 rfl).trans he,hy.mono (by decide) (fun k hk hq=>⟨jr hs hq,hk⟩),Ext.refl _⟩),(fun h=>by omega),(fun h=>by omega),(fun h=>by omega)⟩
    exact ah
   ·refine ab (rs:=[2]) (by kernel_rfl) (by simp) ?_
    refine aa (o:=?ow23) ?ho23 (fun K hK=>?c23) ?d23
    case ho23=>simp only[jd,jb,jc];rfl
    case c23 =>
     go_simp
     go_at_call 57
     have sj:=h.2.1 rfl
     (with_reducible refine(sp.out _ sj).mono ?_)
     rintro e W1 ⟨x,rfl,he,A1,c1,rfl,hy⟩
     (try simp only[Act.put,jg,jh,ji])
     have hs:=(h.2.1 rfl).size
     exact hK.out _ _ ⟨1,true,t3,_,t6,t7,by simp at hn ⊢;omega,by omega,fun h=>by omega,rfl,rfl,h.1,(fun h=>by omega),(fun _=>⟨A1,c1,W1,rfl,(h.2.1 rfl).trans he,hy.mono (by decide) (fun k hk hq=>⟨jr hs hq,hk⟩),Ext.refl _⟩),(fun h=>by omega),(fun h=>by omega),(fun h=>by omega)⟩
    exact ah
  ·rcases a with _|_
   ·refine ab (rs:=[0,3]) (by kernel_rfl) (by simp) ?_
    refine aa (o:=?ow37) ?ho37 (fun K hK=>?c37) ?d37
    case ho37=>simp only[jd,jb,jc];rfl
    case c37 =>
     have k0:=HO.out.box.ext ((h.2.2.1 rfl).elim fun A1 h=>h.elim fun c1 h=>h.elim fun W1 h=>h.2.1.trans h.2.2.2)
     have k0:=k0.c0
     go_simp
     exact hK.out _ _ ⟨1,true,_,t5,t6,t7,by simp at hn ⊢;omega,by omega,fun _=>rfl,rfl,rfl,(fun _=>rfl),h.2⟩
    refine aa (o:=?ow45) ?ho45 (fun K hK=>?c45) ?d45
    case ho45=>simp only[jd,jb,jc];rfl
    case c45 =>
     obtain⟨A1,c1,W1,rfl,h2,h3,h4⟩:=h.2.2.1 rfl
     clear h
     go_simp
     exact hK.out _ _ ⟨2,false,_,_,_,t7,by simp at hn ⊢;omega,by omega,fun h=>by omega,rfl,rfl,(fun h=>by cases h),(fun h=>by omega),(fun h=>by omega),(fun _=>⟨A1,c1,W1,W,h2,h3,h4,rfl,rfl⟩),(fun h=>by omega),(fun h=>by omega)⟩
    exact ah
   ·refine ab (rs:=[3]) (by kernel_rfl) (by simp) ?_
    refine aa (o:=?ow54) ?ho54 (fun K hK=>?c54) ?d54
    case ho54=>simp only[jd,jb,jc];rfl
    case c54 =>
     obtain⟨A1,c1,W1,rfl,h2,h3,h4⟩:=h.2.2.1 rfl
     obtain rfl:=h.1 rfl
     clear h
     go_simp
     exact hK.out _ _ ⟨2,true,_,_,_,t7,by simp at hn ⊢;omega,by omega,fun h=>by omega,rfl,rfl,(fun _=>rfl),(fun h=>by omega),(fun h=>by omega),(fun _=>⟨A1,c1,W1,W,h2,h3,h4,rfl,rfl⟩),(fun h=>by omega),(fun h=>by omega)⟩
    exact ah
  ·rcases a with _|_
   ·refine ab (rs:=[0]) (by kernel_rfl) (by simp) ?_
    refine aa (o:=?ow65) ?ho65 (fun K hK=>?c65) ?d65
    case ho65=>simp only[jd,jb,jc];rfl
    case c65 =>
     have k0:=HO.out.box.ext ((h.2.2.2.1 rfl).elim fun A1 h=>h.elim fun c1 h=>h.elim fun W1 h=>h.elim fun W2 h=>h.2.2.2.1 ▸ (h.1.trans h.2.2.1).alloc _)
     have k0:=k0.c0
     go_simp
     exact hK.out _ _ ⟨2,true,_,t5,t6,t7,by simp at hn ⊢;omega,by omega,fun _=>rfl,rfl,rfl,(fun _=>rfl),h.2⟩
    exact ah
   ·refine ab (rs:=[4]) (by kernel_rfl) (by simp) ?_
    refine aa (o:=?ow75) ?ho75 (fun K hK=>?c75) ?d75
    case ho75=>simp only[jd,jb,jc];rfl
    case c75 =>
     obtain⟨A1,c1,W1,W2,h2,h3,h4,rfl,rfl⟩:=h.2.2.2.1 rfl
     obtain rfl:=h.1 rfl
     clear h
     have hw:=(h2.trans h4).size
     have sx:=aD HO.out.own.own ((h2.trans h4).alloc (.cells #[.slice A1 n c1] 74))
     rw[←sq.out]at sx
     refine bO (by rfl) _ _ _ (by rfl) base 74 i0 (.slice none 0 0) 1 24 Tryz.underlying38 sh.out.1 sh.out.2.1 sh.out.2.2.1 sh.out.2.2.2 rfl (by omega) (.slice A nu c0) nu us (by rfl) sx ⟨W2.heap.size,0,none⟩ 1 1 [.slice A1 n c1] (by rfl) (by rfl) (aE W2 _ _) (by simp[Value.oneCell']) (by simp only[maxLen];omega) (by omega) (by simp;omega) ?_
     intro v9 W9 sy sr sF
     obtain⟨A9,c9,rfl⟩:=af sy
     (try simp only[Act.put,jg,jh,ji])
     have sE:Bk W9 gr 38 [.slice A nu c0]:=Bk.fr (HO.out.box.ext ((h2.trans h4).alloc (.cells #[.slice A1 n c1] 74))) (am sr) (fun e=>aQ HO.out.own.own HO.out.box (by decide) e rfl)
     exact hK.out _ _ ⟨3,true,_,t5,_,_,by simp at hn ⊢;omega,by omega,fun _=>rfl,rfl,rfl,(fun _=>rfl),(fun h=>by omega),(fun h=>by omega),(fun h=>by omega),(fun _=>⟨A9,c9,rfl,sE,HO.out.step sq.out h2 h3 h4 sy sr sF sg⟩),(fun h=>by omega)⟩
    exact ah
  ·rcases a with _|_
   ·exact absurd (si (by omega)) (by simp)
   ·refine ab (rs:=[5]) (by kernel_rfl) (by simp) ?_
    refine aa (o:=?ow94) ?ho94 (fun K hK=>?c94) ?d94
    case ho94=>simp only[jd,jb,jc];rfl
    case c94 =>
     obtain⟨A9,c9,rfl,hb,hp⟩:=h.2.2.2.2.1 rfl
     obtain rfl:=h.1 rfl
     clear h
     have k0:=hb.c0;have k1:=hb.free 0
     clear hb
     have HP:=zN hp
     clear hp
     go_simp
     exact hK.out _ _ ⟨4,true,_,t5,t6,_,by simp at hn ⊢;omega,by omega,fun _=>rfl,rfl,rfl,(fun _=>rfl),(fun h=>by omega),(fun h=>by omega),(fun h=>by omega),(fun h=>by omega),(fun _=>HP.out)⟩
    exact ah
  ·rcases a with _|_
   ·exact absurd (si (by omega)) (by simp)
   ·exact absurd hn (by simp)
theorem asg_any{W:World}{F:Nat→Prop}{base gr gx n:Nat}{rows:List (List Vl)}{v:Value}{us:List Value}{y:List Vl}(h:pB W base gr F rows v us)(se:base≤W.heap.size)(hl:rows.length≤1048576)(hx:Bk W gx 51 (au y))(si:y.length=n)(hn:n≤1048576) :
  Calls Tryz.prog 56 #[.slice (some ⟨gx,0,none⟩) n n,.pointer (some ⟨gr,0,none⟩)] W (iw base gr F (rows++[y]) v W):=by
 have sj:=zN (fun (V:World) (hV:Ext W V)=>iz ((kJ hx si).ext hV) hn)
 obtain⟨A,c0,rfl⟩:=af h.own.own
 have sr:us.length=rows.length:=h.own.len
 obtain⟨PP,sg⟩:=sd (iw base gr F (rows++[y]) (.slice A us.length c0) W)
 have sp:=zN sg
 rw[←sg]
 have HH:=zN h
 have sq:us.length≤1048576:=by omega
 clear h hx si sg sr hl
 go_enter Tryz.func56,Tryz.ntmps56
 go_upto_region 0 with fail
 refine cS ?_
 intro KK sh
 refine asg_reg HH.out rfl se sq sj ?_
 intro t3 t5 t6 t7 W2 hC
 have HQ:Hid (PP (.returned (.tuple #[])) W2):=zN (by rw[sp.out];exact hC)
 clear hC
 rw[sh]
 clear sh
 go_wp2_with fail
 exact bodyPost_end (results_none rfl _ _ _) rfl HQ.out
theorem asg_vis{base gr gx n h1 N:Nat}{wT:World}(se:base≤wT.heap.size)(hN:N≤1048576)(hn:n≤1048576) :
  qp N 56 #[.pointer (some ⟨gr,0,none⟩)] gx n wT h1 (AsgSt base gr) where
 lt:=fun ⟨_,_,_,_,h,_⟩=>h
 keep:=fun ⟨F,v,us,hB,h1,h2,h7,h8⟩ hf ht=>⟨F,v,us,hB.fr hf (fun h=>ht _ h h2) (fun q hq h=>ht _ h (h7 q hq)) (fun q hq h=>ht _ h (h8 q hq)),fun q hq=>jE (h1 q hq) hf.size,h2,h7,h8⟩
 visit:=by
  rintro L O W y ⟨F,v,us,hB,h1,h2,h7,h8⟩ si he hh hx hl sj sp
  refine(asg_any hB (jr se he.size) (by omega) hx hl hn).mono ?_
  rintro e W' ⟨rfl,F',v',sh,sg,hf,hF,hv⟩
  have hz:=hf.size
  refine⟨rfl,fun q=>O q∨(W.heap.size≤q∧q<W'.heap.size),⟨F',v',sh,sg,?_,.inl h2,fun q hq=>?_,fun q hq=>?_⟩,hf.mono (fun q _ hq=>?_),fun q hq=>hq.imp_right (fun h=>h.1)⟩
  ·rintro q (hq|hq)
   ·have:=h1 q hq;omega
   ·exact hq.2
  ·exact(hF q hq).imp_left (h7 q)
  ·exact(hv q hq).imp_left (h8 q)
  ·rcases hq with rfl|hq
   ·exact h2
   ·exact h8 q hq
end Go.Proofs.YtplldnnnhgnbjaaGreatDoor
namespace Go.Proofs.YtplldnnnhgnbjaaGreatDoor
open Go.RowKit Go.Maps Go.Sort Go.Shelf Go.Lib
open Go.Proofs (Row1 SW CmpLays1 OneCell)
section
variable {α : Type} [Inhabited α] {enc : α→Value} {w0:World} {blk off:Nat} {d0:Array α}
def SP(enc : α→Value)(w0:World)(blk off:Nat)(d0:Array α)(W:World):Prop:=∃dk:Array α,dk.size=d0.size∧PermIn 0 d0.size d0 dk∧SW enc w0 blk off dk W
theorem SP.swap{dk:Array α}{W:World}(R:Row1 enc w0 blk off d0)(hs:dk.size=d0.size)(hp:PermIn 0 d0.size d0 dk)(S:SW enc w0 blk off dk W){i j:Nat}(hi:i<d0.size)(hj:j<d0.size):SP enc w0 blk off d0 ((W.setCell ⟨blk,off+i,none⟩ (enc dk[j]!)).setCell ⟨blk,off+j,none⟩ (enc dk[i]!)).drew :=
 ⟨Go.Sort.swp dk i j,by rw[size_swp,hs],permIn_trans _ _ _ _ _ hp (Go.Sort.swp_permIn dk 0 d0.size i j (jn _) hi (jn _) hj (by omega)),S.swapped R i j (by omega) (by omega)⟩
theorem oy{w:World}{cap a b n:Nat}{fv:Value}(R:Row1 enc w0 blk off d0)(hS:SP enc w0 blk off d0 w)(ha:a+n≤d0.size)(hb:b+n≤d0.size)(sp:d0.size≤1048576) :
  Calls Tryz.prog 300 #[.slice (some ⟨blk,off,none⟩) d0.size cap,.int .i64 (a:Int),.int .i64 (b:Int),.int .i64 (n:Int),fv] w (fun e w'=>e=.returned (.tuple #[])∧SP enc w0 blk off d0 w'):=by
 obtain⟨sz,se⟩:=sd d0.size
 rw[←se]at ha hb sp ⊢
 have HS:=zN hS;have HQ:=zN se;have HR:=zN R
 have sg:=R.hO.cells
 simp only[Value.cells]at sg
 have sq:=R.hO.store Tryz.prog
 have mixed:Tryz.prog.follows .mixedOrders=true:=by kernel_rfl
 clear hS se
 go_enter Tryz.func300,Tryz.ntmps300
 go_wp2_with fail
 go_loopw [10] (fun t wr=>∃i:Nat,i≤n∧t=.int .i64 (i:Int)∧Hid (SP enc w0 blk off d0 wr)) (fun t _=>n-(intOf t).toNat)
 case atStart=>exact⟨0,jn _,rfl,HS⟩
 case round =>
  obtain⟨i,hi,rfl,HP⟩:=hrel
  obtain⟨W,rfl⟩:∃W:World,W=wr:=⟨_,rfl⟩
  clear HS
  by_cases hlt:i<n
  ·obtain⟨dk,hs,hp,S⟩:=HP.out
   obtain⟨iN,sh⟩:=sd (a+i)
   obtain⟨jN,si⟩:=sd (b+i)
   have sj:=HQ.out
   have pi:iN<d0.size:=by omega
   have pj:jN<d0.size:=by omega
   have S3:Hid (SP enc w0 blk off d0 ((W.setCell ⟨blk,off+iN,none⟩ (enc dk[jN]!)).setCell ⟨blk,off+jN,none⟩ (enc dk[iN]!)).drew):=zN (SP.swap R hs hp S pi pj)
   have ca:=S.c1 R (by omega) iN (by omega)
   have cb:=S.c1 R (by omega) jN (by omega)
   have fa:=S.f1 R (by omega) iN (by omega)
   have fb:=S.f1 R (by omega) jN (by omega)
   obtain⟨x,hx⟩:=sd (dk[iN]!)
   obtain⟨y,hy⟩:=sd (dk[jN]!)
   obtain⟨u,cc⟩:=S.c2 R (by omega) iN jN (by omega) (by omega) (enc y)
   rw[←hx]at ca S3
   rw[←hy]at cb S3
   have ea:((a:Int)+(i:Int)).toNat=iN:=by omega
   have pa:(0:Int)≤(a:Int)+(i:Int):=by omega
   have ba:(a:Int)+(i:Int)<(sz:Int):=by omega
   have ra:IntKind.i64.wrap ((a:Int)+(i:Int))=(a:Int)+(i:Int):=by rw[IntKind.wrap_i64];omega
   have eb:((b:Int)+(i:Int)).toNat=jN:=by omega
   have pb:(0:Int)≤(b:Int)+(i:Int):=by omega
   have bb:(b:Int)+(i:Int)<(sz:Int):=by omega
   have rb:IntKind.i64.wrap ((b:Int)+(i:Int))=(b:Int)+(i:Int):=by rw[IntKind.wrap_i64];omega
   clear S hs hp hx hy sh si sj pi pj HP
   go_upto_region 3 with fail
   go_big_region_o
   clear ca cb cc fa fb
   generalize ((W.setCell ⟨blk,off+iN,none⟩ (enc y)).setCell ⟨blk,off+jN,none⟩ (enc x)).drew=w3 at S3 ⊢
   clear ea eb
   go_wp2_with fail
   go_roundw
   case rel=>exact⟨i+1,by omega,by go_num,S3⟩
   case measure=>simp[intOf];omega
  ·obtain rfl:i=n:=by omega
   go_wp2_with fail
   go_end0
   exact⟨rfl,HP.out⟩
end
end Go.Proofs.YtplldnnnhgnbjaaGreatDoor
namespace Go.Proofs.YtplldnnnhgnbjaaGreatDoor
open Go.RowKit Go.Maps Go.Sort Go.Shelf Go.Lib
open Go.Proofs (Row1 SW CmpLays1 OneCell)
section
variable {α : Type} [Inhabited α] {enc : α→Value} {w0:World} {blk off:Nat} {d0:Array α}
theorem rotate_any{w:World}{cap a m b:Nat}{fv:Value}(R:Row1 enc w0 blk off d0)(hS:SP enc w0 blk off d0 w)(ha:a<m)(hm:m<b)(hb:b≤d0.size)(sh:d0.size≤1048576) :
  Calls Tryz.prog 277 #[.slice (some ⟨blk,off,none⟩) d0.size cap,.int .i64 (a:Int),.int .i64 (m:Int),.int .i64 (b:Int),fv] w (fun e w'=>e=.returned (.tuple #[])∧SP enc w0 blk off d0 w'):=by
 have sg:=zN (fun (V:World) (hV:SP enc w0 blk off d0 V) (x y n:Nat) (h1:x+n≤d0.size) (h2:y+n≤d0.size)=>oy (cap:=cap) (fv:=fv) R hV h1 h2 sh)
 obtain⟨sz,se⟩:=sd d0.size
 rw[←se]at hb sh sg ⊢
 have HS:=zN hS
 clear hS se R
 go_enter Tryz.func277,Tryz.ntmps277
 go_wp2_with fail
 go_loopw [10,11] (fun s t wr=>∃i j:Nat,1≤i∧1≤j∧a+i≤m∧m+j≤b∧s=.int .i64 (i:Int)∧t=.int .i64 (j:Int)∧Hid (SP enc w0 blk off d0 wr)) (fun s t _=>(intOf s).toNat+(intOf t).toNat)
 case atStart=>exact⟨m-a,b-m,by omega,by omega,by omega,by omega,by congr 1;omega,by congr 1;omega,HS⟩
 case round =>
  obtain⟨i,j,hi,hj,sj,sp,rfl,rfl,HP⟩:=hrel
  obtain⟨W,rfl⟩:∃W:World,W=wr:=⟨_,rfl⟩
  clear HS
  by_cases hne:i=j
  ·subst hne
   have si:((i:Int) != (i:Int))=false:=by simp
   have e1:(m:Int)-(i:Int)=((m-i:Nat):Int):=by omega
   have E1:=zN e1
   clear e1
   go_wp2_with fail
   rw[E1.out]
   refine(sg.out _ HP.out (m-i) m i (by omega) (by omega)).mono ?_
   rintro e w1 ⟨rfl,hq⟩
   have HQ:=zN hq
   clear hq
   go_wp2_with fail
   go_end0
   exact⟨rfl,HQ.out⟩
  ·have si:((i:Int) != (j:Int))=true:=by rw[bne_iff_ne];omega
   have e1:(m:Int)-(i:Int)=((m-i:Nat):Int):=by omega
   have e2:(m:Int)+(j:Int)-(i:Int)=((m+j-i:Nat):Int):=by omega
   have E1:=zN e1;have E2:=zN e2
   clear e1 e2
   by_cases hij:j<i
   ·have hd:(j:Int)<(i:Int):=by omega
    go_wp2_with fail
    rw[E1.out]
    refine(sg.out _ HP.out (m-i) m j (by omega) (by omega)).mono ?_
    rintro e w1 ⟨rfl,hq⟩
    have HQ:=zN hq
    clear hq
    go_wp2_with fail
    go_roundw
    case rel=>exact⟨i-j,j,by omega,by omega,by omega,by omega,by congr 1;omega,rfl,HQ⟩
    case measure=>simp[intOf];omega
   ·have hd:¬(j:Int)<(i:Int):=by omega
    go_wp2_with fail
    rw[E1.out,E2.out]
    refine(sg.out _ HP.out (m-i) (m+j-i) i (by omega) (by omega)).mono ?_
    rintro e w1 ⟨rfl,hq⟩
    have HQ:=zN hq
    clear hq
    go_wp2_with fail
    go_roundw
    case rel=>exact⟨i,j-i,by omega,by omega,by omega,by omega,rfl,by congr 1;omega,HQ⟩
    case measure=>simp[intOf];omega
end
end Go.Proofs.YtplldnnnhgnbjaaGreatDoor
