/- packed -/
import Derived.Test.YtplldnnnhgnbjaaGreatDoorMu29
import Derived.Test.YtplldnnnhgnbjaaGreatDoorMu31
import Derived.Test.YtplldnnnhgnbjaaGreatDoorMu30
import Derived.Sort.WalkA
import Derived.Sort.WalkB2
import Derived.Sort.WalkB12
import Derived.Deep.LoopGhost
import Derived.Sort.Lot0
namespace Go.Proofs.YtplldnnnhgnbjaaGreatDoor
open Go.RowKit Go.Maps
theorem candL_len{s:Stp}{f:List Vl→List (List Vl)×List Vl}{m:Nat}(hf:∀y,(f y).1.length≤m):∀(l:List (List Vl)) (acc:List (List Vl)×List Vl),(candL s f l acc).1.length≤acc.1.length+l.length*m
 | [],acc=>by simp[candL]
 | c::l,acc=>by
  rw[candL]
  split
  ·refine js (candL_len hf l _) ?_
   rw[jD,Nat.succ_mul]
   show acc.1.length+_≤_
   omega
  ·refine js (candL_len hf l _) ?_
   rw[jD,Nat.succ_mul]
   show (acc.1++(f _).1).length+_≤_
   rw[jl]
   have:=hf (setF acc.2 c (s.fresh.zip s.frm))
   omega
def prodS(l:List Stp):Nat:=l.foldr (fun s k=>max s.rows.length 1*k) 1
theorem visS_len:∀(l:List Stp) (y:List Vl),(visS l y).1.length≤prodS l
 | [],_=>jq _
 | s::l,y=>by
  rw[visS]
  refine js (candL_len (visS_len l) _ _) ?_
  have h1:(candsP s y).length≤max s.rows.length 1:=js (jG _ _) (Nat.le_max_left _ _)
  have h2:=zg (prodS l) h1
  show 0+(candsP s y).length*prodS l≤max s.rows.length 1*prodS l
  omega
def prodA(M:Dm)(l:List At):Nat:=l.foldr (fun a k=>max (rowsD M a.rel).length 1*k) 1
theorem steps_prod{vars:List ByteArray}{M:Dm}{cds:List Cd}{bad:Nat→List Vl→Bool}:∀(l:List At) (B:List Nat) (k:Nat),prodS (stepsL vars M cds bad l B k)≤prodA M l
 | [],_,_=>jq _
 | a::l,B,k=>by
  have ih:=steps_prod (vars:=vars) (M:=M) (cds:=cds) (bad:=bad) l (B++(nsOf vars B a.terms).fresh) (k+1)
  show max (stpOf vars M cds B a (bad (k+1))).rows.length 1*_≤max (rowsD M a.rel).length 1*prodA M l
  refine Nat.mul_le_mul ?_ ih
  have h1:(stpOf vars M cds B a (bad (k+1))).rows.length≤(rowsD M a.rel).length:=jG _ _
  omega
theorem sat_count{M:Dm}{vars:List ByteArray}{r:Rl}(hs:SafeR vars r)(hr:∀a∈r.ats,∀x∈rowsD M a.rel,x.length=a.terms.length)(hn:∀a∈r.ats,(rowsD M a.rel).Nodup){L:List (List Vl)}(hL:L.Nodup)(hm:∀z,z∈L↔z.length=vars.length∧satM M vars r z):L.length≤prodA M (posL r):=by
 rcases hf:firstB M vars r (zRow vars.length) with _|_
 ·have h:=plan_all hs hr hn (y:=zRow vars.length) (by simp[zRow]) hf
  have hp:L.Perm (visS (planL M vars r) (zRow vars.length)).1:=(List.perm_ext_iff_of_nodup hL h.1).2 (fun z=>(hm z).trans (h.2 z).symm)
  rw[hp.length_eq]
  exact js (visS_len _ _) (steps_prod _ _ _)
 ·have h0:L=[]:=List.eq_nil_iff_forall_not_mem.2 (fun z hz=>first_none hs hf z ((hm z).1 hz).2)
  rw[h0]
  exact jn _
end Go.Proofs.YtplldnnnhgnbjaaGreatDoor
namespace Go.Proofs.YtplldnnnhgnbjaaGreatDoor
open Go.RowKit Go.Maps
def AnsT(base gs gr bm:Nat)(rows:List (List Vl))(O:Nat→Prop)(W:World):Prop :=
 ∃F v us,Bk W gs 121 [.map (some bm)]∧MapV W bm rows.length (seenR rows)∧Bk W gr 38 [v]∧OwR F W base v us.length us rows∧¬F bm∧¬F gr∧(∀q,O q→q<W.heap.size)∧O gs∧O gr∧O bm∧(∀q,F q→O q)∧∀q,v.ownBlock=some q→O q
theorem AnsT.keep{base gs gr bm:Nat}{rows:List (List Vl)}{O T:Nat→Prop}{W W':World}(h:AnsT base gs gr bm rows O W)(hf:Fr T W W')(ht:∀q,T q→¬O q):AnsT base gs gr bm rows O W':=by
 obtain⟨F,v,us,h1,h2,h3,h4,h5,h6,h7,h8,h9,h10,h11,h12⟩:=h
 exact⟨F,v,us,h1.fr hf (fun e=>ht _ e h8),h2.fr hf (fun e=>ht _ e h10),h3.fr hf (fun e=>ht _ e h9),h4.fr hf (fun k hk e=>ht _ e (h12 k hk)) (fun k hk e=>ht _ e (h11 k hk)),h5,h6,fun q hq=>jM (h7 q hq) hf.size,h8,h9,h10,h11,h12⟩
theorem AnsT.ext{base gs gr bm:Nat}{rows:List (List Vl)}{O:Nat→Prop}{W W':World}(h:AnsT base gs gr bm rows O W)(he:Ext W W'):AnsT base gs gr bm rows O W':=h.keep (he.fr (fun _=>False)) (fun _ h=>h.elim)
theorem AnsT.st{base gs gr bm gh p c B:Nat}{H:Option Addr}{cols:List Int}{rows:List (List Vl)}{O:Nat→Prop}{W W1:World}(h1:∀q,O q→q<W1.heap.size)(h:AnsT base gs gr bm rows O W)(hb:Bk W gh 63 [.slice H p c])(hc:W.ownsRow B 3 1 (.slice H p c) p (cols.map I64))(hB:W1.heap.size≤B)(hx:W1.heap.size≤W.heap.size) :
  AnsSt base gh gs gr bm p c H (fun q=>(Value.slice H p c).ownBlock=some q∧B≤q) cols rows [] (fun q=>O q∨q=gh∨(Value.slice H p c).ownBlock=some q) W:=by
 obtain⟨F,v,us,k1,k2,k3,k4,k5,k6,k7,k8,k9,k10,k11,k12⟩:=h
 refine⟨F,v,us,⟨hb,Ins.of_own hc,k1,k2,k3,k4,k5,k6,fun q hq=>?_⟩,?_,.inr (.inl rfl),.inl k8,.inl k9,.inl k10,fun q hq=>.inr (.inr hq.1),fun q hq=>.inl (k11 q hq),fun q hq=>.inl (k12 q hq)⟩
 ·have hlt:=own_lt hc hq.1
  refine⟨fun e=>?_,fun e=>?_,fun e=>?_,hlt⟩
  ·have:=h1 _ k10;have:=hq.2;omega
  ·have:=h1 _ k9;have:=hq.2;omega
  ·have:=h1 _ (k12 q e);have:=hq.2;omega
 ·rintro q (hq|hq|hq)
  ·exact k7 q hq
  ·rw[hq];exact hb.lt
  ·exact own_lt hc hq
theorem AnsT.of{base gh gs gr bm p c:Nat}{H:Option Addr}{G O:Nat→Prop}{cols:List Int}{rows L:List (List Vl)}{W:World}(h:AnsSt base gh gs gr bm p c H G cols rows L O W):AnsT base gs gr bm (addsR cols rows L) O W:=by
 obtain⟨F,v,us,hB,h1,h2,h3,h4,h5,h6,h7,h8⟩:=h
 exact⟨F,v,us,hB.seen,hB.map,hB.box,hB.own,hB.fm,hB.fr',h1,h3,h4,h5,h7,h8⟩
structure RowsI(M:Dm)(q:Qy)(i:Nat)(rows:List (List Vl)):Prop where
 nd:rows.Nodup
 ln:rows.length≤i*1500
 mem:∀x,x∈rows↔∃r∈q.rs.take i,∃y:List Vl,y.length=(varsC r).length∧satM M (varsC r) r y∧x=projR (colsI (varsC r) q.hd) y
theorem RowsI.more{M:Dm}{q:Qy}{i:Nat}{rows L:List (List Vl)}(h:RowsI M q i rows)(hi:i<q.rs.length)(hl:L.length≤1500)(hm:∀z,z∈L↔z.length=(varsC q.rs[i]).length∧satM M (varsC q.rs[i]) q.rs[i] z):RowsI M q (i+1) (addsR (colsI (varsC q.rs[i]) q.hd) rows L):=by
 refine⟨addsR_nodup h.nd,?_,fun x=>?_⟩
 ·have h1:=addsR_len (colsI (varsC q.rs[i]) q.hd) rows L
  have h2:=h.ln
  rw[Nat.succ_mul]
  omega
 ·rw[addsR_mem,h.mem,jj hi]
  constructor
  ·rintro(⟨r,hr,k⟩|⟨z,hz,e⟩)
   ·exact⟨r,jJ _ hr,k⟩
   ·exact⟨q.rs[i],jR _ (jt.2 rfl),z,((hm z).1 hz).1,((hm z).1 hz).2,e⟩
  ·rintro⟨r,hr,y,k1,k2,k3⟩
   rcases jp.1 hr with hr|hr
   ·exact .inl ⟨r,hr,y,k1,k2,k3⟩
   ·rw[jt]at hr
    subst hr
    exact .inr ⟨y,(hm y).2 ⟨k1,k2⟩,k3⟩
def AnswersPost(M:Dm)(q:Qy)(ev:Int)(w:World)(e:Ending)(w':World):Prop :=
 Ext w w'∧((ev≠0∧e=.returned (.tuple #[.slice none 0 0,.int .i64 ev]))∨(ev=0∧q.ag≠0∧e=.returned (.tuple #[.slice none 0 0,.int .i64 1]))∨(ev=0∧q.ag=0∧∃A n c R,e=.returned (.tuple #[.slice A n c,.int .i64 0])∧AnsOk M q R∧Sl rdRow (fun k=>w.heap.size≤k) w' (.slice A n c) R))
theorem ans_ok{M:Dm}{q:Qy}(hc:ChkM M q){rows R:List (List Vl)}(h:RowsI M q q.rs.length rows)(ha:AscQ (keysQ q.hd q.od) R)(hp:R.Perm rows):AnsOk M q R:=by
 have hv:=fun r (hr:r∈q.rs)=>chk_valid hc hr
 have hmem:∀x,x∈R↔ansP M q x:=fun x=>by
  rw[hp.mem_iff,h.mem,jV]
  unfold ansP
  constructor
  ·rintro⟨r,hr,y,k1,k2,k3⟩
   obtain⟨σ,j1,j2⟩:=(head_rows (safe_of (hv r hr).1) (hv r hr).2.2 x).1 ⟨y,k1,k2,k3⟩
   exact⟨r,hr,σ,j1,j2⟩
  ·rintro⟨r,hr,σ,j1,j2⟩
   obtain⟨y,k1,k2,k3⟩:=(head_rows (safe_of (hv r hr).1) (hv r hr).2.2 x).2 ⟨σ,j1,j2⟩
   exact⟨r,hr,y,k1,k2,k3⟩
 refine⟨hmem,asc_strict (headE_nodup hc.1.hd) hc.1.od ha (hp.nodup_iff.2 h.nd) (fun x hx=>?_)⟩
 obtain⟨r,-,σ,-,rfl⟩:=(hmem x).1 hx
 rw[jm]
theorem rows_len{M:Dm}{q:Qy}{i:Nat}{rows:List (List Vl)}(h:RowsI M q i rows):∀x∈rows,x.length=q.hd.length:=fun x hx=>by
 obtain⟨r,-,y,-,-,rfl⟩:=(h.mem x).1 hx
 unfold projR colsI
 rw[jm,jm]
theorem cols_in{r:Rl}{hd:List ByteArray}(h:∀s∈hd,s∈varsC r):∀x∈colsI (varsC r) hd,0≤x∧x<((varsC r).length:Int):=fun x hx=>by
 unfold colsI at hx
 obtain⟨s,hs,rfl⟩:=jE.1 hx
 rw[idxI_pos' (varsC_nodup r) (h s hs)]
 have:=pos_lt (h s hs)
 omega
theorem sat_1500{M:Dm}{r:Rl}(hd:DbOk M)(hv:validE M r=0)(hh:prodA M (posL r)≤1500){L:List (List Vl)}(hL:L.Nodup)(hm:∀z,z∈L↔z.length=(varsC r).length∧satM M (varsC r) r z):L.length≤1500 :=
 js (sat_count (safe_of hv) (fun a ha x hx=>((atom_rows hd hv ha).2.1 x hx).1) (fun a ha=>so_nodup (atom_rows hd hv ha).2.2.2) hL hm) hh
theorem rule_small{nd:List ByteArray}{r:Rl}(h:RuleOk nd r):r.ats.length≤90∧(∀a∈r.ats,a.terms.length≤1000)∧r.cds.length≤1000∧(varsC r).length≤8 :=
 ⟨js h.la (by omega),fun a ha=>js (atom_ok (h.at' a ha)).2.1 (by omega),js h.lc (by omega),h.vs⟩
def AnsEach(M:Dm)(q:Qy)(r:Rl)(gs gr bm gq gd:Nat)(rows:List (List Vl))(w W2:World)(e:Ending)(W3:World):Prop :=
 e=.returned (.int .i64 0)∧∃L O,AnsT w.heap.size gs gr bm (addsR (colsI (varsC r) q.hd) rows L) O W3∧Ext w W3∧(¬O gq∧¬O gd∧∀q,O q→w.heap.size≤q)∧(∀t xs,Bk W2 gq t xs→Bk W3 gq t xs)∧(∀t xs,Bk W2 gd t xs→Bk W3 gd t xs)∧L.length≤1500∧∀z,z∈L↔z.length=(varsC r).length∧satM M (varsC r) r z
set_option maxRecDepth 20000 in
theorem ans_each{F G H OB:Nat→Prop}{w W1 W2:World}{sv vc t12 t36 t39:Value}{r:Rl}{q:Qy}{b nb gs gr bm gq gd:Nat}{M:Dm}{rows:List (List Vl)}(hA:Ats F w sv r.ats)(hCd:Sl rdCd G w vc r.cds)(hD:DbB H w b nb M)(hz:RlZ r)(hd:DbOk M)(hc:ChkM M q)(hr:r∈q.rs)(hh:prodA M (posL r)≤1500)(htab:TabE w)(hX:Ext w W1)(hT:AnsT w.heap.size gs gr bm rows OB W1)(hOB:¬OB gq∧¬OB gd∧∀q,OB q→w.heap.size≤q)(hrl:rows.length≤100000)(hg:gq<W1.heap.size∧gd<W1.heap.size)(hC:ColI W1 r q.hd true true true true t12 t36 t39 W2) :
  Calls Tryz.prog 49 #[.agg #[sv,vc],.agg #[.map (some b)],.func (.func 50) #[] #[t12,.pointer (some ⟨gs,0,none⟩),.pointer (some ⟨gr,0,none⟩)]] W2 (AnsEach M q r gs gr bm gq gd rows w W2):=by
 obtain⟨hv,hro,hhv⟩:=chk_valid hc hr
 obtain⟨k1,k2,k3,k4⟩:=rule_small hro
 obtain⟨gh,rfl,hgh,hbx⟩:=hC.h5 rfl
 obtain⟨B,hB,hown⟩:=hC.h4 rfl
 obtain⟨Hc,c,rfl⟩:=own_slice hown
 rw[if_pos rfl]at hbx
 have hx12:=hC.ext
 have hs12:=hx12.size
 have hX2:=hX.trans hx12
 have hsw:=hX.size
 have hst:=AnsT.st (W1:=W1) (fun q hq=>by obtain⟨F,v,us,h1,h2,h3,h4,h5,h6,h7,-⟩:=hT;exact h7 q hq) (hT.ext hx12) hbx hown hB hs12
 have hlow:∀k,(OB k∨k=gh∨(Value.slice Hc q.hd.length c).ownBlock=some k)→w.heap.size≤k:=fun k hk=>by
  rcases hk with h|h|h
  ·exact hOB.2.2 k h
  ·omega
  ·have:=own_ge hown h;omega
 have hnq:∀g,g<W1.heap.size→¬OB g→¬(OB g∨g=gh∨(Value.slice Hc q.hd.length c).ownBlock=some g):=fun g h1 h2 hk=>by
  rcases hk with h|h|h
  ·exact h2 h
  ·omega
  ·have:=own_ge hown h;omega
 have hlt:∀k,(OB k∨k=gh∨(Value.slice Hc q.hd.length c).ownBlock=some k)→k<W2.heap.size:=fun k hk=>by
  obtain⟨F,v,us,-,h1,-⟩:=hst
  exact h1 k hk
 refine(each_any (N:=1500) (wT:=w) (hA.ext hX2) (hCd.ext hX2) ((hD.mono (G:=fun k=>H k∧k<w.heap.size) (fun k h1 h2=>⟨h2,h1⟩)).ext hX2) hz k1 k2 k3 hd htab hX2 (fun _ _=>rfl) (fun gx h1 _ _=>ans_vis (jq _) (by omega) (cols_in hhv) (by have:=head_len hc.1.hd;omega) htab) (fun _ L' hL hm=>by rw[zn,jW];exact sat_1500 hd hv hh hL hm) hst hlt hlow (fun k hk _ hO=>by have:=hlow k hO;have:=hk.2;omega)).mono ?_
 rintro e W3 ⟨he,L,O',hS,hfr,hO',hL⟩
 rw[hv]at he
 rcases hL with ⟨h0,-⟩|⟨-,hnd,hm⟩
 ·exact absurd hv h0
 rw[jX]at hS
 have hlow':∀k,O' k→w.heap.size≤k:=fun k hk=>(hO' k hk).elim (hlow k) (fun h=>by have:=hX2.size;omega)
 have hnq':∀g,g<W1.heap.size→¬OB g→¬O' g:=fun g h1 h2 hk=>(hO' g hk).elim (hnq g h1 h2) (fun h=>by omega)
 exact⟨he,L,O',AnsT.of hS,hfr.new hX2 hlow,⟨hnq' gq hg.1 hOB.1,hnq' gd hg.2 hOB.2.1,hlow'⟩,fun t xs hb=>hb.fr hfr (hnq gq hg.1 hOB.1),fun t xs hb=>hb.fr hfr (hnq gd hg.2 hOB.2.1),sat_1500 hd hv hh hnd hm,hm⟩
theorem sort_ans{F:Nat→Prop}{W0 V W:World}{base:Nat}{v vf:Value}{us:List Value}{rows:List (List Vl)}{hd:List ByteArray}{od:List Ky}(hO:OwR F W0 base v us.length us rows)(hV:Ext W0 V)(hp:CmpPost hd od V (.returned vf) W)(hr:∀x∈rows,x.length=hd.length)(hn:us.length≤1048576)(h1:hd.Nodup)(h2:orderE hd od=0)(h3:(orderL hd od).length≤1000000) :
  Calls Tryz.prog 53 #[v,vf] W (fun e w'=>e=.returned (.tuple #[])∧∃us' R,AscQ (keysQ hd od) R∧R.Perm rows∧OwR F w' base v us.length us' R∧W.grownBy w' v.ownBlock∧Ext W0 W):=by
 obtain⟨hE,gC,gK,C,D,c3,c4,e,k1,k2,k3,k4,k5,k6⟩:=hp
 injection e with e
 subst e
 have hE0:=hV.trans hE
 have hO2:=hO.ext hE0
 have hs:=hV.size
 rcases hO.own.2 with ⟨e,hnu⟩|⟨g,cap,cur,e,-⟩
 ·subst e
  have hl:=hO.len
  have hru:rows=[]:=jS (by omega)
  rw[hnu]
  refine sort_none.mono ?_
  rintro e w' ⟨rfl,rfl⟩
  subst hru
  exact⟨rfl,us,[],List.Pairwise.nil,List.Perm.nil,by rw[hnu]at hO2;exact hO2,grown_refl _ _,hE0⟩
 ·subst e
  have hg:g<W0.heap.size:=own_lt hO.own rfl
  refine(sort_cmpq hO2 hr hn k5 k6 k3 k4 (colsQ_in h1 h2) h3 (by omega) (by omega) (fun k hk=>by omega) (fun k hk=>by omega)).mono ?_
  rintro e w' ⟨rfl,hgr,us',R,j1,j2,j3⟩
  exact⟨rfl,us',R,j1,j2,j3,hgr,hE0⟩
set_option maxRecDepth 100000 in
set_option maxHeartbeats 12800000 in
theorem answers_any{F H:Nat→Prop}{w:World}{A B O_:Option Addr}{ca cb co b nb:Nat}{q:Qy}{M:Dm}{l0:List ByteArray}(h:QyR F w A ca B cb O_ co q)(hD:DbB H w b nb M)(hz:QyZ q)(hlo:q.od.length≤100000)(hd:DbOk M)(hnb:nb≤1000000)(hl0:NamesOf M l0)(hh:∀r∈q.rs,prodA M (posL r)≤1500)(htab:TabE w) :
  Calls Tryz.prog 14 #[.agg #[.slice A q.hd.length ca,.int .i64 q.ag,.string q.av,.slice B q.rs.length cb,.slice O_ q.od.length co],.agg #[.map (some b)]] w (AnswersPost M q (checkE (schL M l0) q) w):=by
 have k2:=two_blk w 28 33 [.slice A q.hd.length ca,.int .i64 q.ag,.string q.av,.slice B q.rs.length cb,.slice O_ q.od.length co] [.map (some b)]
 have hx:=((Ext.refl w).alloc (.cells #[.slice A q.hd.length ca,.int .i64 q.ag,.string q.av,.slice B q.rs.length cb,.slice O_ q.od.length co] 28)).alloc (.cells #[.map (some b)] 33)
 have HSC:=fun (V:World) (hV:Ext w V)=>schemas_any (hD.ext hV) hnb hd.key
 have HCK:=fun (V:World) (S:Option Addr) (n c:Nat) (l:List ByteArray) (G:Nat→Prop) (hV:Ext w V) (h1:NamesOf M l) (h2:l.length≤nb) (hs:Sl rdSc G V (.slice S n c) (schL M l))=>(check_names h1 hl0 q) ▸ check_any (h.ext hV) hs hz (by omega) (by unfold schL;rw[jm];simp only[maxLen];omega)
 have HCHK:Hid (checkE (schL M l0) q=0→ChkM M q):=zO (fun e=>(check_M hl0).1 e)
 obtain⟨ev,hev⟩:∃x,x=checkE (schL M l0) q:=⟨_,rfl⟩
 rw[←hev]at HCHK
 obtain⟨PP,hPP⟩:∃P,P=AnswersPost M q (checkE (schL M l0) q) w:=⟨_,rfl⟩
 have HP1:Hid (∀V,Ext w V→ev≠0→PP (.returned (.tuple #[.slice none 0 0,.int .i64 ev])) V):=zO (fun V hV h0=>by rw[hPP,←hev];exact⟨hV,.inl ⟨h0,rfl⟩⟩)
 have HP2:Hid (∀V,Ext w V→ev=0→q.ag≠0→PP (.returned (.tuple #[.slice none 0 0,.int .i64 1])) V):=zO (fun V hV h0 h1=>by rw[hPP,←hev];exact⟨hV,.inr (.inl ⟨h0,h1,rfl⟩)⟩)
 have HP3:Hid (∀V (A:Option Addr) (n c:Nat) (R:List (List Vl)),Ext w V→ev=0→q.ag=0→AnsOk M q R→Sl rdRow (fun k=>w.heap.size≤k) V (.slice A n c) R→PP (.returned (.tuple #[.slice A n c,.int .i64 0])) V):=zO (fun V A n c R hV h0 h1 h2 h3=>by rw[hPP,←hev];exact⟨hV,.inr (.inr ⟨h0,h1,A,n,c,R,rfl,h2,h3⟩)⟩)
 rw[←hev]at HCK
 rw[←hPP]
 have HH:=zO h;have HD:=zO hD;have HZ:=zO hz;have HDO:=zO hd;have HHV:=zO hh;have HTAB:=zO htab
 have hmm:=@run_makeMap Tryz.prog
 have HCMP:=zO (fun (V:World) (hV:Ext w V) (hlh:q.hd.length≤100000)=>comparison_any (ca:=ca) (cb:=cb) (co:=co) (nb:=q.rs.length) (ag:=q.ag) (av:=q.av) (B:=B) (h.hd.ext hV) (h.od.ext hV) hz.hd hz.od hlh hlo)
 obtain⟨nh,hnh⟩:∃n,n=q.hd.length:=⟨_,rfl⟩
 obtain⟨nr,hnr⟩:∃n,n=q.rs.length:=⟨_,rfl⟩
 obtain⟨no,hno⟩:∃n,n=q.od.length:=⟨_,rfl⟩
 obtain⟨ag,hag⟩:∃n,n=q.ag:=⟨_,rfl⟩
 obtain⟨av,hav⟩:∃n,n=q.av:=⟨_,rfl⟩
 rw[←hnh,←hnr,←hno,←hag,←hav]at k2 hx HCK HCMP ⊢
 have HNH:=zO hnh;have HNR:=zO hnr;have HAG:=zO hag;have HEV:=zO hev
 have HSC1:=zO (fun (V:World) (hV:Ext _ V)=>HSC V (hx.trans hV))
 have HCK1:=zO (fun (V:World) (S:Option Addr) (n c:Nat) (l:List ByteArray) (G:Nat→Prop) (hV:Ext _ V)=>HCK V S n c l G (hx.trans hV))
 clear h hD hz hd hh htab hl0 hev hPP hnh hnr hno hag hav HSC HCK
 go_enter Tryz.func14,Tryz.ntmps14
 go_upto_region 1 with fail
 change Bk ((w.alloc (.cells #[.slice A nh ca,.int .i64 ag,.string av,.slice B nr cb,.slice O_ no co] 28)).alloc (.cells #[.map (some b)] 33)) _ _ _∧Bk ((w.alloc (.cells #[.slice A nh ca,.int .i64 ag,.string av,.slice B nr cb,.slice O_ no co] 28)).alloc (.cells #[.map (some b)] 33)) _ _ _ at k2
 generalize ((w.alloc (.cells #[.slice A nh ca,.int .i64 ag,.string av,.slice B nr cb,.slice O_ no co] 28)).alloc (.cells #[.map (some b)] 33))=w1 at *
 obtain⟨kq,kd⟩:=k2
 obtain⟨gd,hgd⟩:∃g,g=w.heap.size+1:=⟨_,rfl⟩
 obtain⟨gq,hgq⟩:∃g,g=w.heap.size:=⟨_,rfl⟩
 rw[←hgd]at kd ⊢
 rw[←hgq]at kq hgd ⊢
 have hg1:w.heap.size≤gq∧gq<w1.heap.size∧gd<w1.heap.size∧w.heap.size≤gd:=⟨by omega,kq.lt,kd.lt,by omega⟩
 have HG1:=zO hg1
 clear hg1 hgd hgq
 have b0:=kq.cell (i:=0) (by simp);have b1:=kq.cell (i:=1) (by simp);have b2:=kq.cell (i:=2) (by simp);have b3:=kq.cell (i:=3) (by simp);have b4:=kq.cell (i:=4) (by simp);have b5:=kd.cell (i:=0) (by simp)
 simp only[ja,je]at b0 b1 b2 b3 b4 b5
 have HKQ:=zO kq;have HKD:=zO kd;have HX1:=zO hx
 clear kq kd hx
 refine wp_then ?_
 intro KK hKK
 refine chk_regA b0 b1 b2 b3 b4 b5 HSC1 HCK1 ?_
 intro t6 t14 t17 t18 t19 t20 w2 hx2
 have HX2:=zO (HX1.out.trans hx2)
 have HKQ2:=zO (HKQ.out.ext hx2);have HKD2:=zO (HKD.out.ext hx2)
 have hw2:=hx2.size
 clear hx2 b0 b1 b2 b3 b4 b5 HSC1 HCK1
 rw[hKK]
 clear hKK KK
 by_cases h0:ev=0
 ·have g0:(ev != 0)=false:=by rw[h0];rfl
  have b1:=HKQ2.out.cell (i:=1) (by simp)
  simp only[ja,je]at b1
  have HC:=zO (HCHK.out h0)
  have HE0:=zO h0
  clear h0
  by_cases ha:ag=0
  ·have g1:(ag != 0)=false:=by rw[ha];rfl
   have HA0:=zO ha
   clear ha
   have hhd:=HC.out.1.hd
   have HHL:Hid (nh≤6):=zO (by rw[HNH.out];exact head_len hhd)
   have HRL:Hid (nr≤3):=zO (by rw[HNR.out];exact HC.out.1.l3.1)
   have hnr3:=HRL.out
   clear hhd
   have hm:=MapV.made w2
   have hxm:=(Ext.refl w2).alloc (.map #[] 0)
   have k3:=two_blk (w2.alloc (.map #[] 0)) 121 38 [.map (some w2.heap.size)] [.slice none 0 0]
   simp only[World.size_alloc]at k3
   have hx3:=(hxm.alloc (.cells #[.map (some w2.heap.size)] 121)).alloc (.cells #[.slice none 0 0] 38)
   have hm3:MapV _ w2.heap.size 0 (fun _=>none):=hm.ext (((Ext.refl _).alloc (.cells #[.map (some w2.heap.size)] 121)).alloc (.cells #[.slice none 0 0] 38))
   clear hm hxm
   go_upto_region 8 with fail
   clear b1
   change Bk (((w2.alloc (.map #[] 0)).alloc (.cells #[.map (some w2.heap.size)] 121)).alloc (.cells #[.slice none 0 0] 38)) _ _ _∧Bk (((w2.alloc (.map #[] 0)).alloc (.cells #[.map (some w2.heap.size)] 121)).alloc (.cells #[.slice none 0 0] 38)) _ _ _ at k3
   generalize (((w2.alloc (.map #[] 0)).alloc (.cells #[.map (some w2.heap.size)] 121)).alloc (.cells #[.slice none 0 0] 38))=w3 at *
   obtain⟨kS,kR⟩:=k3
   obtain⟨gr,hgr⟩:∃g,g=w2.heap.size+1+1:=⟨_,rfl⟩
   obtain⟨gs,hgs⟩:∃g,g=w2.heap.size+1:=⟨_,rfl⟩
   obtain⟨bm,hbm⟩:∃g,g=w2.heap.size:=⟨_,rfl⟩
   rw[←hgr]at kR ⊢
   rw[←hgs]at kS ⊢
   rw[←hbm]at kS hm3
   have hT0:AnsT w.heap.size gs gr bm [] (fun q=>q=bm∨q=gs∨q=gr) w3:=by
    have l1:=kS.lt;have l2:=kR.lt;have l3:=hm3.lt
    refine⟨fun _=>False,.slice none 0 0,[],kS,hm3,kR,OwR.nil _ _ _,fun h=>h,fun h=>h,?_,.inr (.inl rfl),.inr (.inr rfl),.inl rfl,fun _ h=>h.elim,fun q hq=>by cases hq⟩
    rintro q (rfl|rfl|rfl) <;> assumption
   have HT0:=zO hT0
   have hg2:=HG1.out
   have hx2s:=HX2.out.size
   have HO0:Hid (¬(gq=bm∨gq=gs∨gq=gr)∧¬(gd=bm∨gd=gs∨gd=gr)∧∀q,(q=bm∨q=gs∨q=gr)→w.heap.size≤q):=zO ⟨by omega,by omega,by rintro q (rfl|rfl|rfl) <;> omega⟩
   have HX3:=zO (HX2.out.trans hx3)
   have HKQ3:=zO (HKQ2.out.ext hx3);have HKD3:=zO (HKD2.out.ext hx3)
   have b3:=HKQ3.out.cell (i:=3) (by simp)
   simp only[ja,je]at b3
   clear hT0 kS kR hm3 hg2 hx2s hx3 hgr hgs hbm
   go_wp2_with fail
   go_loopw [31] (fun t wr=>∃(i:Nat) (O:Nat→Prop) (rows:List (List Vl)),i≤nr∧t=.int .i64 (i:Int)∧Hid (AnsT w.heap.size gs gr bm rows O wr)∧Hid (¬O gq∧¬O gd∧∀q,O q→w.heap.size≤q)∧Hid (RowsI M q i rows)∧Hid (Ext w wr)∧Hid (Bk wr gq 28 [.slice A nh ca,.int .i64 ag,.string av,.slice B nr cb,.slice O_ no co])∧Hid (Bk wr gd 33 [.map (some b)])) (fun t _=>nr-(intOf t).toNat)
   case atStart=>exact⟨0,_,[],jn _,rfl,HT0,HO0,zO ⟨List.nodup_nil,jn _,fun x=>by simp⟩,HX3,HKQ3,HKD3⟩
   case round =>
    obtain⟨i,OB,rows,hi,rfl,HT,HO,HRI,HX,HKQ,HKD⟩:=hrel
    obtain⟨W,rfl⟩:∃W:World,W=wr:=⟨_,rfl⟩
    clear HT0 HO0 HX3 HKQ3 HKD3 b3
    by_cases hlt:i<nr
    ·have i1:(0:Int)≤(i:Int):=by omega
     have i2:(i:Int)<(nr:Int):=by omega
     have hit:i<q.rs.length:=by have:=HNR.out;omega
     obtain⟨ad,B1,d1,C1,e1,rfl,-,f0,f1,hA1,hC1⟩:=HH.out.rs.rl hit
     replace f0:=HX.out.cell f0;replace f1:=HX.out.cell f1
     have hrm:q.rs[i]∈q.rs:=jg hit
     have hz1:=HZ.out.rs _ hrm
     obtain⟨hv1,hro,hhv⟩:=chk_valid HC.out hrm
     obtain⟨m1,m2,m3,m4⟩:=rule_small hro
     obtain⟨hbd,-⟩:=items_bd (rule_ok (ruleE_iff.2 hro)).1 hz1
     have hgo:=fun L hl hm=>HRI.out.more (L:=L) hit hl hm
     have hrl:rows.length≤100000:=by
      have h1:=HRI.out.ln
      have h2:i*1500≤3*1500:=zg _ (by have:=HRL.out;omega)
      omega
     have hpr:=HHV.out _ hrm
     have hxa:=HX.out.alloc (.cells #[.slice B1 q.rs[i].ats.length d1,.slice C1 q.rs[i].cds.length e1] 46)
     have kt:=Bk.new W 46 [.slice B1 q.rs[i].ats.length d1,.slice C1 q.rs[i].cds.length e1]
     have hxW:=(Ext.refl W).alloc (.cells #[.slice B1 q.rs[i].ats.length d1,.slice C1 q.rs[i].cds.length e1] 46)
     have HVA:=zO (fun (V:World) (hV:Ext _ V)=>vars_any (hA1.ext (hxa.trans hV)) (hC1.ext (hxa.trans hV)) hbd)
     have hcols:=fun (V:World) (B:Nat) (v:Value) (hV:Ext _ V) (hv:V.ownsRow B 9 1 v (varsC q.rs[i]).length ((varsC q.rs[i]).map Sv))=>(show Calls Tryz.prog 47 #[v,.slice A nh ca] V (Ret (fun x w'=>w'.ownsRow V.heap.size 3 1 x q.hd.length ((colsI (varsC q.rs[i]) q.hd).map I64)) V) from by
      obtain⟨A',c',rfl⟩:=own_slice hv
      rw[HNH.out]
      exact columns_any (Strs.of_own hv) (HH.out.hd.ext (hxa.trans hV)) (by omega) (by have:=HHL.out;have:=HNH.out;omega))
     have heach:=fun (gq gd:Nat) (V:World) (t12 t36 t39:Value) (hOB:¬OB gq∧¬OB gd∧∀q,OB q→w.heap.size≤q) (hg : _) (hC:ColI _ q.rs[i] q.hd true true true true t12 t36 t39 V)=>ans_each (gq:=gq) (gd:=gd) hA1 hC1 HD.out hz1 HDO.out HC.out hrm hpr HTAB.out hxa (HT.out.ext hxW) hOB hrl hg hC
     obtain⟨r,hr⟩:∃r,r=q.rs[i]:=⟨_,rfl⟩
     obtain⟨n1,hn1⟩:∃n1,n1=r.ats.length:=⟨_,rfl⟩
     obtain⟨n2,hn2⟩:∃m1,m1=r.cds.length:=⟨_,rfl⟩
     rw[←hr]at f0 f1 hgo hxa kt hxW HVA hcols heach
     rw[←hn1]at f0 hxa kt hxW HVA hcols heach
     rw[←hn2]at f1 hxa kt hxW HVA hcols heach
     have HGO:=zO hgo;have HCO:=zO hcols;have HEA:=zO heach
     clear hgo hcols heach hrm hz1 hv1 hro hhv m1 m2 m3 m4 hbd hrl hpr hA1 hC1 hr hn1 hn2 hit
     go_upto_region 11 with fail
     change Bk (W.alloc (.cells #[.slice B1 n1 d1,.slice C1 n2 e1] 46)) _ _ _ at kt
     have b0:=(HKQ.out.ext hxW).cell (i:=0) (by simp);have q0:=kt.cell (i:=0) (by simp);have q1:=kt.cell (i:=1) (by simp)
     simp only[ja,je]at b0 q0 q1
     have hgg:=HG1.out
     have HGW:Hid (gq<(W.alloc (.cells #[.slice B1 n1 d1,.slice C1 n2 e1] 46)).heap.size∧gd<(W.alloc (.cells #[.slice B1 n1 d1,.slice C1 n2 e1] 46)).heap.size):=zO (by
      have h1:=HKQ.out.lt;have h2:=HKD.out.lt
      rw[World.size_alloc]
      omega)
     have HKQ5:=zO (HKQ.out.ext hxW);have HKD5:=zO (HKD.out.ext hxW);have HKT:=zO kt
     obtain⟨W1,hW1⟩:∃V,V=W.alloc (.cells #[.slice B1 n1 d1,.slice C1 n2 e1] 46):=⟨_,rfl⟩
     rw[←hW1]at b0 q0 q1 HVA HCO HEA HGW HKQ5 HKD5 HKT ⊢
     obtain⟨gt,hgt⟩:∃g,g=W.heap.size:=⟨_,rfl⟩
     rw[←hgt]at q0 q1 HKT ⊢
     clear hxa kt hxW hgg f0 f1 hW1 hgt
     refine wp_then ?_
     intro KK hKK
     refine col_regA b0 q0 q1 HVA HCO ?_
     intro t12 t36 t39 W2 hC
     have HEACH:=zO (HEA.out gq gd _ _ _ _ HO.out HGW.out hC)
     have hx12:=hC.ext
     have c0:=(HKT.out.ext hx12).cell (i:=0) (by simp);have c1:=(HKT.out.ext hx12).cell (i:=1) (by simp);have c2:=(HKD5.out.ext hx12).cell (i:=0) (by simp)
     simp only[ja,je]at c0 c1 c2
     have HKQ6:=zO (HKQ5.out.ext hx12);have HKD6:=zO (HKD5.out.ext hx12)
     clear hC hx12 b0 q0 q1
     rw[hKK]
     clear hKK KK
     go_wp2_with fail
     refine HEACH.out.mono ?_
     rintro e W3 ⟨rfl,L,O',k1,k2,k3,k4,k5,k6,k7⟩
     have HT3:=zO k1;have HX3:=zO k2;have HO3:=zO k3;have HKQ7:=zO (k4 _ _ HKQ6.out);have HKD7:=zO (k5 _ _ HKD6.out);have HRI3:=zO (HGO.out L k6 k7)
     clear k1 k2 k3 k4 k5 k6 k7 c0 c1 c2
     go_wp2_with fail
     go_roundw
     case rel=>exact⟨i+1,O',_,by omega,by go_num,HT3,HO3,HRI3,HX3,HKQ7,HKD7⟩
     case measure=>simp[intOf];omega
    ·obtain rfl:i=nr:=by omega
     have hdi:¬(i:Int)<(i:Int):=by omega
     obtain⟨F1,v,us,j1,j2,j3,j4,j5,j6,j7,j8,j9,j10,j11,j12⟩:=HT.out
     have hRI:=HRI.out
     have hnq:i=q.rs.length:=HNR.out
     have hul:us.length≤1048576:=by
      have h1:=j4.len
      have h2:=hRI.ln
      have h3:i*1500≤3*1500:=zg _ hnr3
      omega
     have hol:(orderL q.hd q.od).length≤1000000:=by
      unfold orderL
      rw[jl,jm]
      have h1:=jG (fun v=>!decide (v∈q.od.map Ky.var)) q.hd
      have h2:=HHL.out
      have h3:=HNH.out
      omega
     have HSO:=zO (fun (V X:World) (vf:Value) (hV:Ext W V) (hp:CmpPost q.hd q.od V (.returned vf) X)=>sort_ans j4 hV hp (rows_len hRI) hul (headE_nodup HC.out.1.hd) HC.out.1.od hol)
     have HCM:=zO (fun (V:World) (hV:Ext W V)=>HCMP.out V (HX.out.trans hV) (by have:=HHL.out;have:=HNH.out;omega))
     have HFIN:Hid (∀X,(∃us' R,AscQ (keysQ q.hd q.od) R∧R.Perm rows∧OwR F1 X w.heap.size v us.length us' R∧(∃Y,Y.grownBy X v.ownBlock∧Ext W Y))→PP (.returned (.tuple #[v,.int .i64 0])) X∧Bk X gr 38 [v]):=zO (fun X hX=>by
      obtain⟨us',R,q1,q2,q3,Y,q4,q5⟩:=hX
      have hbx:=(j3.ext q5).fr (grown_fr q4) (fun e=>own_bk j4.own j3 (by decide) e rfl)
      refine⟨?_,hbx⟩
      have hex:Ext w X:=(HX.out.trans q5).grown q4 (fun k hk=>own_ge j4.own hk)
      have hsl:=q3.sl (G:=fun k=>w.heap.size≤k) (fun k hk=>own_ge q3.own hk) (fun k hk=>HO.out.2.2 k (j11 k hk))
      obtain⟨A3,c3,e3⟩:=own_slice q3.own
      rw[e3]at hsl ⊢
      rw[hnq]at hRI
      exact HP3.out X A3 _ c3 R hex HE0.out (by rw[←HAG.out];exact HA0.out) (ans_ok HC.out hRI q1 q2) hsl)
     have hsv:∃A n c,v=.slice A n c:=by
      obtain⟨A3,c3,e3⟩:=own_slice j4.own
      exact⟨A3,_,c3,e3⟩
     have hone:v.oneCell'=true:=by
      obtain⟨A3,c3,e3⟩:=own_slice j4.own
      rw[e3]
      rfl
     have b0:=HKQ.out.cell (i:=0) (by simp);have b1:=HKQ.out.cell (i:=1) (by simp);have b2:=HKQ.out.cell (i:=2) (by simp);have b3:=HKQ.out.cell (i:=3) (by simp);have b4:=HKQ.out.cell (i:=4) (by simp);have b5:=j3.cell (i:=0) (by simp)
     simp only[ja,je]at b0 b1 b2 b3 b4 b5
     clear j1 j2 j3 j4 j5 j6 j7 j8 j9 j10 j11 j12 hRI hnq hul hol
     go_upto_region 16 with fail
     refine wp_then ?_
     intro KK hKK
     refine srt_regA (P:=fun X=>∃us' R,AscQ (keysQ q.hd q.od) R∧R.Perm rows∧OwR F1 X w.heap.size v us.length us' R∧(∃Y,Y.grownBy X v.ownBlock∧Ext W Y)) b0 b1 b2 b3 b4 b5 hone HCM (zO (fun V X vf hV hp=>(HSO.out V X vf hV hp).mono (by
      rintro e w' ⟨rfl,us',R,q1,q2,q3,q4,q5⟩
      exact⟨rfl,us',R,q1,q2,q3,X,q4,q5⟩))) ?_
     intro t48 t49 t50 t51 X hX
     obtain⟨hp,hbx⟩:=HFIN.out X hX
     have HP:=zO hp
     have c0:=hbx.cell (i:=0) (by simp)
     simp only[ja]at c0
     clear hX hp hbx b0 b1 b2 b3 b4 b5
     rw[hKK]
     clear hKK KK
     obtain⟨A3,n3,c3,rfl⟩:=hsv
     go_wp2_with fail
     exact HP.out
  ·have g1:(ag != 0)=true:=bne_iff_ne.2 ha
   have HP:=zO (HP2.out w2 HX2.out HE0.out (by rw[←HAG.out];exact ha))
   clear ha
   go_wp2_with fail
   exact HP.out
 ·have g0:(ev != 0)=true:=bne_iff_ne.2 h0
  have HP:=zO (HP1.out w2 HX2.out h0)
  clear h0
  go_wp2_with fail
  exact HP.out
end Go.Proofs.YtplldnnnhgnbjaaGreatDoor
namespace Go.Proofs.YtplldnnnhgnbjaaGreatDoor
open Go.RowKit Go.Maps
structure AsgB(W:World)(base gr:Nat)(F:Nat→Prop)(rows:List (List Vl))(v:Value)(us:List Value):Prop where
 box:Bk W gr 38 [v]
 own:OwR F W base v us.length us rows
 fr':¬F gr
theorem AsgB.fr{W W':World}{S F:Nat→Prop}{base gr:Nat}{rows:List (List Vl)}{v:Value}{us:List Value}(h:AsgB W base gr F rows v us)(hf:Fr S W W')(h3:¬S gr)(h6:∀q,F q→¬S q)(h7:∀q,v.ownBlock=some q→¬S q):AsgB W' base gr F rows v us :=
 ⟨h.box.fr hf h3,h.own.fr hf h7 h6,h.fr'⟩
def AsgPost(base gr:Nat)(F:Nat→Prop)(rows:List (List Vl))(v:Value)(W:World)(e:Ending)(W':World):Prop :=
 e=.returned (.tuple #[])∧∃F' v' us',AsgB W' base gr F' rows v' us'∧Fr (fun q=>q=gr∨v.ownBlock=some q) W W'∧(∀q,F' q→F q∨(W.heap.size≤q∧q<W'.heap.size))∧∀q,v'.ownBlock=some q→v.ownBlock=some q∨(W.heap.size≤q∧q<W'.heap.size)
theorem AsgB.step{W W1 W2 W9:World}{F:Nat→Prop}{base gr nu n c0 c1:Nat}{A A1:Option Addr}{rows:List (List Vl)}{us:List Value}{y:List Vl}{o:Obj}(hO:AsgB W base gr F rows (.slice A nu c0) us)(hn:nu=us.length)(he1:Ext W W1)(hy:Sl rdVl (fun k=>W.heap.size≤k∧k<W1.heap.size) W1 (.slice A1 n c1) y)(he2:Ext W1 W2){v9:Value}(hr9:W9.ownsRow base 74 1 v9 (nu+1) (us++[.slice A1 n c1]))(hg9:(W2.alloc o).grownBy W9 (Value.slice A nu c0).ownBlock)(hl9:Lands (W2.alloc o) (.slice A nu c0) v9)(hbase:base≤W.heap.size) :
  AsgPost base gr F (rows++[y]) (.slice A nu c0) W (.returned (.tuple #[])) (W9.setCell ⟨gr,0,none⟩ v9):=by
 subst hn
 have he:=(he1.trans he2).alloc o
 have hs1:=he1.size;have hs2:=he2.size
 have hob:∀k,(Value.slice A us.length c0).ownBlock=some k→k<W.heap.size:=fun k hk=>own_lt hO.own.own hk
 have hgr:gr<W.heap.size:=hO.box.lt
 have hv9:Bk W9 gr 38 [.slice A us.length c0]:=Bk.fr (hO.box.ext he) (grown_fr hg9) (fun e=>own_bk hO.own.own hO.box (by decide) e rfl)
 have hset:Fr (fun k=>k=gr) W9 (W9.setCell ⟨gr,0,none⟩ v9):=Fr.setCell (S:=fun k=>k=gr) (Fr.refl _ W9) (p:=⟨gr,0,none⟩) (.inl rfl) _
 have hz9:=hg9.size
 rw[World.size_alloc]at hz9
 have hl:∀q,v9.ownBlock=some q→(Value.slice A us.length c0).ownBlock=some q∨(W.heap.size≤q∧q<W9.heap.size):=fun q hq=>by
  rcases hl9 with h|h
  ·exact .inl (h ▸ hq)
  ·have h3:=own_lt hr9 hq
   rw[h]at hq
   injection hq with hq
   rw[World.size_alloc]at hq
   right
   omega
 have hsz:(W9.setCell ⟨gr,0,none⟩ v9).heap.size=W9.heap.size:=World.size_setCell _ _ _
 have hx3:Sl rdVl (fun k=>(F k∨(W.heap.size≤k∧k<W1.heap.size))∧(Value.slice A us.length c0).ownBlock≠some k∧k<(W2.alloc o).heap.size) (W2.alloc o) (.slice A1 n c1) y :=
  (hy.ext (he2.alloc o)).mono (by decide) (fun k h1 hk=>⟨.inr hk,fun e=>by have:=hob k e;omega,h1⟩)
 have how9:=OwR.more2 (F':=fun k=>F k∨(W.heap.size≤k∧k<W1.heap.size)) (hO.own.ext he) (Ext.refl _) hx3 (fun k hk=>.inl hk) hr9 hg9 hl9
 have hF2:Fr (fun q=>q=gr∨(Value.slice A us.length c0).ownBlock=some q) W (W9.setCell ⟨gr,0,none⟩ v9):=Fr.setCell (Fr.comp (he.fr _) (grown_fr hg9) (fun k hk=>.inl (.inr hk))) (.inl (.inl rfl)) _
 refine⟨rfl,fun k=>F k∨(W.heap.size≤k∧k<W1.heap.size),v9,us++[.slice A1 n c1],⟨hv9.set 0 _,?_,?_⟩,hF2,?_,?_⟩
 ·have h9:=how9.fr hset (fun k hk e=>by subst e;exact own_bk hr9 hv9 (by decide) hk rfl) (fun k hk e=>by
   subst e
   rcases hk with hk|hk
   ·exact hO.fr' hk
   ·omega)
  rw[show (us++[Value.slice A1 n c1]).length=us.length+1 by simp]
  exact h9
 ·rintro(hk|hk)
  ·exact hO.fr' hk
  ·omega
 ·rintro q (hq|hq)
  ·exact .inl hq
  ·exact .inr ⟨hq.1,by rw[hsz];omega⟩
 ·intro q hq
  exact(hl q hq).imp_right (fun h=>⟨h.1,by rw[hsz];exact h.2⟩)
def AsgSt(base gr:Nat)(L:List (List Vl))(O:Nat→Prop)(W:World):Prop :=
 ∃F v us,AsgB W base gr F L v us∧(∀q,O q→q<W.heap.size)∧O gr∧(∀q,F q→O q)∧∀q,v.ownBlock=some q→O q
noncomputable def asgRg:Code:=((Tryz.f56.body.bind (findRegion 0)).getD .skip)
def AsgI(W0:World)(base gr n nu c0:Nat)(A:Option Addr)(F:Nat→Prop)(rows:List (List Vl))(y:List Vl)(p:Nat)(a:Bool)(t3 t5 t6 t7:Value)(W:World):Prop :=
 (a=true→t3=.slice A nu c0)∧(p=0→Ext W0 W) ∧
 (p=1→∃A1 c1 W1,t5=.slice A1 n c1∧Ext W0 W1∧Sl rdVl (fun k=>W0.heap.size≤k∧k<W1.heap.size) W1 (.slice A1 n c1) y∧Ext W1 W) ∧
 (p=2→∃A1 c1 W1 W2,Ext W0 W1∧Sl rdVl (fun k=>W0.heap.size≤k∧k<W1.heap.size) W1 (.slice A1 n c1) y∧Ext W1 W2∧W=W2.alloc (.cells #[.slice A1 n c1] 74)∧t6=.slice (some ⟨W2.heap.size,0,none⟩) 1 1) ∧
 (p=3→∃A9 c9,t7=.slice A9 (nu+1) c9∧Bk W gr 38 [.slice A nu c0]∧AsgPost base gr F (rows++[y]) (.slice A nu c0) W0 (.returned (.tuple #[])) (W.setCell ⟨gr,0,none⟩ (.slice A9 (nu+1) c9))) ∧
 (p=4→AsgPost base gr F (rows++[y]) (.slice A nu c0) W0 (.returned (.tuple #[])) W)
def lA(p:Nat)(a:Bool):Array Bool:=#[a,true,decide (1≤p),decide (2≤p),decide (3≤p),decide (4≤p)]
def AsgJ(W0:World)(base gr n nu c0:Nat)(A:Option Addr)(F:Nat→Prop)(rows:List (List Vl))(y:List Vl)(G:Value→Value→Value→Value→Act)(m:Nat)(l:Array Bool)(act:Act)(W:World):Prop :=
 ∃p a t3 t5 t6 t7,m+p+a.toNat=5∧p≤4∧(3≤p→a=true)∧l=lA p a∧act=G t3 t5 t6 t7∧AsgI W0 base gr n nu c0 A F rows y p a t3 t5 t6 t7 W
set_option maxRecDepth 20000 in
set_option maxHeartbeats 3200000 in
theorem asg_reg{K:Act→World→Prop}{Q:Exit→Act→World→Prop}{W0:World}{base gr gx n nu c0:Nat}{A:Option Addr}{F:Nat→Prop}{rows:List (List Vl)}{y:List Vl}{us:List Value}{u2 u3 u4 u5 u6 u7:Value}(hO:AsgB W0 base gr F rows (.slice A nu c0) us)(hnu:nu=us.length)(hbase:base≤W0.heap.size)(hnb:nu≤1048576)(HCL:Hid (∀V,Ext W0 V→Calls Tryz.prog 57 #[.slice (some ⟨gx,0,none⟩) n n] V (Ret (fun x w'=>∃A' c',x=.slice A' n c'∧Sl rdVl (fun k=>V.heap.size≤k) w' x y) V)))(hK:∀t3 t5 t6 t7 W,AsgPost base gr F (rows++[y]) (.slice A nu c0) W0 (.returned (.tuple #[])) W→K ⟨#[.slice (some ⟨gx,0,none⟩) n n,.pointer (some ⟨gr,0,none⟩),u2,t3,.slice (some ⟨gx,0,none⟩) n n,t5,t6,t7],[]⟩ W) :
  Code.wp Tryz.prog asgRg (Exit.then K Q) ⟨#[.slice (some ⟨gx,0,none⟩) n n,.pointer (some ⟨gr,0,none⟩),u2,u3,u4,u5,u6,u7],[]⟩ W0:=by
 have HK:=zO hK
 obtain⟨i0,hi0,hz0,hz1,hz2⟩:=info_parts info_rows
 have HI0:=zO (And.intro hi0 (And.intro hz0 (And.intro hz1 hz2)))
 have HO:=zO hO
 have HNU:=zO hnu
 clear hK hi0 hz0 hz1 hz2 hO hnu
 conv=>arg 2;whnf
 refine wp_only ?_
 refine wp_region_held_drew (S:=fun _=>True) (by kernel_rfl) trivial (fun hHeld=>?_)
 refine wpAnyH_take (i:=1) (oi:=?ox1) (v:=.slice (some ⟨gx,0,none⟩) n n) ?hx1 (by kernel_rfl) (by kernel_rfl) (by kernel_rfl) (fun _ _ _ h=>h) (Or.inl ⟨?wx1,?yx1⟩) hHeld ?rx1
 case hx1=>simp only[jd,jb,jc];rfl
 case wx1=>rfl
 case yx1 =>
  intro V hSw
  simp[go_sem] <;> with_reducible rfl
 (try simp only[Act.put,jf,jh,ji])
 refine inv_any (I:=AsgJ W0 base gr n nu c0 A F rows y (fun t3 t5 t6 t7=>⟨#[.slice (some ⟨gx,0,none⟩) n n,.pointer (some ⟨gr,0,none⟩),u2,t3,.slice (some ⟨gx,0,none⟩) n n,t5,t6,t7],[]⟩)) ?hS ?h0 ?h1 _ _ _ _ ?st
 case hS=>intros;trivial
 case st=>exact⟨0,false,u3,u5,u6,u7,rfl,by omega,fun h=>by omega,rfl,rfl,(fun h=>by cases h),(fun _=>(Ext.refl W0).drew),(fun h=>by omega),(fun h=>by omega),(fun h=>by omega),(fun h=>by omega)⟩
 case h0 =>
  rintro l act W ⟨p,a,t3,t5,t6,t7,hn,hp,hab,rfl,rfl,h⟩
  obtain⟨rfl,rfl⟩:p=4∧a=true:=by
   cases a <;> simp at hn hab ⊢ <;> omega
  refine⟨by kernel_rfl,?_⟩
  exact HK.out _ _ _ _ _ (h.2.2.2.2.2 rfl)
 case h1 =>
  rintro m l act W ⟨p,a,t3,t5,t6,t7,hn,hp,hab,rfl,rfl,h⟩
  obtain rfl|rfl|rfl|rfl|rfl:p=0∨p=1∨p=2∨p=3∨p=4:=by omega
  ·rcases a with _|_
   ·refine inv_ready (rs:=[0,2]) (by kernel_rfl) (by simp) ?_
    refine inv_cons (o:=?ow2) ?ho2 (fun K hK=>?hst2) ?hmore2
    case ho2=>simp only[jd,jb,jc];rfl
    case hst2 =>
     have k0:=HO.out.box.ext (h.2.1 rfl)
     have k0:=k0.cell (i:=0) (by simp)
     simp only[ja]at k0
     go_simp
     exact hK.out _ _ ⟨0,true,_,t5,t6,t7,by simp at hn ⊢;omega,by omega,fun _=>rfl,rfl,rfl,(fun _=>rfl),h.2⟩
    refine inv_cons (o:=?ow10) ?ho10 (fun K hK=>?hst10) ?hmore10
    case ho10=>simp only[jd,jb,jc];rfl
    case hst10 =>
     go_simp
     go_at_call 57
     have h20:=h.2.1 rfl
     (with_reducible refine(HCL.out _ h20).mono ?_)
     rintro e W1 ⟨x,rfl,he,A1,c1,rfl,hy⟩
     (try simp only[Act.put,jf,jh,ji])
     have hs:=(h.2.1 rfl).size
     exact hK.out _ _ ⟨1,false,t3,_,t6,t7,by simp at hn ⊢;omega,by omega,fun h=>by omega,rfl,rfl,(fun h=>by cases h),(fun h=>by omega),(fun _=>⟨A1,c1,W1,rfl,(h.2.1 rfl).trans he,hy.mono (by decide) (fun k hk hq=>⟨js hs hq,hk⟩),Ext.refl _⟩),(fun h=>by omega),(fun h=>by omega),(fun h=>by omega)⟩
    exact inv_nil
   ·refine inv_ready (rs:=[2]) (by kernel_rfl) (by simp) ?_
    refine inv_cons (o:=?ow23) ?ho23 (fun K hK=>?hst23) ?hmore23
    case ho23=>simp only[jd,jb,jc];rfl
    case hst23 =>
     go_simp
     go_at_call 57
     have h20:=h.2.1 rfl
     (with_reducible refine(HCL.out _ h20).mono ?_)
     rintro e W1 ⟨x,rfl,he,A1,c1,rfl,hy⟩
     (try simp only[Act.put,jf,jh,ji])
     have hs:=(h.2.1 rfl).size
     exact hK.out _ _ ⟨1,true,t3,_,t6,t7,by simp at hn ⊢;omega,by omega,fun h=>by omega,rfl,rfl,h.1,(fun h=>by omega),(fun _=>⟨A1,c1,W1,rfl,(h.2.1 rfl).trans he,hy.mono (by decide) (fun k hk hq=>⟨js hs hq,hk⟩),Ext.refl _⟩),(fun h=>by omega),(fun h=>by omega),(fun h=>by omega)⟩
    exact inv_nil
  ·rcases a with _|_
   ·refine inv_ready (rs:=[0,3]) (by kernel_rfl) (by simp) ?_
    refine inv_cons (o:=?ow37) ?ho37 (fun K hK=>?hst37) ?hmore37
    case ho37=>simp only[jd,jb,jc];rfl
    case hst37 =>
     have k0:=HO.out.box.ext ((h.2.2.1 rfl).elim fun A1 h=>h.elim fun c1 h=>h.elim fun W1 h=>h.2.1.trans h.2.2.2)
     have k0:=k0.cell (i:=0) (by simp)
     simp only[ja]at k0
     go_simp
     exact hK.out _ _ ⟨1,true,_,t5,t6,t7,by simp at hn ⊢;omega,by omega,fun _=>rfl,rfl,rfl,(fun _=>rfl),h.2⟩
    refine inv_cons (o:=?ow45) ?ho45 (fun K hK=>?hst45) ?hmore45
    case ho45=>simp only[jd,jb,jc];rfl
    case hst45 =>
     obtain⟨A1,c1,W1,rfl,h2,h3,h4⟩:=h.2.2.1 rfl
     clear h
     go_simp
     exact hK.out _ _ ⟨2,false,_,_,_,t7,by simp at hn ⊢;omega,by omega,fun h=>by omega,rfl,rfl,(fun h=>by cases h),(fun h=>by omega),(fun h=>by omega),(fun _=>⟨A1,c1,W1,W,h2,h3,h4,rfl,rfl⟩),(fun h=>by omega),(fun h=>by omega)⟩
    exact inv_nil
   ·refine inv_ready (rs:=[3]) (by kernel_rfl) (by simp) ?_
    refine inv_cons (o:=?ow54) ?ho54 (fun K hK=>?hst54) ?hmore54
    case ho54=>simp only[jd,jb,jc];rfl
    case hst54 =>
     obtain⟨A1,c1,W1,rfl,h2,h3,h4⟩:=h.2.2.1 rfl
     obtain rfl:=h.1 rfl
     clear h
     go_simp
     exact hK.out _ _ ⟨2,true,_,_,_,t7,by simp at hn ⊢;omega,by omega,fun h=>by omega,rfl,rfl,(fun _=>rfl),(fun h=>by omega),(fun h=>by omega),(fun _=>⟨A1,c1,W1,W,h2,h3,h4,rfl,rfl⟩),(fun h=>by omega),(fun h=>by omega)⟩
    exact inv_nil
  ·rcases a with _|_
   ·refine inv_ready (rs:=[0]) (by kernel_rfl) (by simp) ?_
    refine inv_cons (o:=?ow65) ?ho65 (fun K hK=>?hst65) ?hmore65
    case ho65=>simp only[jd,jb,jc];rfl
    case hst65 =>
     have k0:=HO.out.box.ext ((h.2.2.2.1 rfl).elim fun A1 h=>h.elim fun c1 h=>h.elim fun W1 h=>h.elim fun W2 h=>h.2.2.2.1 ▸ (h.1.trans h.2.2.1).alloc _)
     have k0:=k0.cell (i:=0) (by simp)
     simp only[ja]at k0
     go_simp
     exact hK.out _ _ ⟨2,true,_,t5,t6,t7,by simp at hn ⊢;omega,by omega,fun _=>rfl,rfl,rfl,(fun _=>rfl),h.2⟩
    exact inv_nil
   ·refine inv_ready (rs:=[4]) (by kernel_rfl) (by simp) ?_
    refine inv_cons (o:=?ow75) ?ho75 (fun K hK=>?hst75) ?hmore75
    case ho75=>simp only[jd,jb,jc];rfl
    case hst75 =>
     obtain⟨A1,c1,W1,W2,h2,h3,h4,rfl,rfl⟩:=h.2.2.2.1 rfl
     obtain rfl:=h.1 rfl
     clear h
     have hw:=(h2.trans h4).size
     have how:=own_ext' HO.out.own.own ((h2.trans h4).alloc (.cells #[.slice A1 n c1] 74))
     rw[←HNU.out]at how
     refine step_append_at (by rfl) _ _ _ (by rfl) base 74 i0 (.slice none 0 0) 1 24 Tryz.underlying38 HI0.out.1 HI0.out.2.1 HI0.out.2.2.1 HI0.out.2.2.2 rfl (by omega) (.slice A nu c0) nu us (by rfl) how ⟨W2.heap.size,0,none⟩ 1 1 [.slice A1 n c1] (by rfl) (by rfl) (laid_news W2 _ _) (by simp[Value.oneCell']) (by simp only[maxLen];omega) (by omega) (by simp;omega) ?_
     intro v9 W9 hr9 hg9 hl9
     obtain⟨A9,c9,rfl⟩:=own_slice hr9
     (try simp only[Act.put,jf,jh,ji])
     have hbx:Bk W9 gr 38 [.slice A nu c0]:=Bk.fr (HO.out.box.ext ((h2.trans h4).alloc (.cells #[.slice A1 n c1] 74))) (grown_fr hg9) (fun e=>own_bk HO.out.own.own HO.out.box (by decide) e rfl)
     exact hK.out _ _ ⟨3,true,_,t5,_,_,by simp at hn ⊢;omega,by omega,fun _=>rfl,rfl,rfl,(fun _=>rfl),(fun h=>by omega),(fun h=>by omega),(fun h=>by omega),(fun _=>⟨A9,c9,rfl,hbx,HO.out.step HNU.out h2 h3 h4 hr9 hg9 hl9 hbase⟩),(fun h=>by omega)⟩
    exact inv_nil
  ·rcases a with _|_
   ·exact absurd (hab (by omega)) (by simp)
   ·refine inv_ready (rs:=[5]) (by kernel_rfl) (by simp) ?_
    refine inv_cons (o:=?ow94) ?ho94 (fun K hK=>?hst94) ?hmore94
    case ho94=>simp only[jd,jb,jc];rfl
    case hst94 =>
     obtain⟨A9,c9,rfl,hb,hp⟩:=h.2.2.2.2.1 rfl
     obtain rfl:=h.1 rfl
     clear h
     have k0:=hb.cell (i:=0) (by simp);have k1:=hb.free 0
     simp only[ja]at k0
     clear hb
     have HP:=zO hp
     clear hp
     go_simp
     exact hK.out _ _ ⟨4,true,_,t5,t6,_,by simp at hn ⊢;omega,by omega,fun _=>rfl,rfl,rfl,(fun _=>rfl),(fun h=>by omega),(fun h=>by omega),(fun h=>by omega),(fun h=>by omega),(fun _=>HP.out)⟩
    exact inv_nil
  ·rcases a with _|_
   ·exact absurd (hab (by omega)) (by simp)
   ·exact absurd hn (by simp)
set_option maxRecDepth 20000 in
theorem asg_any{W:World}{F:Nat→Prop}{base gr gx n:Nat}{rows:List (List Vl)}{v:Value}{us:List Value}{y:List Vl}(h:AsgB W base gr F rows v us)(hbase:base≤W.heap.size)(hl:rows.length≤1048576)(hx:Bk W gx 51 (vcells y))(hyl:y.length=n)(hn:n≤1048576) :
  Calls Tryz.prog 56 #[.slice (some ⟨gx,0,none⟩) n n,.pointer (some ⟨gr,0,none⟩)] W (AsgPost base gr F (rows++[y]) v W):=by
 have HCL:=zO (fun (V:World) (hV:Ext W V)=>clone_row ((row_bk hx hyl).ext hV) hn)
 obtain⟨A,c0,rfl⟩:=own_slice h.own.own
 have hul:us.length=rows.length:=h.own.len
 obtain⟨PP,hPP⟩:∃PP,PP=AsgPost base gr F (rows++[y]) (.slice A us.length c0) W:=⟨_,rfl⟩
 have HPP:=zO hPP
 rw[←hPP]
 have HH:=zO h
 have hub:us.length≤1048576:=by omega
 clear h hx hyl hPP hul hl
 go_enter Tryz.func56,Tryz.ntmps56
 go_upto_region 0 with fail
 refine wp_then ?_
 intro KK hKK
 refine asg_reg HH.out rfl hbase hub HCL ?_
 intro t3 t5 t6 t7 W2 hC
 have HQ:Hid (PP (.returned (.tuple #[])) W2):=zO (by rw[HPP.out];exact hC)
 clear hC
 rw[hKK]
 clear hKK
 go_wp2_with fail
 exact bodyPost_end (results_none rfl _ _ _) rfl HQ.out
theorem asg_vis{base gr gx n h1 N:Nat}{wT:World}(hbase:base≤wT.heap.size)(hN:N≤1048576)(hn:n≤1048576) :
  VisOk N 56 #[.pointer (some ⟨gr,0,none⟩)] gx n wT h1 (AsgSt base gr) where
 lt:=fun ⟨_,_,_,_,h,_⟩=>h
 keep:=fun ⟨F,v,us,hB,h1,h2,h7,h8⟩ hf ht=>⟨F,v,us,hB.fr hf (fun h=>ht _ h h2) (fun q hq h=>ht _ h (h7 q hq)) (fun q hq h=>ht _ h (h8 q hq)),fun q hq=>jM (h1 q hq) hf.size,h2,h7,h8⟩
 visit:=by
  rintro L O W y ⟨F,v,us,hB,h1,h2,h7,h8⟩ hlN he hh hx hl hok hox
  refine(asg_any hB (js hbase he.size) (by omega) hx hl hn).mono ?_
  rintro e W' ⟨rfl,F',v',us',hB',hf,hF,hv⟩
  have hz:=hf.size
  refine⟨rfl,fun q=>O q∨(W.heap.size≤q∧q<W'.heap.size),⟨F',v',us',hB',?_,.inl h2,fun q hq=>?_,fun q hq=>?_⟩,hf.mono (fun q _ hq=>?_),fun q hq=>hq.imp_right (fun h=>h.1)⟩
  ·rintro q (hq|hq)
   ·have:=h1 q hq;omega
   ·exact hq.2
  ·exact(hF q hq).imp_left (h7 q)
  ·exact(hv q hq).imp_left (h8 q)
  ·rcases hq with rfl|hq
   ·exact h2
   ·exact h8 q hq
end Go.Proofs.YtplldnnnhgnbjaaGreatDoor
namespace Go.Proofs.YtplldnnnhgnbjaaGreatDoor
open Go.RowKit Go.Maps Go.Sort Go.Shelf Go.Lib
open Go.Proofs (Row1 SW CmpLays1 OneCell)
section
variable {α : Type} [Inhabited α] {enc : α→Value} {w0:World} {blk off:Nat} {d0:Array α}
def SP(enc : α→Value)(w0:World)(blk off:Nat)(d0:Array α)(W:World):Prop:=∃dk:Array α,dk.size=d0.size∧PermIn 0 d0.size d0 dk∧SW enc w0 blk off dk W
theorem SP.swap{dk:Array α}{W:World}(R:Row1 enc w0 blk off d0)(hs:dk.size=d0.size)(hp:PermIn 0 d0.size d0 dk)(S:SW enc w0 blk off dk W){i j:Nat}(hi:i<d0.size)(hj:j<d0.size):SP enc w0 blk off d0 ((W.setCell ⟨blk,off+i,none⟩ (enc dk[j]!)).setCell ⟨blk,off+j,none⟩ (enc dk[i]!)).drew :=
 ⟨Go.Sort.swp dk i j,by rw[size_swp,hs],permIn_trans _ _ _ _ _ hp (Go.Sort.swp_permIn dk 0 d0.size i j (jn _) hi (jn _) hj (by omega)),S.swapped R i j (by omega) (by omega)⟩
set_option maxRecDepth 20000 in
set_option maxHeartbeats 1600000 in
theorem swapRange_any{w:World}{cap a b n:Nat}{fv:Value}(R:Row1 enc w0 blk off d0)(hS:SP enc w0 blk off d0 w)(ha:a+n≤d0.size)(hb:b+n≤d0.size)(hsz:d0.size≤1048576) :
  Calls Tryz.prog 300 #[.slice (some ⟨blk,off,none⟩) d0.size cap,.int .i64 (a:Int),.int .i64 (b:Int),.int .i64 (n:Int),fv] w (fun e w'=>e=.returned (.tuple #[])∧SP enc w0 blk off d0 w'):=by
 obtain⟨sz,hszq⟩:∃q,q=d0.size:=⟨_,rfl⟩
 rw[←hszq]at ha hb hsz ⊢
 have HS:=zO hS;have HQ:=zO hszq;have HR:=zO R
 have hcl0:=R.hO.cells
 simp only[Value.cells]at hcl0
 have hst:=R.hO.store Tryz.prog
 have mixed:Tryz.prog.follows .mixedOrders=true:=by kernel_rfl
 clear hS hszq
 go_enter Tryz.func300,Tryz.ntmps300
 go_wp2_with fail
 go_loopw [10] (fun t wr=>∃i:Nat,i≤n∧t=.int .i64 (i:Int)∧Hid (SP enc w0 blk off d0 wr)) (fun t _=>n-(intOf t).toNat)
 case atStart=>exact⟨0,jn _,rfl,HS⟩
 case round =>
  obtain⟨i,hi,rfl,HP⟩:=hrel
  obtain⟨W,rfl⟩:∃W:World,W=wr:=⟨_,rfl⟩
  clear HS
  by_cases hlt:i<n
  ·obtain⟨dk,hs,hp,S⟩:=HP.out
   obtain⟨iN,hiN⟩:∃q,q=a+i:=⟨_,rfl⟩
   obtain⟨jN,hjN⟩:∃q,q=b+i:=⟨_,rfl⟩
   have hsq:=HQ.out
   have pi:iN<d0.size:=by omega
   have pj:jN<d0.size:=by omega
   have S3:Hid (SP enc w0 blk off d0 ((W.setCell ⟨blk,off+iN,none⟩ (enc dk[jN]!)).setCell ⟨blk,off+jN,none⟩ (enc dk[iN]!)).drew):=zO (SP.swap R hs hp S pi pj)
   have ca:=S.c1 R (by omega) iN (by omega)
   have cb:=S.c1 R (by omega) jN (by omega)
   have fa:=S.f1 R (by omega) iN (by omega)
   have fb:=S.f1 R (by omega) jN (by omega)
   obtain⟨x,hx⟩:∃x,x=dk[iN]!:=⟨_,rfl⟩
   obtain⟨y,hy⟩:∃x,x=dk[jN]!:=⟨_,rfl⟩
   obtain⟨u,cc⟩:=S.c2 R (by omega) iN jN (by omega) (by omega) (enc y)
   rw[←hx]at ca S3
   rw[←hy]at cb S3
   have ea:((a:Int)+(i:Int)).toNat=iN:=by omega
   have pa:(0:Int)≤(a:Int)+(i:Int):=by omega
   have ba:(a:Int)+(i:Int)<(sz:Int):=by omega
   have ra:IntKind.i64.wrap ((a:Int)+(i:Int))=(a:Int)+(i:Int):=by rw[IntKind.wrap_i64];omega
   have eb:((b:Int)+(i:Int)).toNat=jN:=by omega
   have pb:(0:Int)≤(b:Int)+(i:Int):=by omega
   have bb:(b:Int)+(i:Int)<(sz:Int):=by omega
   have rb:IntKind.i64.wrap ((b:Int)+(i:Int))=(b:Int)+(i:Int):=by rw[IntKind.wrap_i64];omega
   clear S hs hp hx hy hiN hjN hsq pi pj HP
   go_upto_region 3 with fail
   go_big_region_o
   clear ca cb cc fa fb
   generalize ((W.setCell ⟨blk,off+iN,none⟩ (enc y)).setCell ⟨blk,off+jN,none⟩ (enc x)).drew=w3 at S3 ⊢
   clear ea eb
   go_wp2_with fail
   go_roundw
   case rel=>exact⟨i+1,by omega,by go_num,S3⟩
   case measure=>simp[intOf];omega
  ·obtain rfl:i=n:=by omega
   go_wp2_with fail
   go_end0
   exact⟨rfl,HP.out⟩
end
end Go.Proofs.YtplldnnnhgnbjaaGreatDoor
namespace Go.Proofs.YtplldnnnhgnbjaaGreatDoor
open Go.RowKit Go.Maps Go.Sort Go.Shelf Go.Lib
open Go.Proofs (Row1 SW CmpLays1 OneCell)
section
variable {α : Type} [Inhabited α] {enc : α→Value} {w0:World} {blk off:Nat} {d0:Array α}
set_option maxRecDepth 20000 in
set_option maxHeartbeats 1600000 in
theorem rotate_any{w:World}{cap a m b:Nat}{fv:Value}(R:Row1 enc w0 blk off d0)(hS:SP enc w0 blk off d0 w)(ha:a<m)(hm:m<b)(hb:b≤d0.size)(hsz:d0.size≤1048576) :
  Calls Tryz.prog 277 #[.slice (some ⟨blk,off,none⟩) d0.size cap,.int .i64 (a:Int),.int .i64 (m:Int),.int .i64 (b:Int),fv] w (fun e w'=>e=.returned (.tuple #[])∧SP enc w0 blk off d0 w'):=by
 have HSW:=zO (fun (V:World) (hV:SP enc w0 blk off d0 V) (x y n:Nat) (h1:x+n≤d0.size) (h2:y+n≤d0.size)=>swapRange_any (cap:=cap) (fv:=fv) R hV h1 h2 hsz)
 obtain⟨sz,hszq⟩:∃q,q=d0.size:=⟨_,rfl⟩
 rw[←hszq]at hb hsz HSW ⊢
 have HS:=zO hS
 clear hS hszq R
 go_enter Tryz.func277,Tryz.ntmps277
 go_wp2_with fail
 go_loopw [10,11] (fun s t wr=>∃i j:Nat,1≤i∧1≤j∧a+i≤m∧m+j≤b∧s=.int .i64 (i:Int)∧t=.int .i64 (j:Int)∧Hid (SP enc w0 blk off d0 wr)) (fun s t _=>(intOf s).toNat+(intOf t).toNat)
 case atStart=>exact⟨m-a,b-m,by omega,by omega,by omega,by omega,by congr 1;omega,by congr 1;omega,HS⟩
 case round =>
  obtain⟨i,j,hi,hj,hia,hjb,rfl,rfl,HP⟩:=hrel
  obtain⟨W,rfl⟩:∃W:World,W=wr:=⟨_,rfl⟩
  clear HS
  by_cases hne:i=j
  ·subst hne
   have hb1:((i:Int) != (i:Int))=false:=by simp
   have e1:(m:Int)-(i:Int)=((m-i:Nat):Int):=by omega
   have E1:=zO e1
   clear e1
   go_wp2_with fail
   rw[E1.out]
   refine(HSW.out _ HP.out (m-i) m i (by omega) (by omega)).mono ?_
   rintro e w1 ⟨rfl,hq⟩
   have HQ:=zO hq
   clear hq
   go_wp2_with fail
   go_end0
   exact⟨rfl,HQ.out⟩
  ·have hb1:((i:Int) != (j:Int))=true:=by rw[bne_iff_ne];omega
   have e1:(m:Int)-(i:Int)=((m-i:Nat):Int):=by omega
   have e2:(m:Int)+(j:Int)-(i:Int)=((m+j-i:Nat):Int):=by omega
   have E1:=zO e1;have E2:=zO e2
   clear e1 e2
   by_cases hij:j<i
   ·have hd:(j:Int)<(i:Int):=by omega
    go_wp2_with fail
    rw[E1.out]
    refine(HSW.out _ HP.out (m-i) m j (by omega) (by omega)).mono ?_
    rintro e w1 ⟨rfl,hq⟩
    have HQ:=zO hq
    clear hq
    go_wp2_with fail
    go_roundw
    case rel=>exact⟨i-j,j,by omega,by omega,by omega,by omega,by congr 1;omega,rfl,HQ⟩
    case measure=>simp[intOf];omega
   ·have hd:¬(j:Int)<(i:Int):=by omega
    go_wp2_with fail
    rw[E1.out,E2.out]
    refine(HSW.out _ HP.out (m-i) (m+j-i) i (by omega) (by omega)).mono ?_
    rintro e w1 ⟨rfl,hq⟩
    have HQ:=zO hq
    clear hq
    go_wp2_with fail
    go_roundw
    case rel=>exact⟨i,j-i,by omega,by omega,by omega,by omega,rfl,by congr 1;omega,HQ⟩
    case measure=>simp[intOf];omega
end
end Go.Proofs.YtplldnnnhgnbjaaGreatDoor
