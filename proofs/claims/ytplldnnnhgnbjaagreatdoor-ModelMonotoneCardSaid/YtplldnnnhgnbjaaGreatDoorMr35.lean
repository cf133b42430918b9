/- packed -/
import Derived.Test.YtplldnnnhgnbjaaGreatDoorMr31
import Derived.Test.YtplldnnnhgnbjaaGreatDoorMr34
import Derived.Test.YtplldnnnhgnbjaaGreatDoorMr33
import Derived.Sort.WalkA
import Derived.Sort.WalkB2
import Derived.Sort.WalkB12
import Derived.Deep.LoopGhost
import Derived.Sort.Lot0
import Derived.Shelf.SlGeneric
import Derived.Shelf.SlSortCmp.Insertion1
import Derived.Ground.SlsfProg
import Derived.Test.YtplldnnnhgnbjaaGreatDoorProg
namespace Go.Proofs.YtplldnnnhgnbjaaGreatDoor
open Go.RowKit Go.Maps
theorem candL_len {s:Stp} {f:List Vl→List (List Vl) × List Vl} {m:Nat} (hf:∀ y,(f y).1.length≤m):∀ (l:List (List Vl)) (acc:List (List Vl) × List Vl),(candL s f l acc).1.length≤acc.1.length + l.length * m
 | [],acc=>by simp [candL]
 | c :: l,acc=>by
  rw [candL]
  split
  ·refine Nat.le_trans (candL_len hf l _) ?_
   rw [List.length_cons,Nat.succ_mul]
   show acc.1.length + _≤_
   omega
  ·refine Nat.le_trans (candL_len hf l _) ?_
   rw [List.length_cons,Nat.succ_mul]
   show (acc.1 ++ (f _).1).length + _≤_
   rw [List.length_append]
   have:=hf (setF acc.2 c (s.fresh.zip s.frm))
   omega
def prodS (l:List Stp):Nat:=l.foldr (fun s k=>max s.rows.length 1 * k) 1
theorem visS_len:∀ (l:List Stp) (y:List Vl),(visS l y).1.length≤prodS l
 | [],_=>Nat.le_refl _
 | s :: l,y=>by
  rw [visS]
  refine Nat.le_trans (candL_len (visS_len l) _ _) ?_
  have h1:(candsP s y).length≤max s.rows.length 1:=Nat.le_trans (List.length_filter_le _ _) (Nat.le_max_left _ _)
  have h2:=Nat.mul_le_mul_right (prodS l) h1
  show 0 + (candsP s y).length * prodS l≤max s.rows.length 1 * prodS l
  omega
def prodA (M:Dm) (l:List At):Nat:=l.foldr (fun a k=>max (rowsD M a.rel).length 1 * k) 1
theorem steps_prod {vars:List ByteArray} {M:Dm} {cds:List Cd} {bad:Nat→List Vl→Bool}:∀ (l:List At) (B:List Nat) (k:Nat),prodS (stepsL vars M cds bad l B k)≤prodA M l
 | [],_,_=>Nat.le_refl _
 | a :: l,B,k=>by
  have ih:=steps_prod (vars:=vars) (M:=M) (cds:=cds) (bad:=bad) l (B ++ (nsOf vars B a.terms).fresh) (k + 1)
  show max (stpOf vars M cds B a (bad (k + 1))).rows.length 1 * _≤max (rowsD M a.rel).length 1 * prodA M l
  refine Nat.mul_le_mul ?_ ih
  have h1:(stpOf vars M cds B a (bad (k + 1))).rows.length≤(rowsD M a.rel).length:=List.length_filter_le _ _
  omega
theorem sat_count {M:Dm} {vars:List ByteArray} {r:Rl} (hs:SafeR vars r) (hr:∀ a ∈ r.ats,∀ x ∈ rowsD M a.rel,x.length=a.terms.length) (hn:∀ a ∈ r.ats,(rowsD M a.rel).Nodup) {L:List (List Vl)} (hL:L.Nodup) (hm:∀ z,z ∈ L ↔ z.length=vars.length∧satM M vars r z):L.length≤prodA M (posL r):=by
 rcases hf:firstB M vars r (zRow vars.length) with _ | _
 ·have h:=plan_all hs hr hn (y:=zRow vars.length) (by simp [zRow]) hf
  have hp:L.Perm (visS (planL M vars r) (zRow vars.length)).1:=(List.perm_ext_iff_of_nodup hL h.1).2 (fun z=>(hm z).trans (h.2 z).symm)
  rw [hp.length_eq]
  exact Nat.le_trans (visS_len _ _) (steps_prod _ _ _)
 ·have h0:L = []:=List.eq_nil_iff_forall_not_mem.2 (fun z hz=>first_none hs hf z ((hm z).1 hz).2)
  rw [h0]
  exact Nat.zero_le _
end Go.Proofs.YtplldnnnhgnbjaaGreatDoor
namespace Go.Proofs.YtplldnnnhgnbjaaGreatDoor
open Go.RowKit Go.Maps
def AnsT (base gs gr bm:Nat) (rows:List (List Vl)) (O:Nat→Prop) (W:World):Prop :=
 ∃ F v us,Bk W gs 121 [.map (some bm)]∧MapV W bm rows.length (seenR rows)∧Bk W gr 38 [v]∧OwR F W base v us.length us rows∧¬ F bm∧¬ F gr∧(∀ q,O q→q < W.heap.size)∧O gs∧O gr∧O bm∧(∀ q,F q→O q)∧∀ q,v.ownBlock=some q→O q
theorem AnsT.keep {base gs gr bm:Nat} {rows:List (List Vl)} {O T:Nat→Prop} {W W':World} (h:AnsT base gs gr bm rows O W) (hf:Fr T W W') (ht:∀ q,T q→¬ O q):AnsT base gs gr bm rows O W':=by
 obtain ⟨F,v,us,h1,h2,h3,h4,h5,h6,h7,h8,h9,h10,h11,h12⟩:=h
 exact ⟨F,v,us,h1.fr hf (fun e=>ht _ e h8),h2.fr hf (fun e=>ht _ e h10),h3.fr hf (fun e=>ht _ e h9),h4.fr hf (fun k hk e=>ht _ e (h12 k hk)) (fun k hk e=>ht _ e (h11 k hk)),h5,h6,fun q hq=>Nat.lt_of_lt_of_le (h7 q hq) hf.size,h8,h9,h10,h11,h12⟩
theorem AnsT.ext {base gs gr bm:Nat} {rows:List (List Vl)} {O:Nat→Prop} {W W':World} (h:AnsT base gs gr bm rows O W) (he:Ext W W'):AnsT base gs gr bm rows O W':=h.keep (he.fr (fun _=>False)) (fun _ h=>h.elim)
theorem AnsT.st {base gs gr bm gh p c B:Nat} {H:Option Addr} {cols:List Int} {rows:List (List Vl)} {O:Nat→Prop} {W W1:World} (h1:∀ q,O q→q < W1.heap.size) (h:AnsT base gs gr bm rows O W) (hb:Bk W gh 63 [.slice H p c]) (hc:W.ownsRow B 3 1 (.slice H p c) p (cols.map I64)) (hB:W1.heap.size≤B) (hx:W1.heap.size≤W.heap.size) :
  AnsSt base gh gs gr bm p c H (fun q=>(Value.slice H p c).ownBlock=some q∧B≤q) cols rows [] (fun q=>O q ∨ q=gh ∨ (Value.slice H p c).ownBlock=some q) W:=by
 obtain ⟨F,v,us,k1,k2,k3,k4,k5,k6,k7,k8,k9,k10,k11,k12⟩:=h
 refine ⟨F,v,us,⟨hb,Ins.of_own hc,k1,k2,k3,k4,k5,k6,fun q hq=>?_⟩,?_,.inr (.inl rfl),.inl k8,.inl k9,.inl k10,fun q hq=>.inr (.inr hq.1),fun q hq=>.inl (k11 q hq),fun q hq=>.inl (k12 q hq)⟩
 ·have hlt:=own_lt hc hq.1
  refine ⟨fun e=>?_,fun e=>?_,fun e=>?_,hlt⟩
  ·have:=h1 _ k10;have:=hq.2;omega
  ·have:=h1 _ k9;have:=hq.2;omega
  ·have:=h1 _ (k12 q e);have:=hq.2;omega
 ·rintro q (hq | hq | hq)
  ·exact k7 q hq
  ·rw [hq];exact hb.lt
  ·exact own_lt hc hq
theorem AnsT.of {base gh gs gr bm p c:Nat} {H:Option Addr} {G O:Nat→Prop} {cols:List Int} {rows L:List (List Vl)} {W:World} (h:AnsSt base gh gs gr bm p c H G cols rows L O W):AnsT base gs gr bm (addsR cols rows L) O W:=by
 obtain ⟨F,v,us,hB,h1,h2,h3,h4,h5,h6,h7,h8⟩:=h
 exact ⟨F,v,us,hB.seen,hB.map,hB.box,hB.own,hB.fm,hB.fr',h1,h3,h4,h5,h7,h8⟩
structure RowsI (M:Dm) (q:Qy) (i:Nat) (rows:List (List Vl)):Prop where
 nd:rows.Nodup
 ln:rows.length≤i * 1500
 mem:∀ x,x ∈ rows ↔ ∃ r ∈ q.rs.take i,∃ y:List Vl,y.length=(varsC r).length∧satM M (varsC r) r y∧x=projR (colsI (varsC r) q.hd) y
theorem RowsI.more {M:Dm} {q:Qy} {i:Nat} {rows L:List (List Vl)} (h:RowsI M q i rows) (hi:i < q.rs.length) (hl:L.length≤1500) (hm:∀ z,z ∈ L ↔ z.length=(varsC q.rs[i]).length∧satM M (varsC q.rs[i]) q.rs[i] z):RowsI M q (i + 1) (addsR (colsI (varsC q.rs[i]) q.hd) rows L):=by
 refine ⟨addsR_nodup h.nd,?_,fun x=>?_⟩
 ·have h1:=addsR_len (colsI (varsC q.rs[i]) q.hd) rows L
  have h2:=h.ln
  rw [Nat.succ_mul]
  omega
 ·rw [addsR_mem,h.mem,List.take_succ_eq_append_getElem hi]
  constructor
  ·rintro (⟨r,hr,k⟩ | ⟨z,hz,e⟩)
   ·exact ⟨r,List.mem_append_left _ hr,k⟩
   ·exact ⟨q.rs[i],List.mem_append_right _ (List.mem_singleton.2 rfl),z,((hm z).1 hz).1,((hm z).1 hz).2,e⟩
  ·rintro ⟨r,hr,y,k1,k2,k3⟩
   rcases List.mem_append.1 hr with hr | hr
   ·exact .inl ⟨r,hr,y,k1,k2,k3⟩
   ·rw [List.mem_singleton] at hr
    subst hr
    exact .inr ⟨y,(hm y).2 ⟨k1,k2⟩,k3⟩
def AnswersPost (M:Dm) (q:Qy) (ev:Int) (w:World) (e:Ending) (w':World):Prop :=
 Ext w w'∧((ev ≠ 0∧e = .returned (.tuple #[.slice none 0 0,.int .i64 ev])) ∨ (ev=0∧q.ag ≠ 0∧e = .returned (.tuple #[.slice none 0 0,.int .i64 1])) ∨ (ev=0∧q.ag=0∧∃ A n c R,e = .returned (.tuple #[.slice A n c,.int .i64 0])∧AnsOk M q R∧Sl rdRow (fun k=>w.heap.size≤k) w' (.slice A n c) R))
theorem ans_ok {M:Dm} {q:Qy} (hc:ChkM M q) {rows R:List (List Vl)} (h:RowsI M q q.rs.length rows) (ha:AscQ (keysQ q.hd q.od) R) (hp:R.Perm rows):AnsOk M q R:=by
 have hv:=fun r (hr:r ∈ q.rs)=>chk_valid hc hr
 have hmem:∀ x,x ∈ R ↔ ansP M q x:=fun x=>by
  rw [hp.mem_iff,h.mem,List.take_length]
  unfold ansP
  constructor
  ·rintro ⟨r,hr,y,k1,k2,k3⟩
   obtain ⟨σ,j1,j2⟩:=(head_rows (safe_of (hv r hr).1) (hv r hr).2.2 x).1 ⟨y,k1,k2,k3⟩
   exact ⟨r,hr,σ,j1,j2⟩
  ·rintro ⟨r,hr,σ,j1,j2⟩
   obtain ⟨y,k1,k2,k3⟩:=(head_rows (safe_of (hv r hr).1) (hv r hr).2.2 x).2 ⟨σ,j1,j2⟩
   exact ⟨r,hr,y,k1,k2,k3⟩
 refine ⟨hmem,asc_strict (headE_nodup hc.1.hd) hc.1.od ha (hp.nodup_iff.2 h.nd) (fun x hx=>?_)⟩
 obtain ⟨r,-,σ,-,rfl⟩:=(hmem x).1 hx
 rw [List.length_map]
theorem rows_len {M:Dm} {q:Qy} {i:Nat} {rows:List (List Vl)} (h:RowsI M q i rows):∀ x ∈ rows,x.length=q.hd.length:=fun x hx=>by
 obtain ⟨r,-,y,-,-,rfl⟩:=(h.mem x).1 hx
 unfold projR colsI
 rw [List.length_map,List.length_map]
theorem cols_in {r:Rl} {hd:List ByteArray} (h:∀ s ∈ hd,s ∈ varsC r):∀ x ∈ colsI (varsC r) hd,0≤x∧x < ((varsC r).length:Int):=fun x hx=>by
 unfold colsI at hx
 obtain ⟨s,hs,rfl⟩:=List.mem_map.1 hx
 rw [idxI_pos' (varsC_nodup r) (h s hs)]
 have:=pos_lt (h s hs)
 omega
theorem sat_1500 {M:Dm} {r:Rl} (hd:DbOk M) (hv:validE M r=0) (hh:prodA M (posL r)≤1500) {L:List (List Vl)} (hL:L.Nodup) (hm:∀ z,z ∈ L ↔ z.length=(varsC r).length∧satM M (varsC r) r z):L.length≤1500 :=
 Nat.le_trans (sat_count (safe_of hv) (fun a ha x hx=>((atom_rows hd hv ha).2.1 x hx).1) (fun a ha=>so_nodup (atom_rows hd hv ha).2.2.2) hL hm) hh
theorem rule_small {nd:List ByteArray} {r:Rl} (h:RuleOk nd r):r.ats.length≤90∧(∀ a ∈ r.ats,a.terms.length≤1000)∧r.cds.length≤1000∧(varsC r).length≤8 :=
 ⟨Nat.le_trans h.la (by omega),fun a ha=>Nat.le_trans (atom_ok (h.at' a ha)).2.1 (by omega),Nat.le_trans h.lc (by omega),h.vs⟩
def AnsEach (M:Dm) (q:Qy) (r:Rl) (gs gr bm gq gd:Nat) (rows:List (List Vl)) (w W2:World) (e:Ending) (W3:World):Prop :=
 e = .returned (.int .i64 0)∧∃ L O,AnsT w.heap.size gs gr bm (addsR (colsI (varsC r) q.hd) rows L) O W3∧Ext w W3∧(¬ O gq∧¬ O gd∧∀ q,O q→w.heap.size≤q)∧(∀ t xs,Bk W2 gq t xs→Bk W3 gq t xs)∧(∀ t xs,Bk W2 gd t xs→Bk W3 gd t xs)∧L.length≤1500∧∀ z,z ∈ L ↔ z.length=(varsC r).length∧satM M (varsC r) r z
set_option maxRecDepth 20000 in
theorem ans_each {F G H OB:Nat→Prop} {w W1 W2:World} {sv vc t12 t36 t39:Value} {r:Rl} {q:Qy} {b nb gs gr bm gq gd:Nat} {M:Dm} {rows:List (List Vl)}
  (hA:Ats F w sv r.ats) (hCd:Sl rdCd G w vc r.cds) (hD:DbB H w b nb M) (hz:RlZ r) (hd:DbOk M) (hc:ChkM M q) (hr:r ∈ q.rs) (hh:prodA M (posL r)≤1500) (htab:TabE w) (hX:Ext w W1) (hT:AnsT w.heap.size gs gr bm rows OB W1) (hOB:¬ OB gq∧¬ OB gd∧∀ q,OB q→w.heap.size≤q) (hrl:rows.length≤100000) (hg:gq < W1.heap.size∧gd < W1.heap.size) (hC:ColI W1 r q.hd true true true true t12 t36 t39 W2) :
  Calls Tryz.prog 49 #[.agg #[sv,vc],.agg #[.map (some b)],.func (.func 50) #[] #[t12,.pointer (some ⟨gs,0,none⟩),.pointer (some ⟨gr,0,none⟩)]] W2 (AnsEach M q r gs gr bm gq gd rows w W2):=by
 obtain ⟨hv,hro,hhv⟩:=chk_valid hc hr
 obtain ⟨k1,k2,k3,k4⟩:=rule_small hro
 obtain ⟨gh,rfl,hgh,hbx⟩:=hC.h5 rfl
 obtain ⟨B,hB,hown⟩:=hC.h4 rfl
 obtain ⟨Hc,c,rfl⟩:=own_slice hown
 rw [if_pos rfl] at hbx
 have hx12:=hC.ext
 have hs12:=hx12.size
 have hX2:=hX.trans hx12
 have hsw:=hX.size
 have hst:=AnsT.st (W1:=W1) (fun q hq=>by obtain ⟨F,v,us,h1,h2,h3,h4,h5,h6,h7,-⟩:=hT;exact h7 q hq) (hT.ext hx12) hbx hown hB hs12
 have hlow:∀ k,(OB k ∨ k=gh ∨ (Value.slice Hc q.hd.length c).ownBlock=some k)→w.heap.size≤k:=fun k hk=>by
  rcases hk with h | h | h
  ·exact hOB.2.2 k h
  ·omega
  ·have:=own_ge hown h;omega
 have hnq:∀ g,g < W1.heap.size→¬ OB g→¬ (OB g ∨ g=gh ∨ (Value.slice Hc q.hd.length c).ownBlock=some g):=fun g h1 h2 hk=>by
  rcases hk with h | h | h
  ·exact h2 h
  ·omega
  ·have:=own_ge hown h;omega
 have hlt:∀ k,(OB k ∨ k=gh ∨ (Value.slice Hc q.hd.length c).ownBlock=some k)→k < W2.heap.size:=fun k hk=>by
  obtain ⟨F,v,us,-,h1,-⟩:=hst
  exact h1 k hk
 refine (each_any (N:=1500) (wT:=w) (hA.ext hX2) (hCd.ext hX2) ((hD.mono (G:=fun k=>H k∧k < w.heap.size) (fun k h1 h2=>⟨h2,h1⟩)).ext hX2) hz k1 k2 k3 hd htab hX2 (fun _ _=>rfl) (fun gx h1 _ _=>ans_vis (Nat.le_refl _) (by omega) (cols_in hhv) (by have:=head_len hc.1.hd;omega) htab) (fun _ L' hL hm=>by rw [List.length_nil,Nat.zero_add];exact sat_1500 hd hv hh hL hm) hst hlt hlow (fun k hk _ hO=>by have:=hlow k hO;have:=hk.2;omega)).mono ?_
 rintro e W3 ⟨he,L,O',hS,hfr,hO',hL⟩
 rw [hv] at he
 rcases hL with ⟨h0,-⟩ | ⟨-,hnd,hm⟩
 ·exact absurd hv h0
 rw [List.nil_append] at hS
 have hlow':∀ k,O' k→w.heap.size≤k:=fun k hk=>(hO' k hk).elim (hlow k) (fun h=>by have:=hX2.size;omega)
 have hnq':∀ g,g < W1.heap.size→¬ OB g→¬ O' g:=fun g h1 h2 hk=>(hO' g hk).elim (hnq g h1 h2) (fun h=>by omega)
 exact ⟨he,L,O',AnsT.of hS,hfr.new hX2 hlow,⟨hnq' gq hg.1 hOB.1,hnq' gd hg.2 hOB.2.1,hlow'⟩,fun t xs hb=>hb.fr hfr (hnq gq hg.1 hOB.1),fun t xs hb=>hb.fr hfr (hnq gd hg.2 hOB.2.1),sat_1500 hd hv hh hnd hm,hm⟩
theorem sort_ans {F:Nat→Prop} {W0 V W:World} {base:Nat} {v vf:Value} {us:List Value} {rows:List (List Vl)} {hd:List ByteArray} {od:List Ky} (hO:OwR F W0 base v us.length us rows) (hV:Ext W0 V) (hp:CmpPost hd od V (.returned vf) W) (hr:∀ x ∈ rows,x.length=hd.length) (hn:us.length≤1048576) (h1:hd.Nodup) (h2:orderE hd od=0) (h3:(orderL hd od).length≤1000000) :
  Calls Tryz.prog 53 #[v,vf] W (fun e w'=>e = .returned (.tuple #[])∧∃ us' R,AscQ (keysQ hd od) R∧R.Perm rows∧OwR F w' base v us.length us' R∧W.grownBy w' v.ownBlock∧Ext W0 W):=by
 obtain ⟨hE,gC,gK,C,D,c3,c4,e,k1,k2,k3,k4,k5,k6⟩:=hp
 injection e with e
 subst e
 have hE0:=hV.trans hE
 have hO2:=hO.ext hE0
 have hs:=hV.size
 rcases hO.own.2 with ⟨e,hnu⟩ | ⟨g,cap,cur,e,-⟩
 ·subst e
  have hl:=hO.len
  have hru:rows = []:=List.eq_nil_of_length_eq_zero (by omega)
  rw [hnu]
  refine sort_none.mono ?_
  rintro e w' ⟨rfl,rfl⟩
  subst hru
  exact ⟨rfl,us,[],List.Pairwise.nil,List.Perm.nil,by rw [hnu] at hO2;exact hO2,grown_refl _ _,hE0⟩
 ·subst e
  have hg:g < W0.heap.size:=own_lt hO.own rfl
  refine (sort_cmpq hO2 hr hn k5 k6 k3 k4 (colsQ_in h1 h2) h3 (by omega) (by omega) (fun k hk=>by omega) (fun k hk=>by omega)).mono ?_
  rintro e w' ⟨rfl,hgr,us',R,j1,j2,j3⟩
  exact ⟨rfl,us',R,j1,j2,j3,hgr,hE0⟩
set_option maxRecDepth 100000 in
set_option maxHeartbeats 12800000 in
theorem answers_any {F H:Nat→Prop} {w:World} {A B O_:Option Addr} {ca cb co b nb:Nat} {q:Qy} {M:Dm} {l0:List ByteArray} (h:QyR F w A ca B cb O_ co q) (hD:DbB H w b nb M) (hz:QyZ q) (hlo:q.od.length≤100000) (hd:DbOk M) (hnb:nb≤1000000) (hl0:NamesOf M l0) (hh:∀ r ∈ q.rs,prodA M (posL r)≤1500) (htab:TabE w) :
  Calls Tryz.prog 14 #[.agg #[.slice A q.hd.length ca,.int .i64 q.ag,.string q.av,.slice B q.rs.length cb,.slice O_ q.od.length co],.agg #[.map (some b)]] w (AnswersPost M q (checkE (schL M l0) q) w):=by
 have k2:=two_blk w 28 33 [.slice A q.hd.length ca,.int .i64 q.ag,.string q.av,.slice B q.rs.length cb,.slice O_ q.od.length co] [.map (some b)]
 have hx:=((Ext.refl w).alloc (.cells #[.slice A q.hd.length ca,.int .i64 q.ag,.string q.av,.slice B q.rs.length cb,.slice O_ q.od.length co] 28)).alloc (.cells #[.map (some b)] 33)
 have HSC:=fun (V:World) (hV:Ext w V)=>schemas_any (hD.ext hV) hnb hd.key
 have HCK:=fun (V:World) (S:Option Addr) (n c:Nat) (l:List ByteArray) (G:Nat→Prop) (hV:Ext w V) (h1:NamesOf M l) (h2:l.length≤nb) (hs:Sl rdSc G V (.slice S n c) (schL M l))=>(check_names h1 hl0 q) ▸ check_any (h.ext hV) hs hz (by omega) (by unfold schL;rw [List.length_map];simp only [maxLen];omega)
 have HCHK:Hid (checkE (schL M l0) q=0→ChkM M q):=Lib.hid (fun e=>(check_M hl0).1 e)
 obtain ⟨ev,hev⟩:∃ x,x=checkE (schL M l0) q:=⟨_,rfl⟩
 rw [← hev] at HCHK
 obtain ⟨PP,hPP⟩:∃ P,P=AnswersPost M q (checkE (schL M l0) q) w:=⟨_,rfl⟩
 have HP1:Hid (∀ V,Ext w V→ev ≠ 0→PP (.returned (.tuple #[.slice none 0 0,.int .i64 ev])) V):=Lib.hid (fun V hV h0=>by rw [hPP,← hev];exact ⟨hV,.inl ⟨h0,rfl⟩⟩)
 have HP2:Hid (∀ V,Ext w V→ev=0→q.ag ≠ 0→PP (.returned (.tuple #[.slice none 0 0,.int .i64 1])) V):=Lib.hid (fun V hV h0 h1=>by rw [hPP,← hev];exact ⟨hV,.inr (.inl ⟨h0,h1,rfl⟩)⟩)
 have HP3:Hid (∀ V (A:Option Addr) (n c:Nat) (R:List (List Vl)),Ext w V→ev=0→q.ag=0→AnsOk M q R→Sl rdRow (fun k=>w.heap.size≤k) V (.slice A n c) R→PP (.returned (.tuple #[.slice A n c,.int .i64 0])) V):=Lib.hid (fun V A n c R hV h0 h1 h2 h3=>by rw [hPP,← hev];exact ⟨hV,.inr (.inr ⟨h0,h1,A,n,c,R,rfl,h2,h3⟩)⟩)
 rw [← hev] at HCK
 rw [← hPP]
 have HH:=Lib.hid h;have HD:=Lib.hid hD;have HZ:=Lib.hid hz;have HDO:=Lib.hid hd;have HHV:=Lib.hid hh;have HTAB:=Lib.hid htab
 have hmm:=@run_makeMap Tryz.prog
 have HCMP:=Lib.hid (fun (V:World) (hV:Ext w V) (hlh:q.hd.length≤100000)=>comparison_any (ca:=ca) (cb:=cb) (co:=co) (nb:=q.rs.length) (ag:=q.ag) (av:=q.av) (B:=B) (h.hd.ext hV) (h.od.ext hV) hz.hd hz.od hlh hlo)
 obtain ⟨nh,hnh⟩:∃ n,n=q.hd.length:=⟨_,rfl⟩
 obtain ⟨nr,hnr⟩:∃ n,n=q.rs.length:=⟨_,rfl⟩
 obtain ⟨no,hno⟩:∃ n,n=q.od.length:=⟨_,rfl⟩
 obtain ⟨ag,hag⟩:∃ n,n=q.ag:=⟨_,rfl⟩
 obtain ⟨av,hav⟩:∃ n,n=q.av:=⟨_,rfl⟩
 rw [← hnh,← hnr,← hno,← hag,← hav] at k2 hx HCK HCMP ⊢
 have HNH:=Lib.hid hnh;have HNR:=Lib.hid hnr;have HAG:=Lib.hid hag;have HEV:=Lib.hid hev
 have HSC1:=Lib.hid (fun (V:World) (hV:Ext _ V)=>HSC V (hx.trans hV))
 have HCK1:=Lib.hid (fun (V:World) (S:Option Addr) (n c:Nat) (l:List ByteArray) (G:Nat→Prop) (hV:Ext _ V)=>HCK V S n c l G (hx.trans hV))
 clear h hD hz hd hh htab hl0 hev hPP hnh hnr hno hag hav HSC HCK
 go_enter Tryz.func14,Tryz.ntmps14
 go_upto_region 1 with fail
 change Bk ((w.alloc (.cells #[.slice A nh ca,.int .i64 ag,.string av,.slice B nr cb,.slice O_ no co] 28)).alloc (.cells #[.map (some b)] 33)) _ _ _∧Bk ((w.alloc (.cells #[.slice A nh ca,.int .i64 ag,.string av,.slice B nr cb,.slice O_ no co] 28)).alloc (.cells #[.map (some b)] 33)) _ _ _ at k2
 generalize ((w.alloc (.cells #[.slice A nh ca,.int .i64 ag,.string av,.slice B nr cb,.slice O_ no co] 28)).alloc (.cells #[.map (some b)] 33))=w1 at *
 obtain ⟨kq,kd⟩:=k2
 obtain ⟨gd,hgd⟩:∃ g,g=w.heap.size + 1:=⟨_,rfl⟩
 obtain ⟨gq,hgq⟩:∃ g,g=w.heap.size:=⟨_,rfl⟩
 rw [← hgd] at kd ⊢
 rw [← hgq] at kq hgd ⊢
 have hg1:w.heap.size≤gq∧gq < w1.heap.size∧gd < w1.heap.size∧w.heap.size≤gd:=⟨by omega,kq.lt,kd.lt,by omega⟩
 have HG1:=Lib.hid hg1
 clear hg1 hgd hgq
 have b0:=kq.cell (i:=0) (by simp);have b1:=kq.cell (i:=1) (by simp);have b2:=kq.cell (i:=2) (by simp);have b3:=kq.cell (i:=3) (by simp);have b4:=kq.cell (i:=4) (by simp);have b5:=kd.cell (i:=0) (by simp)
 simp only [List.getElem_cons_zero,List.getElem_cons_succ] at b0 b1 b2 b3 b4 b5
 have HKQ:=Lib.hid kq;have HKD:=Lib.hid kd;have HX1:=Lib.hid hx
 clear kq kd hx
 refine wp_then ?_
 intro KK hKK
 refine chk_regA b0 b1 b2 b3 b4 b5 HSC1 HCK1 ?_
 intro t6 t14 t17 t18 t19 t20 w2 hx2
 have HX2:=Lib.hid (HX1.out.trans hx2)
 have HKQ2:=Lib.hid (HKQ.out.ext hx2);have HKD2:=Lib.hid (HKD.out.ext hx2)
 have hw2:=hx2.size
 clear hx2 b0 b1 b2 b3 b4 b5 HSC1 HCK1
 rw [hKK]
 clear hKK KK
 by_cases h0:ev=0
 ·have g0:(ev != 0)=false:=by rw [h0];rfl
  have b1:=HKQ2.out.cell (i:=1) (by simp)
  simp only [List.getElem_cons_zero,List.getElem_cons_succ] at b1
  have HC:=Lib.hid (HCHK.out h0)
  have HE0:=Lib.hid h0
  clear h0
  by_cases ha:ag=0
  ·have g1:(ag != 0)=false:=by rw [ha];rfl
   have HA0:=Lib.hid ha
   clear ha
   have hhd:=HC.out.1.hd
   have HHL:Hid (nh≤6):=Lib.hid (by rw [HNH.out];exact head_len hhd)
   have HRL:Hid (nr≤3):=Lib.hid (by rw [HNR.out];exact HC.out.1.l3.1)
   have hnr3:=HRL.out
   clear hhd
   have hm:=MapV.made w2
   have hxm:=(Ext.refl w2).alloc (.map #[] 0)
   have k3:=two_blk (w2.alloc (.map #[] 0)) 121 38 [.map (some w2.heap.size)] [.slice none 0 0]
   simp only [World.size_alloc] at k3
   have hx3:=(hxm.alloc (.cells #[.map (some w2.heap.size)] 121)).alloc (.cells #[.slice none 0 0] 38)
   have hm3:MapV _ w2.heap.size 0 (fun _=>none):=hm.ext (((Ext.refl _).alloc (.cells #[.map (some w2.heap.size)] 121)).alloc (.cells #[.slice none 0 0] 38))
   clear hm hxm
   go_upto_region 8 with fail
   clear b1
   change Bk (((w2.alloc (.map #[] 0)).alloc (.cells #[.map (some w2.heap.size)] 121)).alloc (.cells #[.slice none 0 0] 38)) _ _ _∧Bk (((w2.alloc (.map #[] 0)).alloc (.cells #[.map (some w2.heap.size)] 121)).alloc (.cells #[.slice none 0 0] 38)) _ _ _ at k3
   generalize (((w2.alloc (.map #[] 0)).alloc (.cells #[.map (some w2.heap.size)] 121)).alloc (.cells #[.slice none 0 0] 38))=w3 at *
   obtain ⟨kS,kR⟩:=k3
   obtain ⟨gr,hgr⟩:∃ g,g=w2.heap.size + 1 + 1:=⟨_,rfl⟩
   obtain ⟨gs,hgs⟩:∃ g,g=w2.heap.size + 1:=⟨_,rfl⟩
   obtain ⟨bm,hbm⟩:∃ g,g=w2.heap.size:=⟨_,rfl⟩
   rw [← hgr] at kR ⊢
   rw [← hgs] at kS ⊢
   rw [← hbm] at kS hm3
   have hT0:AnsT w.heap.size gs gr bm [] (fun q=>q=bm ∨ q=gs ∨ q=gr) w3:=by
    have l1:=kS.lt;have l2:=kR.lt;have l3:=hm3.lt
    refine ⟨fun _=>False,.slice none 0 0,[],kS,hm3,kR,OwR.nil _ _ _,fun h=>h,fun h=>h,?_,.inr (.inl rfl),.inr (.inr rfl),.inl rfl,fun _ h=>h.elim,fun q hq=>by cases hq⟩
    rintro q (rfl | rfl | rfl) <;> assumption
   have HT0:=Lib.hid hT0
   have hg2:=HG1.out
   have hx2s:=HX2.out.size
   have HO0:Hid (¬ (gq=bm ∨ gq=gs ∨ gq=gr)∧¬ (gd=bm ∨ gd=gs ∨ gd=gr)∧∀ q,(q=bm ∨ q=gs ∨ q=gr)→w.heap.size≤q):=Lib.hid ⟨by omega,by omega,by rintro q (rfl | rfl | rfl) <;> omega⟩
   have HX3:=Lib.hid (HX2.out.trans hx3)
   have HKQ3:=Lib.hid (HKQ2.out.ext hx3);have HKD3:=Lib.hid (HKD2.out.ext hx3)
   have b3:=HKQ3.out.cell (i:=3) (by simp)
   simp only [List.getElem_cons_zero,List.getElem_cons_succ] at b3
   clear hT0 kS kR hm3 hg2 hx2s hx3 hgr hgs hbm
   go_wp2_with fail
   go_loopw [31] (fun t wr=>∃ (i:Nat) (O:Nat→Prop) (rows:List (List Vl)),i≤nr∧t = .int .i64 (i:Int)∧Hid (AnsT w.heap.size gs gr bm rows O wr)∧Hid (¬ O gq∧¬ O gd∧∀ q,O q→w.heap.size≤q)∧Hid (RowsI M q i rows)∧Hid (Ext w wr)∧Hid (Bk wr gq 28 [.slice A nh ca,.int .i64 ag,.string av,.slice B nr cb,.slice O_ no co])∧Hid (Bk wr gd 33 [.map (some b)])) (fun t _=>nr - (intOf t).toNat)
   case atStart=>exact ⟨0,_,[],Nat.zero_le _,rfl,HT0,HO0,Lib.hid ⟨List.nodup_nil,Nat.zero_le _,fun x=>by simp⟩,HX3,HKQ3,HKD3⟩
   case round =>
    obtain ⟨i,OB,rows,hi,rfl,HT,HO,HRI,HX,HKQ,HKD⟩:=hrel
    obtain ⟨W,rfl⟩:∃ W:World,W=wr:=⟨_,rfl⟩
    clear HT0 HO0 HX3 HKQ3 HKD3 b3
    by_cases hlt:i < nr
    ·have i1:(0:Int)≤(i:Int):=by omega
     have i2:(i:Int) < (nr:Int):=by omega
     have hit:i < q.rs.length:=by have:=HNR.out;omega
     obtain ⟨ad,B1,d1,C1,e1,rfl,-,f0,f1,hA1,hC1⟩:=HH.out.rs.rl hit
     replace f0:=HX.out.cell f0;replace f1:=HX.out.cell f1
     have hrm:q.rs[i] ∈ q.rs:=List.getElem_mem hit
     have hz1:=HZ.out.rs _ hrm
     obtain ⟨hv1,hro,hhv⟩:=chk_valid HC.out hrm
     obtain ⟨m1,m2,m3,m4⟩:=rule_small hro
     obtain ⟨hbd,-⟩:=items_bd (rule_ok (ruleE_iff.2 hro)).1 hz1
     have hgo:=fun L hl hm=>HRI.out.more (L:=L) hit hl hm
     have hrl:rows.length≤100000:=by
      have h1:=HRI.out.ln
      have h2:i * 1500≤3 * 1500:=Nat.mul_le_mul_right _ (by have:=HRL.out;omega)
      omega
     have hpr:=HHV.out _ hrm
     have hxa:=HX.out.alloc (.cells #[.slice B1 q.rs[i].ats.length d1,.slice C1 q.rs[i].cds.length e1] 46)
     have kt:=Bk.new W 46 [.slice B1 q.rs[i].ats.length d1,.slice C1 q.rs[i].cds.length e1]
     have hxW:=(Ext.refl W).alloc (.cells #[.slice B1 q.rs[i].ats.length d1,.slice C1 q.rs[i].cds.length e1] 46)
     have HVA:=Lib.hid (fun (V:World) (hV:Ext _ V)=>vars_any (hA1.ext (hxa.trans hV)) (hC1.ext (hxa.trans hV)) hbd)
     have hcols:=fun (V:World) (B:Nat) (v:Value) (hV:Ext _ V) (hv:V.ownsRow B 9 1 v (varsC q.rs[i]).length ((varsC q.rs[i]).map Sv))=>(show Calls Tryz.prog 47 #[v,.slice A nh ca] V (Ret (fun x w'=>w'.ownsRow V.heap.size 3 1 x q.hd.length ((colsI (varsC q.rs[i]) q.hd).map I64)) V) from by
      obtain ⟨A',c',rfl⟩:=own_slice hv
      rw [HNH.out]
      exact columns_any (Strs.of_own hv) (HH.out.hd.ext (hxa.trans hV)) (by omega) (by have:=HHL.out;have:=HNH.out;omega))
     have heach:=fun (gq gd:Nat) (V:World) (t12 t36 t39:Value) (hOB:¬ OB gq∧¬ OB gd∧∀ q,OB q→w.heap.size≤q) (hg : _) (hC:ColI _ q.rs[i] q.hd true true true true t12 t36 t39 V)=>ans_each (gq:=gq) (gd:=gd) hA1 hC1 HD.out hz1 HDO.out HC.out hrm hpr HTAB.out hxa (HT.out.ext hxW) hOB hrl hg hC
     obtain ⟨r,hr⟩:∃ r,r=q.rs[i]:=⟨_,rfl⟩
     obtain ⟨n1,hn1⟩:∃ n1,n1=r.ats.length:=⟨_,rfl⟩
     obtain ⟨n2,hn2⟩:∃ m1,m1=r.cds.length:=⟨_,rfl⟩
     rw [← hr] at f0 f1 hgo hxa kt hxW HVA hcols heach
     rw [← hn1] at f0 hxa kt hxW HVA hcols heach
     rw [← hn2] at f1 hxa kt hxW HVA hcols heach
     have HGO:=Lib.hid hgo;have HCO:=Lib.hid hcols;have HEA:=Lib.hid heach
     clear hgo hcols heach hrm hz1 hv1 hro hhv m1 m2 m3 m4 hbd hrl hpr hA1 hC1 hr hn1 hn2 hit
     go_upto_region 11 with fail
     change Bk (W.alloc (.cells #[.slice B1 n1 d1,.slice C1 n2 e1] 46)) _ _ _ at kt
     have b0:=(HKQ.out.ext hxW).cell (i:=0) (by simp);have q0:=kt.cell (i:=0) (by simp);have q1:=kt.cell (i:=1) (by simp)
     simp only [List.getElem_cons_zero,List.getElem_cons_succ] at b0 q0 q1
     have hgg:=HG1.out
     have HGW:Hid (gq < (W.alloc (.cells #[.slice B1 n1 d1,.slice C1 n2 e1] 46)).heap.size∧gd < (W.alloc (.cells #[.slice B1 n1 d1,.slice C1 n2 e1] 46)).heap.size):=Lib.hid (by
      have h1:=HKQ.out.lt;have h2:=HKD.out.lt
      rw [World.size_alloc]
      omega)
     have HKQ5:=Lib.hid (HKQ.out.ext hxW);have HKD5:=Lib.hid (HKD.out.ext hxW);have HKT:=Lib.hid kt
     obtain ⟨W1,hW1⟩:∃ V,V=W.alloc (.cells #[.slice B1 n1 d1,.slice C1 n2 e1] 46):=⟨_,rfl⟩
     rw [← hW1] at b0 q0 q1 HVA HCO HEA HGW HKQ5 HKD5 HKT ⊢
     obtain ⟨gt,hgt⟩:∃ g,g=W.heap.size:=⟨_,rfl⟩
     rw [← hgt] at q0 q1 HKT ⊢
     clear hxa kt hxW hgg f0 f1 hW1 hgt
     refine wp_then ?_
     intro KK hKK
     refine col_regA b0 q0 q1 HVA HCO ?_
     intro t12 t36 t39 W2 hC
     have HEACH:=Lib.hid (HEA.out gq gd _ _ _ _ HO.out HGW.out hC)
     have hx12:=hC.ext
     have c0:=(HKT.out.ext hx12).cell (i:=0) (by simp);have c1:=(HKT.out.ext hx12).cell (i:=1) (by simp);have c2:=(HKD5.out.ext hx12).cell (i:=0) (by simp)
     simp only [List.getElem_cons_zero,List.getElem_cons_succ] at c0 c1 c2
     have HKQ6:=Lib.hid (HKQ5.out.ext hx12);have HKD6:=Lib.hid (HKD5.out.ext hx12)
     clear hC hx12 b0 q0 q1
     rw [hKK]
     clear hKK KK
     go_wp2_with fail
     refine HEACH.out.mono ?_
     rintro e W3 ⟨rfl,L,O',k1,k2,k3,k4,k5,k6,k7⟩
     have HT3:=Lib.hid k1;have HX3:=Lib.hid k2;have HO3:=Lib.hid k3;have HKQ7:=Lib.hid (k4 _ _ HKQ6.out);have HKD7:=Lib.hid (k5 _ _ HKD6.out);have HRI3:=Lib.hid (HGO.out L k6 k7)
     clear k1 k2 k3 k4 k5 k6 k7 c0 c1 c2
     go_wp2_with fail
     go_roundw
     case rel=>exact ⟨i + 1,O',_,by omega,by go_num,HT3,HO3,HRI3,HX3,HKQ7,HKD7⟩
     case measure=>simp [intOf];omega
    ·obtain rfl:i=nr:=by omega
     have hdi:¬ (i:Int) < (i:Int):=by omega
     obtain ⟨F1,v,us,j1,j2,j3,j4,j5,j6,j7,j8,j9,j10,j11,j12⟩:=HT.out
     have hRI:=HRI.out
     have hnq:i=q.rs.length:=HNR.out
     have hul:us.length≤1048576:=by
      have h1:=j4.len
      have h2:=hRI.ln
      have h3:i * 1500≤3 * 1500:=Nat.mul_le_mul_right _ hnr3
      omega
     have hol:(orderL q.hd q.od).length≤1000000:=by
      unfold orderL
      rw [List.length_append,List.length_map]
      have h1:=List.length_filter_le (fun v=>!decide (v ∈ q.od.map Ky.var)) q.hd
      have h2:=HHL.out
      have h3:=HNH.out
      omega
     have HSO:=Lib.hid (fun (V X:World) (vf:Value) (hV:Ext W V) (hp:CmpPost q.hd q.od V (.returned vf) X)=>sort_ans j4 hV hp (rows_len hRI) hul (headE_nodup HC.out.1.hd) HC.out.1.od hol)
     have HCM:=Lib.hid (fun (V:World) (hV:Ext W V)=>HCMP.out V (HX.out.trans hV) (by have:=HHL.out;have:=HNH.out;omega))
     have HFIN:Hid (∀ X,(∃ us' R,AscQ (keysQ q.hd q.od) R∧R.Perm rows∧OwR F1 X w.heap.size v us.length us' R∧(∃ Y,Y.grownBy X v.ownBlock∧Ext W Y))→PP (.returned (.tuple #[v,.int .i64 0])) X∧Bk X gr 38 [v]):=Lib.hid (fun X hX=>by
      obtain ⟨us',R,q1,q2,q3,Y,q4,q5⟩:=hX
      have hbx:=(j3.ext q5).fr (grown_fr q4) (fun e=>own_bk j4.own j3 (by decide) e rfl)
      refine ⟨?_,hbx⟩
      have hex:Ext w X:=(HX.out.trans q5).grown q4 (fun k hk=>own_ge j4.own hk)
      have hsl:=q3.sl (G:=fun k=>w.heap.size≤k) (fun k hk=>own_ge q3.own hk) (fun k hk=>HO.out.2.2 k (j11 k hk))
      obtain ⟨A3,c3,e3⟩:=own_slice q3.own
      rw [e3] at hsl ⊢
      rw [hnq] at hRI
      exact HP3.out X A3 _ c3 R hex HE0.out (by rw [← HAG.out];exact HA0.out) (ans_ok HC.out hRI q1 q2) hsl)
     have hsv:∃ A n c,v = .slice A n c:=by
      obtain ⟨A3,c3,e3⟩:=own_slice j4.own
      exact ⟨A3,_,c3,e3⟩
     have hone:v.oneCell'=true:=by
      obtain ⟨A3,c3,e3⟩:=own_slice j4.own
      rw [e3]
      rfl
     have b0:=HKQ.out.cell (i:=0) (by simp);have b1:=HKQ.out.cell (i:=1) (by simp);have b2:=HKQ.out.cell (i:=2) (by simp);have b3:=HKQ.out.cell (i:=3) (by simp);have b4:=HKQ.out.cell (i:=4) (by simp);have b5:=j3.cell (i:=0) (by simp)
     simp only [List.getElem_cons_zero,List.getElem_cons_succ] at b0 b1 b2 b3 b4 b5
     clear j1 j2 j3 j4 j5 j6 j7 j8 j9 j10 j11 j12 hRI hnq hul hol
     go_upto_region 16 with fail
     refine wp_then ?_
     intro KK hKK
     refine srt_regA (P:=fun X=>∃ us' R,AscQ (keysQ q.hd q.od) R∧R.Perm rows∧OwR F1 X w.heap.size v us.length us' R∧(∃ Y,Y.grownBy X v.ownBlock∧Ext W Y)) b0 b1 b2 b3 b4 b5 hone HCM (Lib.hid (fun V X vf hV hp=>(HSO.out V X vf hV hp).mono (by
      rintro e w' ⟨rfl,us',R,q1,q2,q3,q4,q5⟩
      exact ⟨rfl,us',R,q1,q2,q3,X,q4,q5⟩))) ?_
     intro t48 t49 t50 t51 X hX
     obtain ⟨hp,hbx⟩:=HFIN.out X hX
     have HP:=Lib.hid hp
     have c0:=hbx.cell (i:=0) (by simp)
     simp only [List.getElem_cons_zero] at c0
     clear hX hp hbx b0 b1 b2 b3 b4 b5
     rw [hKK]
     clear hKK KK
     obtain ⟨A3,n3,c3,rfl⟩:=hsv
     go_wp2_with fail
     exact HP.out
  ·have g1:(ag != 0)=true:=bne_iff_ne.2 ha
   have HP:=Lib.hid (HP2.out w2 HX2.out HE0.out (by rw [← HAG.out];exact ha))
   clear ha
   go_wp2_with fail
   exact HP.out
 ·have g0:(ev != 0)=true:=bne_iff_ne.2 h0
  have HP:=Lib.hid (HP1.out w2 HX2.out h0)
  clear h0
  go_wp2_with fail
  exact HP.out
end Go.Proofs.YtplldnnnhgnbjaaGreatDoor
namespace Go.Proofs.YtplldnnnhgnbjaaGreatDoor
open Go.RowKit Go.Maps
section
variable {F:Nat→Prop} {w:World} {g:Nat}
def PrV (F:Nat→Prop) (w:World) (g:Nat):Type:={ p:Value × List Vl // Sl rdVl (fun k=>F k∧some g ≠ some k) w p.1 p.2∧p.2.length≤1048576 }
end
section
variable {F:Nat→Prop} {w:World} {g:Nat}
instance:Inhabited (PrV F w g):=⟨⟨(.slice none 0 0,[]),Sl.nil _ _ _,by simp⟩⟩
end
end Go.Proofs.YtplldnnnhgnbjaaGreatDoor
namespace Go.Proofs.YtplldnnnhgnbjaaGreatDoor
open Go.RowKit Go.Maps
theorem vl_beq (a c b d:Int) (s t:ByteArray):((a == c) && ((b == d) && (s == t)))=decide ((⟨a,b,s⟩:Vl)=⟨c,d,t⟩):=by
 rw [beq_toListBytes]
 by_cases h:s=t
 ·rw [str_eq h,Bool.eq_iff_iff]
  simp [h]
 ·rw [str_ne h,Bool.eq_iff_iff]
  simp [h]
set_option maxRecDepth 20000 in
set_option maxHeartbeats 3200000 in
theorem same23 {F G:Nat→Prop} {w:World} {A B:Option Addr} {n c m d:Nat} {xs ys:List Vl} (h:Sl rdVl F w (.slice A n c) xs) (k:Sl rdVl G w (.slice B m d) ys) (hn:n≤1048576) (hm:m≤1048576) :
  Calls Tryz.prog 25 #[.slice A n c,.slice B m d] w (Ret (fun x _=>x = .bool (decide (xs=ys))) w):=by
 have hnx:=h.cap.1
 have hny:=k.cap.1
 by_cases hnm:n=m
 ·subst hnm
  obtain ⟨q,hq⟩:∃ q,q=decide (xs=ys):=⟨_,rfl⟩
  rw [← hq]
  have HQ:=Lib.hid hq
  have HA:=Lib.hid h;have HB:=Lib.hid k;have HN:=Lib.hid hnx;have HM:=Lib.hid hny
  clear h k hnx hny hq
  go_enter Tryz.func25,Tryz.ntmps25
  go_wp2_with fail
  go_loopw [5] (fun t wr=>∃ i:Nat,i≤n∧t = .int .i64 (i:Int)∧Hid (xs.take i=ys.take i)∧Ext w wr) (fun t _=>n - (intOf t).toNat)
  case atStart=>exact ⟨0,Nat.zero_le _,rfl,Lib.hid (by simp),Ext.refl _⟩
  case round =>
   obtain ⟨i,hi,rfl,HE,hx⟩:=hrel
   have HX:=Lib.hid hx
   by_cases hlt:i < n
   ·have i1:(0:Int)≤(i:Int):=by omega
    have i2:(i:Int) < (n:Int):=by omega
    have hil:i < xs.length:=by have:=HN.out;omega
    have hjl:i < ys.length:=by have:=HM.out;omega
    obtain ⟨ad,rfl,-,c0,c1,c2⟩:=HA.out.vl hil
    obtain ⟨bd,rfl,-,d0,d1,d2⟩:=HB.out.vl hjl
    replace c0:=hx.cell c0;replace c1:=hx.cell c1;replace c2:=hx.cell c2;replace d0:=hx.cell d0;replace d1:=hx.cell d1;replace d2:=hx.cell d2
    have htx:xs.take (i + 1)=xs.take i ++ [xs[i]]:=List.take_succ_eq_append_getElem hil
    have hty:ys.take (i + 1)=ys.take i ++ [ys[i]]:=List.take_succ_eq_append_getElem hjl
    have HNE:Hid (xs[i] ≠ ys[i]→xs ≠ ys):=Lib.hid (fun h e=>h (by subst e;rfl))
    obtain ⟨x,hxx⟩:∃ x,x=xs[i]:=⟨_,rfl⟩
    obtain ⟨y,hyy⟩:∃ y,y=ys[i]:=⟨_,rfl⟩
    rw [← hxx] at c0 c1 c2 htx HNE
    rw [← hyy] at d0 d1 d2 hty HNE
    have HTX:=Lib.hid htx;have HTY:=Lib.hid hty
    obtain ⟨kd,it,st⟩:=x
    obtain ⟨kd2,it2,st2⟩:=y
    simp only at c0 c1 c2 d0 d1 d2
    have heq:=fun W=>eq_val W kd kd2 it it2 st st2
    rw [vl_beq] at heq
    obtain ⟨r,hr⟩:∃ r,r=decide ((⟨kd,it,st⟩:Vl)=⟨kd2,it2,st2⟩):=⟨_,rfl⟩
    rw [← hr] at heq
    have hqq:(⟨kd,it,st⟩:Vl)=⟨kd2,it2,st2⟩ ↔ r=true:=by rw [hr];exact decide_eq_true_iff.symm
    clear hxx hyy hx htx hty hr
    rcases r with _ | _
    ·have HV:Hid (q=false):=Lib.hid (by rw [HQ.out];exact decide_eq_false (HNE.out (fun e=>by simpa using hqq.1 e)))
     clear hqq
     go_upto_region 6 with fail
     go_quiet (fail)
     have HXQ:=Lib.hid (HX.out.drewN nq)
     generalize (wr.drewN nq)=w2 at *
     clear heq
     go_wp2_with fail
     go_ret
     exact Ret.mk HXQ.out (by rw [HV.out];rfl)
    ·have HE2:Hid (xs.take (i + 1)=ys.take (i + 1)):=Lib.hid (by rw [HTX.out,HTY.out,HE.out,hqq.2 rfl])
     clear hqq
     go_upto_region 6 with fail
     go_quiet (fail)
     have HXQ:=Lib.hid (HX.out.drewN nq)
     generalize (wr.drewN nq)=w2 at *
     clear heq
     go_wp2_with fail
     go_roundw
     case rel=>exact ⟨i + 1,by omega,by go_num,HE2,HXQ.out⟩
     case measure=>simp [intOf];omega
   ·obtain rfl:i=n:=by omega
    have hdi:¬ (i:Int) < (i:Int):=by omega
    have HV:Hid (q=true):=Lib.hid (by
     rw [HQ.out]
     refine decide_eq_true ?_
     have h:=HE.out
     rwa [List.take_of_length_le (by have:=HN.out;omega),List.take_of_length_le (by have:=HM.out;omega)] at h)
    clear hx
    go_wp2_with fail
    go_ret
    exact Ret.mk HX.out (by rw [HV.out];rfl)
 ·have hb:((n:Int) != (m:Int))=true:=by rw [bne_iff_ne];omega
  have hb2:decide (xs=ys)=false:=decide_eq_false (fun e=>hnm (by rw [hnx,hny,e]))
  rw [hb2]
  clear h k hnx hny hnm
  go_enter Tryz.func25,Tryz.ntmps25
  go_wp2_with fail
  go_ret
  exact Ret.mk (Ext.refl _) rfl
set_option maxRecDepth 20000 in
set_option maxHeartbeats 3200000 in
theorem has23 {F G:Nat→Prop} {w:World} {A B:Option Addr} {n c m d:Nat} {rows:List (List Vl)} {r:List Vl} (h:Sl rdRow F w (.slice A n c) rows) (k:Sl rdVl G w (.slice B m d) r) (hn:n≤1048576) (hm:m≤1048576) (hr:∀ x ∈ rows,x.length≤1048576) :
  Calls Tryz.prog 55 #[.slice A n c,.slice B m d] w (Ret (fun x _=>x = .bool (decide (r ∈ rows))) w):=by
 have hnx:=h.cap.1
 obtain ⟨q,hq⟩:∃ q,q=decide (r ∈ rows):=⟨_,rfl⟩
 rw [← hq]
 have HQ:=Lib.hid hq;have HA:=Lib.hid h;have HB:=Lib.hid k;have HN:=Lib.hid hnx;have HR:=Lib.hid hr
 clear h k hnx hq hr
 go_enter Tryz.func55,Tryz.ntmps55
 go_wp2_with fail
 go_loopw [5] (fun t wr=>∃ i:Nat,i≤n∧t = .int .i64 (i:Int)∧Hid (r ∉ rows.take i)∧Ext w wr) (fun t _=>n - (intOf t).toNat)
 case atStart=>exact ⟨0,Nat.zero_le _,rfl,Lib.hid (by simp),Ext.refl _⟩
 case round =>
  obtain ⟨i,hi,rfl,HE,hx⟩:=hrel
  have HX:=Lib.hid hx
  by_cases hlt:i < n
  ·have i1:(0:Int)≤(i:Int):=by omega
   have i2:(i:Int) < (n:Int):=by omega
   have hil:i < rows.length:=by have:=HN.out;omega
   obtain ⟨ad,D,e,rfl,-,c0,hs⟩:=HA.out.row hil
   replace c0:=hx.cell c0
   have hxl:=HR.out _ (List.getElem_mem hil)
   have htx:rows.take (i + 1)=rows.take i ++ [rows[i]]:=List.take_succ_eq_append_getElem hil
   have HSM:=Lib.hid (fun (V:World) (hV:Ext w V)=>same23 (hs.ext hV) (HB.out.ext hV) hxl hm)
   have HMM:=Lib.hid (List.getElem_mem hil)
   obtain ⟨x,hxx⟩:∃ x,x=rows[i]:=⟨_,rfl⟩
   rw [← hxx] at c0 htx HSM HMM
   obtain ⟨lx,hlx⟩:∃ l,l=x.length:=⟨_,rfl⟩
   rw [← hlx] at c0 HSM
   have HTX:=Lib.hid htx
   rcases hrb:decide (x=r) with _ | _
   ·have HE2:Hid (r ∉ rows.take (i + 1)):=Lib.hid (by
     rw [HTX.out,List.mem_append]
     rintro (h | h)
     ·exact HE.out h
     ·exact of_decide_eq_false hrb (List.mem_singleton.1 h).symm)
    rw [hrb] at HSM
    clear hxx hlx hx htx hs hrb hxl
    go_wp2_with fail
    refine (HSM.out _ HX.out).mono ?_
    rintro e2 w2 ⟨v,rfl,he2,rfl⟩
    have HX2:=Lib.hid (HX.out.trans he2)
    clear he2
    go_wp2_with fail
    go_roundw
    case rel=>exact ⟨i + 1,by omega,by go_num,HE2,HX2.out⟩
    case measure=>simp [intOf];omega
   ·have HV:Hid (q=true):=Lib.hid (by rw [HQ.out];exact decide_eq_true (of_decide_eq_true hrb ▸ HMM.out))
    rw [hrb] at HSM
    clear hxx hlx hx htx hs hrb hxl
    go_wp2_with fail
    refine (HSM.out _ HX.out).mono ?_
    rintro e2 w2 ⟨v,rfl,he2,rfl⟩
    have HX2:=Lib.hid (HX.out.trans he2)
    clear he2
    go_wp2_with fail
    go_ret
    exact Ret.mk HX2.out (by rw [HV.out];rfl)
  ·obtain rfl:i=n:=by omega
   have hdi:¬ (i:Int) < (i:Int):=by omega
   have HV:Hid (q=false):=Lib.hid (by
    rw [HQ.out]
    refine decide_eq_false ?_
    have h:=HE.out
    rwa [List.take_of_length_le (by have:=HN.out;omega)] at h)
   clear hx
   go_wp2_with fail
   go_ret
   exact Ret.mk HX.out (by rw [HV.out];rfl)
set_option maxRecDepth 20000 in
set_option maxHeartbeats 800000 in
theorem index23 {F:Nat→Prop} {w:World} {v:Value} {l:List ByteArray} {s:ByteArray} (h:Strs F w v l) (hl:l.length≤1000000) :
  Calls Tryz.prog 19 #[v,.string s] w (IdxAt l s w):=by
 obtain ⟨A,c,rfl,hc,hat⟩:=h
 obtain ⟨n,hn⟩:∃ n,n=l.length:=⟨_,rfl⟩
 rw [← hn] at hc hl ⊢
 have HN:=Lib.hid hn;have HAT:=Lib.hid hat
 clear hn hat
 go_enter Tryz.func19,Tryz.ntmps19
 go_wp2_with fail
 go_loopw [5] (fun q wr=>∃ i:Nat,i≤n∧q = .int .i64 (i:Int)∧(∀ j (h:j < l.length),j < i→l[j] ≠ s)∧wr=w) (fun q _=>n - (intOf q).toNat)
 case atStart=>exact ⟨0,Nat.zero_le _,rfl,fun _ _ h=>absurd h (by omega),rfl⟩
 case round =>
  obtain ⟨i,hi,rfl,hgo,rfl⟩:=hrel
  have HGO:=Lib.hid hgo
  clear hgo
  by_cases hlt:i < n
  ·have i1:(0:Int)≤(i:Int):=by omega
   have i2:(i:Int) < (n:Int):=by omega
   have hix:i < l.length:=by have:=HN.out;omega
   obtain ⟨ad,rfl,-,c0⟩:=HAT.out.str hix
   by_cases he:l[i]=s
   ·have HR:Hid ((i:Int)=idxI l s):=Lib.hid (idxI_at hix he (fun j h hj=>HGO.out j h hj)).symm
    rw [he] at c0
    clear he
    go_wp2_with fail
    go_ret
    exact ⟨by rw [← HR.out];rfl,rfl⟩
   ·have HE:=Lib.hid he
    have HGO2:Hid (∀ j (h:j < l.length),j < i + 1→l[j] ≠ s):=Lib.hid (fun j h hj=>by
     by_cases e:j=i
     ·subst e
      exact HE.out
     ·exact HGO.out j h (by omega))
    have hs1:=str_ne he
    obtain ⟨x,hx⟩:∃ x,x=l[i]:=⟨_,rfl⟩
    rw [← hx] at c0 hs1
    clear he hx
    go_wp2_with fail
    go_roundw
    case rel=>exact ⟨i + 1,by omega,by go_num,HGO2.out,by trivial⟩
    case measure=>simp [intOf];omega
  ·obtain rfl:i=n:=by omega
   have hdi:¬ (i:Int) < (i:Int):=by omega
   have HR:Hid (idxI l s = -1):=Lib.hid (by
    rw [idxI,if_neg]
    intro hm
    obtain ⟨j,hj,e⟩:=List.getElem_of_mem hm
    exact HGO.out j hj (by have:=HN.out;omega) e)
   go_wp2_with fail
   go_ret
   exact ⟨by rw [HR.out];rfl,rfl⟩
set_option maxRecDepth 20000 in
set_option maxHeartbeats 1600000 in
theorem sameall23 {F G:Nat→Prop} {w:World} {A B:Option Addr} {n c m d:Nat} {xs ys:List (List Vl)} (h:Sl rdRow F w (.slice A n c) xs) (k:Sl rdRow G w (.slice B m d) ys) (hn:n≤1048576) (hm:m≤1048576) (hx:∀ x ∈ xs,x.length≤1048576) (hy:∀ x ∈ ys,x.length≤1048576) :
  Calls Tryz.prog 16 #[.slice A n c,.slice B m d] w (Ret (fun x _=>x = .bool (decide (xs=ys))) w):=by
 have hnx:=h.cap.1
 have hny:=k.cap.1
 by_cases hnm:n=m
 ·subst hnm
  obtain ⟨q,hq⟩:∃ q,q=decide (xs=ys):=⟨_,rfl⟩
  rw [← hq]
  have HQ:=Lib.hid hq
  have HA:=Lib.hid h;have HB:=Lib.hid k;have HN:=Lib.hid hnx;have HM:=Lib.hid hny;have HX:=Lib.hid hx;have HY:=Lib.hid hy
  clear h k hnx hny hq hx hy
  go_enter Tryz.func16,Tryz.ntmps16
  go_wp2_with fail
  go_loopw [5] (fun t wr=>∃ i:Nat,i≤n∧t = .int .i64 (i:Int)∧Hid (xs.take i=ys.take i)∧Hid (Ext w wr)) (fun t _=>n - (intOf t).toNat)
  case atStart=>exact ⟨0,Nat.zero_le _,rfl,Lib.hid (by simp),Lib.hid (Ext.refl _)⟩
  case round =>
   obtain ⟨i,hi,rfl,HE,HX2⟩:=hrel
   obtain ⟨W,rfl⟩:∃ W:World,W=wr:=⟨_,rfl⟩
   by_cases hlt:i < n
   ·have i1:(0:Int)≤(i:Int):=by omega
    have i2:(i:Int) < (n:Int):=by omega
    have hil:i < xs.length:=by have:=HN.out;omega
    have hjl:i < ys.length:=by have:=HM.out;omega
    obtain ⟨ad,B1,e1,rfl,-,c0,hr1⟩:=HA.out.row hil
    obtain ⟨bd,B2,e2,rfl,-,d0,hr2⟩:=HB.out.row hjl
    have HS:=Lib.hid (fun (V:World) (hV:Ext w V)=>same23 (hr1.ext hV) (hr2.ext hV) (HX.out _ (List.getElem_mem hil)) (HY.out _ (List.getElem_mem hjl)))
    have htx:xs.take (i + 1)=xs.take i ++ [xs[i]]:=List.take_succ_eq_append_getElem hil
    have hty:ys.take (i + 1)=ys.take i ++ [ys[i]]:=List.take_succ_eq_append_getElem hjl
    have HNE:Hid (xs[i] ≠ ys[i]→xs ≠ ys):=Lib.hid (fun h e=>h (by subst e;rfl))
    obtain ⟨x,hxx⟩:∃ x,x=xs[i]:=⟨_,rfl⟩
    obtain ⟨y,hyy⟩:∃ y,y=ys[i]:=⟨_,rfl⟩
    rw [← hxx] at c0 htx HNE HS
    rw [← hyy] at d0 hty HNE HS
    have HTX:=Lib.hid htx;have HTY:=Lib.hid hty
    obtain ⟨r,hr⟩:∃ r,r=decide (x=y):=⟨_,rfl⟩
    rw [← hr] at HS
    have HQQ:Hid (x=y ↔ r=true):=Lib.hid (by rw [hr];exact decide_eq_true_iff.symm)
    obtain ⟨n1,hn1⟩:∃ n,n=x.length:=⟨_,rfl⟩
    obtain ⟨n2,hn2⟩:∃ n,n=y.length:=⟨_,rfl⟩
    rw [← hn1,← hn2] at HS
    rw [← hn1] at c0
    rw [← hn2] at d0
    clear hxx hyy htx hty hr hr1 hr2 hn1 hn2
    go_upto_region 6 with fail
    go_region_held3 (fun V=>Ext w V∧V.cell? (ad.add i)=some (.slice B1 n1 e1)∧V.cell? (bd.add i)=some (.slice B2 n2 e2)) ((refine (fun he=>⟨he,Ext.cell he c0,Ext.cell he d0⟩) ?_;refine Ext.trans HX2.out.drew ?_;first | exact Ext.refl _ | assumption)) (first
     | (go_at_call 25;(with_reducible refine (HS.out _ (And.left (by assumption))).mono ?_);rintro e W2 ⟨v,rfl,he2,rfl⟩))
    have HX3:=Lib.hid (HX2.out.drew.trans he2)
    clear he2 c0 d0
    rcases r with _ | _
    ·have HV:Hid (q=false):=Lib.hid (by rw [HQ.out];exact decide_eq_false (HNE.out (fun e=>by simpa using HQQ.out.1 e)))
     go_wp2_with fail
     go_ret
     exact Ret.mk HX3.out (by rw [HV.out];rfl)
    ·have HE2:Hid (xs.take (i + 1)=ys.take (i + 1)):=Lib.hid (by rw [HTX.out,HTY.out,HE.out,HQQ.out.2 rfl])
     go_wp2_with fail
     go_roundw
     case rel=>exact ⟨i + 1,by omega,by go_num,HE2,HX3⟩
     case measure=>simp [intOf];omega
   ·obtain rfl:i=n:=by omega
    have hdi:¬ (i:Int) < (i:Int):=by omega
    have HV:Hid (q=true):=Lib.hid (by
     rw [HQ.out]
     refine decide_eq_true ?_
     have h:=HE.out
     rwa [List.take_of_length_le (by have:=HN.out;omega),List.take_of_length_le (by have:=HM.out;omega)] at h)
    go_wp2_with fail
    go_ret
    exact Ret.mk HX2.out (by rw [HV.out];rfl)
 ·have hb:((n:Int) != (m:Int))=true:=by rw [bne_iff_ne];omega
  have hb2:decide (xs=ys)=false:=decide_eq_false (fun e=>hnm (by rw [hnx,hny,e]))
  rw [hb2]
  clear h k hnx hny hnm hx hy
  go_enter Tryz.func16,Tryz.ntmps16
  go_wp2_with fail
  go_ret
  exact Ret.mk (Ext.refl _) rfl
set_option maxRecDepth 20000 in
set_option maxHeartbeats 1600000 in
theorem subset23 {F G:Nat→Prop} {w:World} {A B:Option Addr} {n c m d:Nat} {xs ys:List (List Vl)} (h:Sl rdRow F w (.slice A n c) xs) (k:Sl rdRow G w (.slice B m d) ys) (hn:n≤1048576) (hm:m≤1048576) (hx:∀ x ∈ xs,x.length≤1048576) (hy:∀ x ∈ ys,x.length≤1048576) :
  Calls Tryz.prog 15 #[.slice A n c,.slice B m d] w (Ret (fun x _=>x = .bool (decide (∀ x ∈ xs,x ∈ ys))) w):=by
 have hnx:=h.cap.1
 obtain ⟨q,hq⟩:∃ q,q=decide (∀ x ∈ xs,x ∈ ys):=⟨_,rfl⟩
 rw [← hq]
 have HQ:=Lib.hid hq
 have HA:=Lib.hid h;have HB:=Lib.hid k;have HN:=Lib.hid hnx;have HX:=Lib.hid hx;have HY:=Lib.hid hy
 clear h k hnx hq hx hy
 go_enter Tryz.func15,Tryz.ntmps15
 go_wp2_with fail
 go_loopw [5] (fun t wr=>∃ i:Nat,i≤n∧t = .int .i64 (i:Int)∧Hid (∀ x ∈ xs.take i,x ∈ ys)∧Hid (Ext w wr)) (fun t _=>n - (intOf t).toNat)
 case atStart=>exact ⟨0,Nat.zero_le _,rfl,Lib.hid (by simp),Lib.hid (Ext.refl _)⟩
 case round =>
  obtain ⟨i,hi,rfl,HE,HX2⟩:=hrel
  obtain ⟨W,rfl⟩:∃ W:World,W=wr:=⟨_,rfl⟩
  by_cases hlt:i < n
  ·have i1:(0:Int)≤(i:Int):=by omega
   have i2:(i:Int) < (n:Int):=by omega
   have hil:i < xs.length:=by have:=HN.out;omega
   obtain ⟨ad,B1,e1,rfl,-,c0,hr1⟩:=HA.out.row hil
   replace c0:=HX2.out.cell c0
   have HS:=Lib.hid (fun (V:World) (hV:Ext w V)=>has23 (HB.out.ext hV) (hr1.ext hV) hm (HX.out _ (List.getElem_mem hil)) HY.out)
   have htx:xs.take (i + 1)=xs.take i ++ [xs[i]]:=List.take_succ_eq_append_getElem hil
   have HME:Hid (xs[i] ∈ xs):=Lib.hid (List.getElem_mem hil)
   obtain ⟨x,hxx⟩:∃ x,x=xs[i]:=⟨_,rfl⟩
   rw [← hxx] at c0 htx HS HME
   have HTX:=Lib.hid htx
   obtain ⟨r,hr⟩:∃ r,r=decide (x ∈ ys):=⟨_,rfl⟩
   rw [← hr] at HS
   have HQQ:Hid (x ∈ ys ↔ r=true):=Lib.hid (by rw [hr];exact decide_eq_true_iff.symm)
   obtain ⟨n1,hn1⟩:∃ n,n=x.length:=⟨_,rfl⟩
   rw [← hn1] at HS c0
   clear hxx htx hr hr1 hn1
   go_wp2_with fail
   refine (HS.out W HX2.out).mono ?_
   rintro e W2 ⟨v,rfl,he,rfl⟩
   have HX3:=Lib.hid (HX2.out.trans he)
   clear he c0
   rcases r with _ | _
   ·have HV:Hid (q=false):=Lib.hid (by rw [HQ.out];exact decide_eq_false (fun h=>by have:=HQQ.out.1 (h _ HME.out);simp at this))
    go_wp2_with fail
    go_ret
    exact Ret.mk HX3.out (by rw [HV.out];rfl)
   ·have HE2:Hid (∀ x ∈ xs.take (i + 1),x ∈ ys):=Lib.hid (by
     rw [HTX.out]
     intro z hz
     rcases List.mem_append.1 hz with hz | hz
     ·exact HE.out z hz
     ·rw [List.mem_singleton] at hz
      rw [hz]
      exact HQQ.out.2 rfl)
    go_wp2_with fail
    go_roundw
    case rel=>exact ⟨i + 1,by omega,by go_num,HE2,HX3⟩
    case measure=>simp [intOf];omega
  ·obtain rfl:i=n:=by omega
   have hdi:¬ (i:Int) < (i:Int):=by omega
   have HV:Hid (q=true):=Lib.hid (by
    rw [HQ.out]
    refine decide_eq_true ?_
    have h:=HE.out
    rwa [List.take_of_length_le (by have:=HN.out;omega)] at h)
   go_wp2_with fail
   go_ret
   exact Ret.mk HX2.out (by rw [HV.out];rfl)
end Go.Proofs.YtplldnnnhgnbjaaGreatDoor
