/- packed -/
import Derived.Test.YtplldnnnhgnbjaaGreatDoorMr20
import Derived.Test.YtplldnnnhgnbjaaGreatDoorMr21
import Derived.Test.YtplldnnnhgnbjaaGreatDoorMr31
import Derived.Test.YtplldnnnhgnbjaaGreatDoorMr17
namespace Go.Proofs.YtplldnnnhgnbjaaGreatDoor
open Go.RowKit Go.Maps
def NamesOf (M:Dm) (l:List ByteArray):Prop:=l.Nodup∧∀ s,s ∈ l ↔ (M s).isSome=true
theorem findS_schL {M:Dm} {l:List ByteArray} (h:∀ s,s ∈ l ↔ (M s).isSome=true) (s:ByteArray):findS (schL M l) s=(M s).map (fun x=>⟨s,x.kinds⟩):=by
 have hk:∀ l:List ByteArray,findS (schL M l) s=if s ∈ l then some ⟨s,kdsOf M s⟩ else none:=by
  intro l
  induction l with
  | nil=>rfl
  | cons a l ih =>
   unfold findS schL at ih ⊢
   rw [List.map_cons,List.find?_cons]
   by_cases e:a=s
   ·subst e
    simp
   ·have:decide (a=s)=false:=decide_eq_false e
    simp only [this]
    rw [ih]
    have h2:s ∈ a :: l ↔ s ∈ l:=by
     rw [List.mem_cons]
     exact ⟨fun h=>h.elim (fun h=>absurd h.symm e) id,.inr⟩
    simp only [h2]
 rw [hk]
 unfold kdsOf
 rcases hm:M s with _ | x
 ·rw [if_neg]
  ·rfl
  ·rw [h s,hm]
   simp
 ·rw [if_pos ((h s).2 (by rw [hm];rfl))]
  rfl
theorem checkE_congr {ss ss':List Sc} (h:∀ s,findS ss s=findS ss' s) (q:Qy):checkE ss q=checkE ss' q:=by
 have h1:kindA ss=kindA ss':=by
  funext m a
  unfold kindA
  rw [h]
 have h2:∀ r,inferX ss r=inferX ss' r:=fun r=>by unfold inferX;rw [h1]
 have h3:∀ r,kmOf ss r=kmOf ss' r:=fun r=>by unfold kmOf;rw [h2]
 unfold checkE
 simp only [h2,h3]
theorem check_names {M:Dm} {l l':List ByteArray} (h:NamesOf M l) (h':NamesOf M l') (q:Qy):checkE (schL M l) q=checkE (schL M l') q:=checkE_congr (fun s=>by rw [findS_schL h.2,findS_schL h'.2]) q
def TyM (M:Dm) (κ : ByteArray→Int) (a:At):Prop:=∃ x,M a.rel=some x∧a.terms.length=x.kinds.length∧∀ p ∈ a.terms.zip x.kinds,TyT κ p
theorem tyA_M {M:Dm} {l:List ByteArray} (h:NamesOf M l) {κ : ByteArray→Int} {a:At}:TyA (schL M l) κ a ↔ TyM M κ a:=by
 unfold TyA TyM
 rw [findS_schL h.2]
 rcases M a.rel with _ | x
 ·simp
 ·simp
def TyRM (M:Dm) (κ : ByteArray→Int) (r:Rl):Prop:=(∀ a ∈ r.ats,TyM M κ a)∧(∀ c ∈ r.cds,c.kind = κ c.var)∧∀ a ∈ r.ats,a.neg=true→∃ b ∈ r.ats,b.neg=false∧covB a b=true
def ChkM (M:Dm) (q:Qy):Prop:=AstOk q∧∃ K:ByteArray→Int,∀ r ∈ q.rs,∃ κ,TyRM M κ r∧(∀ v ∈ q.hd,κ v=K v)∧(q.ag=2→κ q.av=1)
theorem check_M {M:Dm} {l:List ByteArray} (h:NamesOf M l) {q:Qy}:checkE (schL M l) q=0 ↔ ChkM M q:=by
 rw [check_iff]
 unfold ChkOk ChkM TyR TyRM
 simp only [tyA_M h]
theorem cond_parts {c:Cd} (h:condE c=0):nameB c.var=true∧(0≤c.op∧c.op≤5)∧valB c.kind c.int c.str=true:=by
 unfold condE at h
 by_cases h1:nameB c.var=true
 ·rw [if_pos h1] at h
  by_cases h2 : 0≤c.op∧c.op≤5
  ·rw [if_pos h2] at h
   by_cases h3:valB c.kind c.int c.str=true
   ·exact ⟨h1,h2,h3⟩
   ·rw [if_neg h3] at h
    cases h
  ·rw [if_neg h2] at h
   cases h
 ·rw [if_neg h1] at h
  cases h
theorem bound_pos {r:Rl} {v:ByteArray} (h:boundB r v=true):posV r v=true:=by
 unfold boundB at h
 rw [Bool.and_eq_true] at h
 exact h.2
theorem mem_varsC {r:Rl} {v:ByteArray}:v ∈ varsC r ↔ v ≠ ⟨#[]⟩∧((∃ a ∈ r.ats,∃ t ∈ a.terms,t.var=v) ∨ ∃ c ∈ r.cds,c.var=v):=by
 rw [varsC_eq,varsT_iff]
 constructor
 ·rintro ⟨t,ht,e,h0⟩
  refine ⟨h0,?_⟩
  rcases List.mem_append.1 ht with ht | ht
  ·obtain ⟨a,ha,ht⟩:=allT_iff.1 ht
   exact .inl ⟨a,ha,t,ht,e⟩
  ·obtain ⟨c,hc,rfl⟩:=List.mem_map.1 ht
   exact .inr ⟨c,hc,e⟩
 ·rintro ⟨h0,⟨a,ha,t,ht,e⟩ | ⟨c,hc,e⟩⟩
  ·exact ⟨t,List.mem_append_left _ (allT_iff.2 ⟨a,ha,ht⟩),e,h0⟩
  ·exact ⟨cdT c,List.mem_append_right _ (List.mem_map.2 ⟨c,hc,rfl⟩),e,h0⟩
theorem varsC_nodup (r:Rl):(varsC r).Nodup:=by rw [varsC_eq];exact varsT_nodup _
theorem pos_occ {r:Rl} {v:ByteArray} (h:boundB r v=true):v ∈ varsC r:=by
 obtain ⟨a,ha,t,ht,e,h0⟩:=bound_occ h
 exact mem_varsC.2 ⟨h0,.inl ⟨a,ha,t,ht,e⟩⟩
theorem chk_valid {M:Dm} {q:Qy} (h:ChkM M q) {r:Rl} (hr:r ∈ q.rs):validE M r=0∧RuleOk (needV q.hd q.av) r∧∀ s ∈ q.hd,s ∈ varsC r:=by
 obtain ⟨hA,K,hK⟩:=h
 obtain ⟨κ,h1,-,-⟩:=hK r hr
 have hr:=hA.rs r hr
 refine ⟨?_,hr,fun s hs=>pos_occ (hr.bd s (.inl (by unfold needV;split;exact hs;exact List.mem_append_left _ hs)))⟩
 have ha:firstE (atomV M) r.ats=0:=firstE_zero.2 (fun a ha=>by
  obtain ⟨x,k1,k2,-⟩:=h1.1 a ha
  unfold atomV
  rw [k1]
  exact if_pos k2)
 unfold validE
 rw [if_pos ha,if_pos (List.all_eq_true.2 (fun v hv=>bound_pos (hr.bd v (.inr hv))))]
 refine firstE_zero.2 (fun c hc=>?_)
 obtain ⟨-,h2,h3⟩:=cond_parts (hr.cd c hc)
 unfold condV
 rw [if_neg (by omega),if_pos h3]
def Qy.withRs (q:Qy) (rs:List Rl):Qy:={ q with rs:=rs }
theorem chk_rules {M:Dm} {q:Qy} (h:ChkM M q) {rs:List Rl} (h0:rs ≠ []) (hl:rs.length≤q.rs.length) (hr:∀ r ∈ rs,∃ r0 ∈ q.rs,(RuleOk (needV q.hd q.av) r0→RuleOk (needV q.hd q.av) r)∧∀ κ,TyRM M κ r0→TyRM M κ r):ChkM M (q.withRs rs):=by
 obtain ⟨hA,K,hK⟩:=h
 refine ⟨⟨h0,⟨Nat.le_trans hl hA.l3.1,hA.l3.2.imp (fun h=>Nat.le_trans hl h) id⟩,hA.hd,hA.ag,fun r hr'=>?_,hA.od⟩,K,fun r hr'=>?_⟩
 ·obtain ⟨r0,k1,k2,-⟩:=hr r hr'
  exact k2 (hA.rs r0 k1)
 ·obtain ⟨r0,k1,-,k3⟩:=hr r hr'
  obtain ⟨κ,j1,j2,j3⟩:=hK r0 k1
  exact ⟨κ,k3 κ j1,j2,j3⟩
def noCds (r:Rl):Rl:=⟨r.ats,[]⟩
def onlyPos (r:Rl):Rl:=⟨posL r,[]⟩
def revR (r:Rl):Rl:=⟨r.ats.reverse,r.cds.reverse⟩
theorem bound_iff {r:Rl} {v:ByteArray}:boundB r v=true ↔ v ≠ ⟨#[]⟩∧∃ a ∈ r.ats,a.neg=false∧∃ t ∈ a.terms,t.var=v:=by
 unfold boundB posT
 rw [Bool.and_eq_true,decide_eq_true_eq,List.any_eq_true]
 constructor
 ·rintro ⟨h0,t,ht,e⟩
  obtain ⟨a,ha,ht⟩:=List.mem_flatMap.1 ht
  refine ⟨h0,a,ha,?_⟩
  rcases hn:a.neg with _ | _
  ·rw [hn] at ht
   exact ⟨rfl,t,ht,of_decide_eq_true e⟩
  ·rw [hn] at ht
   simp at ht
 ·rintro ⟨h0,a,ha,hn,t,ht,e⟩
  exact ⟨h0,t,List.mem_flatMap.2 ⟨a,ha,by rw [hn];exact ht⟩,decide_eq_true e⟩
theorem len_sub:∀ {l m:List ByteArray},l.Nodup→(∀ x ∈ l,x ∈ m)→l.length≤m.length
 | [],_,_,_=>Nat.zero_le _
 | a :: l,m,hl,h=>by
  have h1:=List.nodup_cons.1 hl
  have ha:=h a (by simp)
  have h2:=len_sub (l:=l) (m:=m.filter (fun x=>decide (x ≠ a))) h1.2 (fun x hx=>List.mem_filter.2 ⟨h x (List.mem_cons_of_mem _ hx),decide_eq_true (fun e=>h1.1 (by rw [← e];exact hx))⟩)
  have h3:(m.filter (fun x=>decide (x ≠ a))).length < m.length:=List.length_filter_lt_length_iff_exists.2 ⟨a,ha,by simp⟩
  rw [List.length_cons]
  omega
theorem noCds_ok {nd:List ByteArray} {r:Rl} (h:RuleOk nd r):RuleOk nd (noCds r):=by
 have hv:∀ v,v ∈ varsC (noCds r)→v ∈ varsC r:=fun v hv=>by
  obtain ⟨h0,h1 | ⟨c,hc,-⟩⟩:=mem_varsC.1 hv
  ·exact mem_varsC.2 ⟨h0,.inl h1⟩
  ·simp [noCds] at hc
 exact ⟨h.ne,h.la,Nat.zero_le _,h.at',(fun c hc=>by simp [noCds] at hc),Nat.le_trans (len_sub (varsC_nodup _) hv) h.vs,fun v hv'=>h.bd v (hv'.imp_right (hv v))⟩
theorem noCds_ty {M:Dm} {κ : ByteArray→Int} {r:Rl} (h:TyRM M κ r):TyRM M κ (noCds r):=⟨h.1,(fun c hc=>by simp [noCds] at hc),h.2.2⟩
theorem onlyPos_ok {nd:List ByteArray} {M:Dm} {κ : ByteArray→Int} {r:Rl} (ht:TyRM M κ r) (h:RuleOk nd r):RuleOk nd (onlyPos r):=by
 have hb:∀ v,boundB (onlyPos r) v=true ↔ boundB r v=true:=fun v=>by
  rw [bound_iff,bound_iff]
  constructor
  ·rintro ⟨h0,a,ha,hn,h1⟩
   exact ⟨h0,a,(posL_mem ha).1,hn,h1⟩
  ·rintro ⟨h0,a,ha,hn,h1⟩
   exact ⟨h0,a,List.mem_filter.2 ⟨ha,by rw [hn];rfl⟩,hn,h1⟩
 have hv:∀ v,v ∈ varsC (onlyPos r)→v ∈ varsC r:=fun v hv=>by
  obtain ⟨h0,⟨a,ha,h1⟩ | ⟨c,hc,-⟩⟩:=mem_varsC.1 hv
  ·exact mem_varsC.2 ⟨h0,.inl ⟨a,(posL_mem ha).1,h1⟩⟩
  ·simp [onlyPos] at hc
 refine ⟨fun e=>?_,Nat.le_trans (List.length_filter_le _ _) h.la,Nat.zero_le _,fun a ha=>h.at' a (posL_mem ha).1,(fun c hc=>by simp [onlyPos] at hc),Nat.le_trans (len_sub (varsC_nodup _) hv) h.vs,fun v hv'=>(hb v).2 (h.bd v (hv'.imp_right (hv v)))⟩
 have e:posL r = []:=e
 obtain ⟨a,ha⟩:∃ a,a ∈ r.ats:=List.exists_mem_of_ne_nil _ h.ne
 obtain ⟨b,hb,hn⟩:∃ b ∈ r.ats,b.neg=false:=by
  rcases hn:a.neg with _ | _
  ·exact ⟨a,ha,hn⟩
  ·obtain ⟨b,hb,h1,-⟩:=ht.2.2 a ha hn
   exact ⟨b,hb,h1⟩
 have:b ∈ posL r:=List.mem_filter.2 ⟨hb,by rw [hn];rfl⟩
 rw [e] at this
 simp at this
theorem onlyPos_ty {M:Dm} {κ : ByteArray→Int} {r:Rl} (h:TyRM M κ r):TyRM M κ (onlyPos r):=⟨fun a ha=>h.1 a (posL_mem ha).1,(fun c hc=>by simp [onlyPos] at hc),fun a ha hn=>by
 have:=(posL_mem ha).2
 rw [this] at hn
 cases hn⟩
theorem revR_vars {r:Rl} (v:ByteArray):v ∈ varsC (revR r) ↔ v ∈ varsC r:=by
 rw [mem_varsC,mem_varsC]
 simp [revR]
theorem revR_ok {nd:List ByteArray} {r:Rl} (h:RuleOk nd r):RuleOk nd (revR r):=by
 refine ⟨fun e=>h.ne (by simpa [revR] using e),by simpa [revR] using h.la,by simpa [revR] using h.lc,fun a ha=>h.at' a (by simpa [revR] using ha),fun c hc=>h.cd c (by simpa [revR] using hc),Nat.le_trans (len_sub (varsC_nodup _) (fun v hv=>(revR_vars v).1 hv)) h.vs,fun v hv=>?_⟩
 have h1:=h.bd v (hv.imp_right (revR_vars v).1)
 rw [bound_iff] at h1 ⊢
 simpa [revR] using h1
theorem revR_ty {M:Dm} {κ : ByteArray→Int} {r:Rl} (h:TyRM M κ r):TyRM M κ (revR r) :=
 ⟨fun a ha=>h.1 a (by simpa [revR] using ha),fun c hc=>h.2.1 c (by simpa [revR] using hc),fun a ha hn=>by
  obtain ⟨b,hb,h1⟩:=h.2.2 a (by simpa [revR] using ha) hn
  exact ⟨b,by simpa [revR] using hb,h1⟩⟩
section
variable {M:Dm} {r:Rl} {σ : ByteArray→Vl}
theorem satF_noCds (h:satF M r σ):satF M (noCds r) σ:=⟨h.1,(fun c hc=>by simp [noCds] at hc)⟩
theorem satF_onlyPos (h:satF M r σ):satF M (onlyPos r) σ:=⟨fun a ha=>h.1 a (posL_mem ha).1,(fun c hc=>by simp [onlyPos] at hc)⟩
theorem satF_revR:satF M (revR r) σ ↔ satF M r σ:=by
 unfold satF revR
 simp
end
theorem ans_rules {M:Dm} {q:Qy} {rs:List Rl} (h:∀ r ∈ q.rs,∃ r' ∈ rs,∀ σ,satF M r σ→satF M r' σ) {x:List Vl} (hx:ansP M q x):ansP M (q.withRs rs) x:=by
 obtain ⟨r,hr,σ,hs,rfl⟩:=hx
 obtain ⟨r',k1,k2⟩:=h r hr
 exact ⟨r',k1,σ,k2 σ hs,rfl⟩
end Go.Proofs.YtplldnnnhgnbjaaGreatDoor
namespace Go.Proofs.YtplldnnnhgnbjaaGreatDoor
open Go.RowKit Go.Maps
set_option maxRecDepth 20000 in
theorem insort_none {w:World} {A:Option Addr} {c:Nat} {f:Value} :
  Calls Tryz.prog 188 #[.slice A 0 c,.int .i64 0,.int .i64 0,f] w (fun e w'=>e = .returned (.tuple #[])∧w=w'):=by
 go_enter Tryz.func188,Tryz.ntmps188
 go_wp2_with fail
 go_loopw [8] (fun t wr=>t = .int .i64 1∧w=wr) (fun _ _=>0)
 case atStart=>exact ⟨by trivial,by trivial⟩
 case round =>
  obtain ⟨rfl,rfl⟩:=hrel
  go_wp2_with fail
  exact bodyPost_end (by simp [results,Tryz.results188,go_sem]) rfl ⟨rfl,rfl⟩
set_option maxRecDepth 20000 in
theorem pdq_none {w:World} {A:Option Addr} {c:Nat} {l:Int} {f:Value} :
  Calls Tryz.prog 122 #[.slice A 0 c,.int .i64 0,.int .i64 0,.int .i64 l,f] w (fun e w'=>e = .returned (.tuple #[])∧w=w'):=by
 go_enter Tryz.func122,Tryz.ntmps122
 go_wp2_with fail
 go_loopw [1,2] (fun a b wr=>a = .int .i64 0∧b = .int .i64 0∧w=wr) (fun _ _ _=>0)
 case atStart=>exact ⟨by trivial,by trivial,by trivial⟩
 case round =>
  obtain ⟨rfl,rfl,rfl⟩:=hrel
  go_wp2_with fail
  refine insort_none.mono ?_
  rintro e w' ⟨rfl,rfl⟩
  go_wp2_with fail
  exact bodyPost_ret (v:=.tuple #[]) (by simp [results,Tryz.results122,go_sem]) rfl ⟨rfl,rfl⟩
set_option maxRecDepth 20000 in
theorem sort_none {w:World} {A:Option Addr} {c:Nat} {f:Value} :
  Calls Tryz.prog 53 #[.slice A 0 c,f] w (fun e w'=>e = .returned (.tuple #[])∧w=w'):=by
 go_enter Tryz.func53,Tryz.ntmps53
 go_wp2_with fail
 refine (Tryz.bits_Len 0 w (by decide) (by decide)).mono ?_
 rintro e w' ⟨rfl,rfl⟩
 go_wp2_with fail
 refine pdq_none.mono ?_
 rintro e w' ⟨rfl,rfl⟩
 go_wp2_with fail
 exact bodyPost_end (by simp [results,Tryz.results53,go_sem]) rfl ⟨rfl,rfl⟩
end Go.Proofs.YtplldnnnhgnbjaaGreatDoor
namespace Go.Proofs.YtplldnnnhgnbjaaGreatDoor
open Go.RowKit Go.Maps
def haveR (rows:List (List Vl)) (s:ByteArray):Bool:=rows.any (fun r=>decide (keyS r=s))
def seenR (rows:List (List Vl)):ByteArray→Option Value:=fun s=>if haveR rows s=true then some (.bool true) else none
def addR (rows:List (List Vl)) (a:List Vl):List (List Vl):=if haveR rows (keyS a)=true then rows else rows ++ [a]
theorem haveR_iff {rows:List (List Vl)} {a:List Vl}:haveR rows (keyS a)=true ↔ a ∈ rows:=by
 unfold haveR
 rw [List.any_eq_true]
 constructor
 ·rintro ⟨r,hr,h⟩
  rw [decide_eq_true_eq,keyS_eq] at h
  exact h ▸ hr
 ·intro h
  exact ⟨a,h,by simp⟩
theorem seenR_add {rows:List (List Vl)} {a:List Vl} {s:ByteArray} (hs:s=keyS a) (h:haveR rows s=false):updV (seenR rows) s (some (.bool true))=seenR (rows ++ [a]):=by
 funext t
 unfold updV seenR haveR
 rw [List.any_append]
 by_cases e:t=s
 ·subst e
  rw [if_pos rfl]
  simp [hs]
 ·rw [if_neg e]
  have:decide (keyS a=t)=false:=decide_eq_false (fun h=>e (by rw [← h,hs]))
  simp [this]
def addsR (cols:List Int) (rows0 L:List (List Vl)):List (List Vl):=(L.map (projR cols)).foldl addR rows0
theorem addsR_snoc (cols:List Int) (rows0 L:List (List Vl)) (y:List Vl):addsR cols rows0 (L ++ [y])=addR (addsR cols rows0 L) (projR cols y):=by
 unfold addsR
 rw [List.map_append,List.foldl_append]
 rfl
theorem addR_len (rows:List (List Vl)) (a:List Vl):(addR rows a).length≤rows.length + 1:=by
 unfold addR
 split
 ·omega
 ·rw [List.length_append]
  exact Nat.le_refl _
theorem foldR_len:∀ (l rows:List (List Vl)),(l.foldl addR rows).length≤rows.length + l.length
 | [],_=>Nat.le_refl _
 | a :: l,rows=>by
  have h1:=foldR_len l (addR rows a)
  have h2:=addR_len rows a
  rw [List.foldl_cons,List.length_cons]
  omega
theorem addsR_len (cols:List Int) (rows0 L:List (List Vl)):(addsR cols rows0 L).length≤rows0.length + L.length:=by
 have h:=foldR_len (L.map (projR cols)) rows0
 rwa [List.length_map] at h
theorem OwR.more2 {F F':Nat→Prop} {w wb w9:World} {base n:Nat} {v v9 u:Value} {us:List Value} {rows:List (List Vl)} {x:List Vl} (h:OwR F w base v n us rows) (he:Ext w wb) (hx:Sl rdVl (fun k=>F' k∧v.ownBlock ≠ some k∧k < wb.heap.size) wb u x) (hFF:∀ k,F k→F' k) (hr:w9.ownsRow base 74 1 v9 (n + 1) (us ++ [u])) (hg:wb.grownBy w9 v.ownBlock) (hv:Lands wb v v9):OwR F' w9 base v9 (n + 1) (us ++ [u]) (rows ++ [x]):=by
 have hl:=h.len
 have h9:∀ k,v.ownBlock ≠ some k→k < wb.heap.size→v9.ownBlock ≠ some k:=fun k hk hlt e=>by
  rcases hv with h | h
  ·exact hk (h ▸ e)
  ·rw [h] at e
   injection e with e
   omega
 have hsz:=he.size
 refine ⟨hr,by simp [hl],fun i hi hi'=>?_⟩
 rcases Nat.lt_or_ge i rows.length with hx' | hx'
 ·rw [List.getElem_append_left hx',List.getElem_append_left (by omega)]
  exact ((((h.rd i hx' (by omega)).mono (G:=fun k=>(F k∧v.ownBlock ≠ some k)∧k < w.heap.size) (by decide) (fun k hk hf=>⟨hf,hk⟩)).ext he).fr (grown_fr hg) (fun k hk e=>hk.1.2 e)).mono (by decide) (fun k _ hk=>⟨hFF k hk.1.1,h9 k hk.1.2 (by omega)⟩)
 ·have e:i=rows.length:=by simp at hi;omega
  subst e
  rw [List.getElem_append_right (Nat.le_refl _),List.getElem_append_right (by omega)]
  simp only [hl,Nat.sub_self,List.getElem_cons_zero]
  exact (hx.fr (grown_fr hg) (fun k hk e=>hk.2.1 e)).mono (by decide) (fun k _ hk=>⟨hk.1,h9 k hk.2.1 hk.2.2⟩)
structure AnsB (W:World) (base gh gs gr bm p c:Nat) (H:Option Addr) (G F:Nat→Prop) (cols:List Int) (rows:List (List Vl)) (v:Value) (us:List Value):Prop where
 head:Bk W gh 63 [.slice H p c]
 cols:Ins G W (.slice H p c) cols
 seen:Bk W gs 121 [.map (some bm)]
 map:MapV W bm rows.length (seenR rows)
 box:Bk W gr 38 [v]
 own:OwR F W base v us.length us rows
 fm:¬ F bm
 fr':¬ F gr
 fG:∀ q,G q→q ≠ bm∧q ≠ gr∧v.ownBlock ≠ some q∧q < W.heap.size
theorem AnsB.fr {W W':World} {S G F:Nat→Prop} {base gh gs gr bm p c:Nat} {H:Option Addr} {cols:List Int} {rows:List (List Vl)} {v:Value} {us:List Value} (h:AnsB W base gh gs gr bm p c H G F cols rows v us) (hf:Fr S W W') (h1:¬ S gh) (h2:¬ S gs) (h3:¬ S gr) (h4:¬ S bm) (h5:∀ q,G q→¬ S q) (h6:∀ q,F q→¬ S q) (h7:∀ q,v.ownBlock=some q→¬ S q):AnsB W' base gh gs gr bm p c H G F cols rows v us :=
 ⟨h.head.fr hf h1,h.cols.fr hf h5,h.seen.fr hf h2,h.map.fr hf h4,h.box.fr hf h3,h.own.fr hf h7 h6,h.fm,h.fr',fun q hq=>let ⟨a,b,c,d⟩:=h.fG q hq;⟨a,b,c,Nat.lt_of_lt_of_le d hf.size⟩⟩
theorem AnsB.ext {W W':World} {G F:Nat→Prop} {base gh gs gr bm p c:Nat} {H:Option Addr} {cols:List Int} {rows:List (List Vl)} {v:Value} {us:List Value} (h:AnsB W base gh gs gr bm p c H G F cols rows v us) (he:Ext W W'):AnsB W' base gh gs gr bm p c H G F cols rows v us :=
 h.fr (he.fr (fun _=>False)) (fun h=>h) (fun h=>h) (fun h=>h) (fun h=>h) (fun _ _ h=>h) (fun _ _ h=>h) (fun _ _ h=>h)
def AnsPost (base gh gs gr bm p c:Nat) (H:Option Addr) (G F:Nat→Prop) (cols:List Int) (rows:List (List Vl)) (v:Value) (W:World) (e:Ending) (W':World):Prop :=
 e = .returned (.tuple #[])∧∃ F' v' us',AnsB W' base gh gs gr bm p c H G F' cols rows v' us'∧Fr (fun q=>q=bm ∨ q=gr ∨ v.ownBlock=some q) W W'∧(∀ q,F' q→F q ∨ (W.heap.size≤q∧q < W'.heap.size))∧∀ q,v'.ownBlock=some q→v.ownBlock=some q ∨ (W.heap.size≤q∧q < W'.heap.size)
theorem info_rows:(Tryz.prog.info? 74).map (fun i=>(i.zero,i.size,i.bytes))=some (some (.slice none 0 0),1,24):=by kernel_rfl
set_option maxRecDepth 20000 in
set_option maxHeartbeats 1600000 in
theorem ans_any {W:World} {G F:Nat→Prop} {base gh gs gr bm p c gx n:Nat} {H:Option Addr} {cols:List Int} {rows:List (List Vl)} {v:Value} {us:List Value} {y:List Vl} (h:AnsB W base gh gs gr bm p c H G F cols rows v us) (hbase:base≤W.heap.size) (hl:rows.length≤1048576) (hx:Bk W gx 51 (vcells y)) (hyl:y.length=n) (hok:∀ v ∈ y,VOk v) (hc:∀ x ∈ cols,0≤x∧x < (n:Int)) (hp:p≤1000) (htab:TabE W) :
  Calls Tryz.prog 50 #[.slice (some ⟨gx,0,none⟩) n n,.pointer (some ⟨gh,0,none⟩),.pointer (some ⟨gs,0,none⟩),.pointer (some ⟨gr,0,none⟩)] W (AnsPost base gh gs gr bm p c H G F cols (addR rows (projR cols y)) v W):=by
 have hvok:∀ v ∈ projR cols y,VOk v:=fun u hu=>by
  obtain ⟨x,hx,rfl⟩:=List.mem_map.1 hu
  have h1:=hc x hx
  have h2:x.toNat < y.length:=by omega
  show VOk (y.getD x.toNat zv)
  rw [getD_at h2]
  exact hok _ (List.getElem_mem h2)
 have hpl:(projR cols y).length=p:=by
  obtain ⟨A,c',e,-,-⟩:=h.cols
  injection e with e1 e2 e3
  rw [projR,List.length_map,e2]
 have hksz:(keyS (projR cols y)).size≤maxLen:=by
  rw [keyS_size]
  have h2:=keyR_len hvok
  rw [hpl] at h2
  have h3:p * 1048700≤1000 * 1048700:=Nat.mul_le_mul_right _ hp
  simp only [maxLen]
  omega
 have HPK:=Lib.hid (pick_any (row_bk hx hyl) h.cols hc (by omega))
 obtain ⟨A,c0,rfl⟩:=own_slice h.own.own
 have r1:=h.head.cell (i:=0) (by simp);have r2:=h.seen.cell (i:=0) (by simp);have r3:=h.box.cell (i:=0) (by simp)
 simp only [List.getElem_cons_zero] at r1 r2 r3
 obtain ⟨a,ha⟩:∃ a,a=projR cols y:=⟨_,rfl⟩
 rw [← ha] at hvok hpl hksz HPK ⊢
 obtain ⟨nu,hnu⟩:∃ x,x=us.length:=⟨_,rfl⟩
 have hul:nu=rows.length:=by rw [hnu];exact h.own.len
 rw [← hnu] at r3 ⊢
 have HH:=Lib.hid h;have HTAB:=Lib.hid htab;have HVOK:=Lib.hid hvok;have HPL:=Lib.hid hpl;have HNU:=Lib.hid hnu;have HUL:=Lib.hid hul
 obtain ⟨i0,hi0,hz0,hz1,hz2⟩:=info_parts info_rows
 have HI0:=Lib.hid (And.intro hi0 (And.intro hz0 (And.intro hz1 hz2)))
 have hnb:nu≤1048576:=by omega
 clear hi0 hz0 hz1 hz2 h hx hok hc htab hvok hpl hyl ha hnu hul
 go_enter Tryz.func50,Tryz.ntmps50
 go_wp2_with fail
 refine HPK.out.mono ?_
 rintro e W1 ⟨he1,AP,cp,rfl,hsp⟩
 have hkey:=rowkey_any hsp (by have:=HPL.out;omega) HVOK.out (fun w2 h2=>HTAB.out w2 (he1.trans h2))
 rw [HPL.out] at hkey hsp ⊢
 have HKY:=Lib.hid hkey;have HSP:=Lib.hid hsp;have HE1:=Lib.hid he1
 replace r2:=he1.cell r2;replace r3:=he1.cell r3
 have hz1:=he1.size
 clear hkey hsp he1 r1
 go_wp2_with fail
 refine HKY.out.mono ?_
 rintro e W2 ⟨_,rfl,he2,rfl⟩
 obtain ⟨ks,hks⟩:∃ s,s=keyS a:=⟨_,rfl⟩
 rw [show (⟨(keyR a).toArray⟩:ByteArray)=ks from hks.symm]
 rw [← hks] at hksz
 have HKS:=Lib.hid hks
 replace r2:=he2.cell r2;replace r3:=he2.cell r3
 have HE2:=Lib.hid (HE1.out.trans he2)
 have HH2:=Lib.hid (HH.out.ext HE2.out)
 have HSP2:=Lib.hid ((HSP.out.mono (G:=fun k=>W.heap.size≤k∧k < W1.heap.size) (by decide) (fun k hk h=>⟨h,hk⟩)).ext he2)
 have hz2:=he2.size
 clear he2 hks
 rcases hb:haveR rows ks with _ | _
 ·have HB:=Lib.hid hb
  clear hb
  go_wp2_with (first
   | (at_lookup;refine wpList_lookup_V rfl _ _ 121 4 rfl Tryz.underlying121 (.bool false) (zero_bool _) bm rows.length (seenR rows) rfl HH2.out.map ks rfl hksz (.bool false) (by rw [seenR,HB.out];rfl) ?_)
   | (at_mapUpdate;refine wpList_update_V rfl _ _ _ 121 4 rfl Tryz.underlying121 bm rows.length (seenR rows) rfl HH2.out.map (by simp only [maxLen];omega) ks (.bool true) rfl hksz rfl ?_;intro W3 hm3 hg3;have HM3:=Lib.hid hm3;have HG3:=Lib.hid hg3;have hb3:Bk W3 gr 38 [.slice A nu c0]:=(by have h9:=HH2.out.box;rw [← HNU.out] at h9;exact h9.fr (grown_fr hg3) (fun e=>by injection e with e;exact HH2.out.map.ne HH2.out.box e.symm));have ho3:=HH2.out.own.fr (grown_fr hg3) (fun k hk e=>by injection e with e;exact HH2.out.map.ne_own HH2.out.own.own hk e.symm) (fun k hk e=>by injection e with e;exact HH2.out.fm (e ▸ hk));rw [← HNU.out] at ho3;have HB3:=Lib.hid hb3;have HO3:=Lib.hid ho3;have a0:=hb3.cell (i:=0) (by simp);simp only [List.getElem_cons_zero] at a0;have hz3:=hg3.size;clear hm3 hg3 hb3 ho3 r2 r3)
   | (at_builtin;refine wpList_append_at rfl _ _ 38 rfl base 74 i0 (.slice none 0 0) 1 24 Tryz.underlying38 HI0.out.1 HI0.out.2.1 HI0.out.2.2.1 HI0.out.2.2.2 rfl (by omega) (.slice A nu c0) nu us rfl (HO3.out.own.alloc _) ⟨W3.heap.size,0,none⟩ 1 1 [.slice AP p cp] rfl rfl (laid_news W3 _ _) (by simp [Value.oneCell']) (by simp only [maxLen];omega) (by omega) (by simp;omega) ?_;intro v9 W9 hr9 hg9 hl9;obtain ⟨A9,c9,rfl⟩:=own_slice hr9;have hv9:Bk W9 gr 38 [.slice A nu c0]:=Bk.fr (HB3.out.alloc _) (grown_fr hg9) (fun e=>own_bk HO3.out.own HB3.out (by decide) e rfl);have b0:=hv9.cell (i:=0) (by simp);have f0:=hv9.free 0;simp only [List.getElem_cons_zero] at b0;have HR9:=Lib.hid hr9;have HG9:=Lib.hid hg9;have HL9:=Lib.hid hl9;have HV9:=Lib.hid hv9;clear hr9 hg9 hl9 hv9))
  have hzb:bm < W.heap.size:=HH.out.map.lt
  have hzr:gr < W.heap.size:=HH.out.box.lt
  have hz9:=HG9.out.size
  rw [World.size_alloc] at hz9
  have e1:addR rows a=rows ++ [a]:=by rw [addR,← HKS.out,if_neg (by rw [HB.out];decide)]
  have hset:Fr (fun k=>k=gr) W9 (W9.setCell ⟨gr,0,none⟩ (.slice A9 (nu + 1) c9)):=Fr.setCell (S:=fun k=>k=gr) (Fr.refl _ W9) (p:=⟨gr,0,none⟩) (.inl rfl) _
  have hob:∀ k,(Value.slice A nu c0).ownBlock=some k→k < W.heap.size:=fun k hk=>own_lt (by have h9:=HH.out.own.own;rw [← HNU.out] at h9;exact h9) hk
  have hF2:Fr (fun q=>q=bm ∨ q=gr ∨ (Value.slice A nu c0).ownBlock=some q) W2 (W9.setCell ⟨gr,0,none⟩ (.slice A9 (nu + 1) c9)):=Fr.setCell (Fr.comp (((grown_fr HG3.out).mono (T:=fun q=>q=bm ∨ q=gr ∨ (Value.slice A nu c0).ownBlock=some q) (fun k _ e=>.inl (by injection e with e;exact e.symm))).ext ((Ext.refl W3).alloc _)) (grown_fr HG9.out) (fun k hk=>.inl (.inr (.inr hk)))) (.inl (.inr (.inl rfl))) _
  have hl9:∀ q,(Value.slice A9 (nu + 1) c9).ownBlock=some q→(Value.slice A nu c0).ownBlock=some q ∨ (W2.heap.size≤q∧q < W9.heap.size):=fun q hq=>by
   rcases HL9.out with h | h
   ·exact .inl (h ▸ hq)
   ·have h3:=own_lt HR9.out hq
    rw [h] at hq
    injection hq with hq
    rw [World.size_alloc] at hq
    right
    omega
  have hsz:(W9.setCell ⟨gr,0,none⟩ (.slice A9 (nu + 1) c9)).heap.size=W9.heap.size:=World.size_setCell _ _ _
  have hx3:Sl rdVl (fun k=>(F k ∨ (W.heap.size≤k∧k < W1.heap.size))∧(Value.slice A nu c0).ownBlock ≠ some k∧k < (W3.alloc (.cells #[.slice AP p cp] 74)).heap.size) (W3.alloc (.cells #[.slice AP p cp] 74)) (.slice AP p cp) a :=
   (((HSP2.out.fr (grown_fr HG3.out) (fun k hk e=>by injection e with e;have:=hk.1;omega)).ext ((Ext.refl W3).alloc (.cells #[.slice AP p cp] 74)))).mono (by decide) (fun k h1 hk=>⟨.inr hk,fun e=>by have:=hob k e;have:=hk.1;omega,h1⟩)
  have how9:=OwR.more2 (F':=fun k=>F k ∨ (W.heap.size≤k∧k < W1.heap.size)) HO3.out ((Ext.refl W3).alloc (.cells #[.slice AP p cp] 74)) hx3 (fun k hk=>.inl hk) HR9.out HG9.out HL9.out
  refine bodyPost_end (results_none rfl _ _ _) rfl ⟨rfl,fun k=>F k ∨ (W.heap.size≤k∧k < W1.heap.size),.slice A9 (nu + 1) c9,us ++ [.slice AP p cp],?_,?_,?_,?_⟩
  ·have hnh:∀ {g:Nat} {t:TypeId} {l:List Value},Bk W2 g t l→t ≠ 38→t ≠ 74→¬ (g=bm ∨ g=gr ∨ (Value.slice A nu c0).ownBlock=some g):=fun {g t l} hb h1 h2 e=>by
    rcases e with e | e | e
    ·exact HH2.out.map.ne hb e
    ·subst e
     exact (hb.ne HH2.out.box h1) rfl
    ·exact own_bk (by have h9:=HH2.out.own.own;rw [← HNU.out] at h9;exact h9) hb (fun e=>h2 e.symm) e rfl
   rw [e1]
   refine ⟨HH2.out.head.fr hF2 (hnh HH2.out.head (by decide) (by decide)),HH2.out.cols.fr hF2 (fun q hq e=>?_),HH2.out.seen.fr hF2 (hnh HH2.out.seen (by decide) (by decide)),?_,HV9.out.set 0 _,?_,?_,?_,fun q hq=>?_⟩
   ·have h9:=HH2.out.fG q hq
    rw [← HNU.out] at h9
    exact e.elim h9.1 (fun e=>e.elim h9.2.1 h9.2.2.1)
   ·rw [← seenR_add HKS.out HB.out,List.length_append]
    exact ((HM3.out.ext ((Ext.refl W3).alloc _)).fr (grown_fr HG9.out) (fun e=>HM3.out.ne_own HO3.out.own e rfl)).fr hset (fun e=>HH.out.map.ne HH.out.box e.symm)
   ·have h9:=how9.fr hset (fun k hk e=>by subst e;exact own_bk HR9.out HV9.out (by decide) hk rfl) (fun k hk e=>by
     subst e
     rcases hk with hk | hk
     ·exact HH.out.fr' hk
     ·omega)
    rw [show (us ++ [Value.slice AP p cp]).length=nu + 1 by simp [HNU.out]]
    exact h9
   ·rintro (hk | hk)
    ·exact HH.out.fm hk
    ·omega
   ·rintro (hk | hk)
    ·exact HH.out.fr' hk
    ·omega
   ·have h9:=HH2.out.fG q hq
    rw [← HNU.out] at h9
    refine ⟨h9.1,h9.2.1,fun e=>(hl9 q e).elim h9.2.2.1 (fun h=>by have:=h9.2.2.2;omega),by have:=h9.2.2.2;rw [hsz];omega⟩
  ·exact Fr.comp (HE2.out.fr _) hF2 (fun k hk=>.inl hk)
  ·rintro q (hq | hq)
   ·exact .inl hq
   ·exact .inr ⟨hq.1,by rw [hsz];omega⟩
  ·intro q hq
   exact (hl9 q hq).imp_right (fun h=>⟨by omega,by rw [hsz];exact h.2⟩)
 ·have HB:=Lib.hid hb
  clear hb
  go_wp2_with (first
   | (at_lookup;refine wpList_lookup_V rfl _ _ 121 4 rfl Tryz.underlying121 (.bool false) (zero_bool _) bm rows.length (seenR rows) rfl HH2.out.map ks rfl hksz (.bool true) (by rw [seenR,HB.out];rfl) ?_))
  have e0:addR rows a=rows:=by rw [addR,← HKS.out,if_pos HB.out]
  refine bodyPost_end (results_none rfl _ _ _) rfl ⟨rfl,F,_,us,?_,HE2.out.fr _,fun q hq=>.inl hq,fun q hq=>.inl hq⟩
  rw [e0]
  have h9:=HH2.out
  rwa [← HNU.out] at h9
def AnsSt (base gh gs gr bm p c:Nat) (H:Option Addr) (G:Nat→Prop) (cols:List Int) (rows0 L:List (List Vl)) (O:Nat→Prop) (W:World):Prop :=
 ∃ F v us,AnsB W base gh gs gr bm p c H G F cols (addsR cols rows0 L) v us∧(∀ q,O q→q < W.heap.size)∧O gh∧O gs∧O gr∧O bm∧(∀ q,G q→O q)∧(∀ q,F q→O q)∧∀ q,v.ownBlock=some q→O q
theorem ans_vis {base gh gs gr bm p c gx n h1 N:Nat} {wT:World} {H:Option Addr} {G:Nat→Prop} {cols:List Int} {rows0:List (List Vl)} (hbase:base≤wT.heap.size) (hN:rows0.length + N≤1048576) (hc:∀ x ∈ cols,0≤x∧x < (n:Int)) (hp:p≤1000) (htab:TabE wT) :
  VisOk N 50 #[.pointer (some ⟨gh,0,none⟩),.pointer (some ⟨gs,0,none⟩),.pointer (some ⟨gr,0,none⟩)] gx n wT h1 (AnsSt base gh gs gr bm p c H G cols rows0) where
 lt:=fun ⟨_,_,_,_,h,_⟩=>h
 keep:=fun ⟨F,v,us,hB,h1,h2,h3,h4,h5,h6,h7,h8⟩ hf ht=>⟨F,v,us,hB.fr hf (fun h=>ht _ h h2) (fun h=>ht _ h h3) (fun h=>ht _ h h4) (fun h=>ht _ h h5) (fun q hq h=>ht _ h (h6 q hq)) (fun q hq h=>ht _ h (h7 q hq)) (fun q hq h=>ht _ h (h8 q hq)),fun q hq=>Nat.lt_of_lt_of_le (h1 q hq) hf.size,h2,h3,h4,h5,h6,h7,h8⟩
 visit:=by
  rintro L O W y ⟨F,v,us,hB,h1,h2,h3,h4,h5,h6,h7,h8⟩ hlN he hh hx hl hok hox
  have hlen:=addsR_len cols rows0 L
  refine (ans_any hB (Nat.le_trans hbase he.size) (by omega) hx hl hok hc hp (fun w2 k2=>htab w2 (he.trans k2))).mono ?_
  rintro e W' ⟨rfl,F',v',us',hB',hf,hF,hv⟩
  have hz:=hf.size
  refine ⟨rfl,fun q=>O q ∨ (W.heap.size≤q∧q < W'.heap.size),⟨F',v',us',?_,?_,.inl h2,.inl h3,.inl h4,.inl h5,fun q hq=>.inl (h6 q hq),fun q hq=>?_,fun q hq=>?_⟩,hf.mono (fun q _ hq=>?_),fun q hq=>hq.imp_right (fun h=>h.1)⟩
  ·rw [addsR_snoc]
   exact hB'
  ·rintro q (hq | hq)
   ·have:=h1 q hq;omega
   ·exact hq.2
  ·exact (hF q hq).imp_left (h7 q)
  ·exact (hv q hq).imp_left (h8 q)
  ·rcases hq with rfl | rfl | hq
   ·exact h5
   ·exact h4
   ·exact h8 q hq
end Go.Proofs.YtplldnnnhgnbjaaGreatDoor
