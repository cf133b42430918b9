/- packed -/
import Derived.Test.YtplldnnnhgnbjaaGreatDoorMr44
import Derived.Test.YtplldnnnhgnbjaaGreatDoorMr45
import Derived.Test.YtplldnnnhgnbjaaGreatDoorCards
import Derived.Test.YtplldnnnhgnbjaaGreatDoorTie
import Derived.Lib.LaidTab
namespace Go.Proofs.YtplldnnnhgnbjaaGreatDoor
open Go.RowKit Go.Maps
structure RwF {α : Type} (r:Rdg α) (F:Nat→Prop) (w:World) (base:Nat) (E:TypeId) (v:Value) (n:Nat) (xs:List α) (css:List (List Value)):Prop where
 len:css.length=xs.length
 own:w.ownsRow base E r.sz v n css.flatten
 rd:∀ i (h:i < xs.length) (h':i < css.length),r.R F w css[i] xs[i]
 old:∀ k,F k→k < base
section
variable {α : Type} {r:Rdg α} {F S:Nat→Prop} {w w' wb w9:World} {base n:Nat} {E:TypeId} {v v9:Value} {xs:List α} {css:List (List Value)} {cs:List Value} {x : α}
theorem RwF.empty (hF:∀ k,F k→k < base):RwF r F w base E (.slice none 0 0) 0 [] []:=⟨rfl,World.ownsRow_nil _ _ _ _,fun i h=>by simp at h,hF⟩
theorem RwF.fr (h:RwF r F w base E v n xs css) (hf:Fr S w w') (hs:∀ k,v.ownBlock=some k→¬ S k) (hF:∀ k,F k→¬ S k):RwF r F w' base E v n xs css:=⟨h.len,own_fr h.own hf hs,fun i hi h'=>r.fr (h.rd i hi h') hf hF,h.old⟩
theorem RwF.more (h:RwF r F w base E v n xs css) (he:Ext w wb) (ht:r.R F wb cs x) (hr:w9.ownsRow base E r.sz v9 (n + 1) (css.flatten ++ cs)) (hg:wb.grownBy w9 v.ownBlock):RwF r F w9 base E v9 (n + 1) (xs ++ [x]) (css ++ [cs]):=by
 have hnF:∀ k,F k→¬ v.ownBlock=some k:=fun k hk e=>by
  have h1:=h.old k hk
  have h2:=own_ge h.own e
  omega
 have hl:=h.len
 refine ⟨by simp [hl],by rw [List.flatten_append,List.flatten_cons,List.flatten_nil,List.append_nil];exact hr,fun i hi hi'=>?_,h.old⟩
 rcases Nat.lt_or_ge i xs.length with hx' | hx'
 ·rw [List.getElem_append_left hx',List.getElem_append_left (by omega)]
  exact r.fr (r.ext (h.rd i hx' (by omega)) he) (grown_fr hg) hnF
 ·have e:i=xs.length:=by simp at hi;omega
  subst e
  rw [List.getElem_append_right (Nat.le_refl _),List.getElem_append_right (by omega)]
  simp only [hl,Nat.sub_self,List.getElem_cons_zero]
  exact r.fr ht (grown_fr hg) hnF
end
def revQ (q:Qy):Qy:=q.withRs ((q.rs.map revR).reverse)
theorem revQ_mem {q:Qy} {r:Rl}:r ∈ (revQ q).rs ↔ ∃ r0 ∈ q.rs,revR r0=r:=by
 show r ∈ (q.rs.map revR).reverse ↔ _
 rw [List.mem_reverse,List.mem_map]
theorem revQ_chk {M:Dm} {q:Qy} (h:ChkM M q):ChkM M (revQ q):=by
 refine chk_rules h (fun e=>h.1.ne ?_) (by simp) (fun r hr=>?_)
 ·simpa using e
 ·obtain ⟨r0,h0,rfl⟩:=revQ_mem.1 hr
  exact ⟨r0,h0,revR_ok,fun _=>revR_ty⟩
theorem revQ_ans {M:Dm} {q:Qy} (x:List Vl):ansP M (revQ q) x ↔ ansP M q x:=by
 constructor
 ·rintro ⟨r,hr,σ,hs,rfl⟩
  obtain ⟨r0,h0,rfl⟩:=revQ_mem.1 hr
  exact ⟨r0,h0,σ,satF_revR.1 hs,rfl⟩
 ·rintro ⟨r,hr,σ,hs,rfl⟩
  exact ⟨revR r,revQ_mem.2 ⟨r,hr,rfl⟩,σ,satF_revR.2 hs,rfl⟩
theorem prodA_rev (M:Dm):∀ l:List At,prodA M l.reverse=prodA M l
 | []=>rfl
 | a :: l=>by
  rw [List.reverse_cons,prodA_app,prodA_rev M l,Nat.mul_comm]
  rfl
theorem revQ_prod {M:Dm} {q:Qy} (h:∀ r ∈ q.rs,prodA M (posL r)≤1500):∀ r ∈ (revQ q).rs,prodA M (posL r)≤1500:=fun r hr=>by
 obtain ⟨r0,h0,rfl⟩:=revQ_mem.1 hr
 have e:posL (revR r0)=(posL r0).reverse:=by
  show r0.ats.reverse.filter (fun a=>!a.neg) = _
  rw [List.filter_reverse]
  rfl
 rw [e,prodA_rev]
 exact h r0 h0
theorem revQ_z {q:Qy} (h:QyZ q):QyZ (revQ q):=⟨h.hd,h.av,fun r hr=>by
 obtain ⟨r0,h0,rfl⟩:=revQ_mem.1 hr
 have hz:=h.rs r0 h0
 exact ⟨fun a ha=>hz.rel a (by simpa [revR] using ha),fun a ha=>hz.tms a (by simpa [revR] using ha),fun c hc=>hz.var c (by simpa [revR] using hc),fun c hc=>hz.str c (by simpa [revR] using hc)⟩,h.od⟩
structure RwG {α : Type} (r:Rdg α) (F:Nat→Prop) (w:World) (base:Nat) (E:TypeId) (v:Value) (n:Nat) (xs:List α) (css:List (List Value)):Prop where
 len:css.length=xs.length
 own:w.ownsRow base E r.sz v n css.flatten
 rd:∀ i (h:i < xs.length) (h':i < css.length),r.R F w css[i] xs[i]
 sep:∀ k,F k→v.ownBlock ≠ some k∧k < w.heap.size
section
variable {α : Type} {r:Rdg α} {F F' S:Nat→Prop} {w w' wb w9:World} {base n:Nat} {E:TypeId} {v v9:Value} {xs:List α} {css:List (List Value)} {cs:List Value} {x : α}
theorem RwG.empty:RwG r (fun _=>False) w base E (.slice none 0 0) 0 [] []:=⟨rfl,World.ownsRow_nil _ _ _ _,fun i h=>by simp at h,fun _ h=>h.elim⟩
theorem RwG.fr (h:RwG r F w base E v n xs css) (hf:Fr S w w') (hs:∀ k,v.ownBlock=some k→¬ S k) (hF:∀ k,F k→¬ S k):RwG r F w' base E v n xs css:=⟨h.len,own_fr h.own hf hs,fun i hi h'=>r.fr (h.rd i hi h') hf hF,fun k hk=>⟨(h.sep k hk).1,Nat.lt_of_lt_of_le (h.sep k hk).2 hf.size⟩⟩
theorem RwG.ext (h:RwG r F w base E v n xs css) (he:Ext w w'):RwG r F w' base E v n xs css:=h.fr (he.fr (fun _=>False)) (fun _ _ h=>h) (fun _ _ h=>h)
theorem own_num {sz:Nat} (hs : 0 < sz) (h:w.ownsRow base E sz v n css.flatten) (hl:∀ cs ∈ css,cs.length=sz):n=css.length:=by
 have h1:=h.1
 rw [flat_len hl] at h1
 exact (Nat.mul_right_cancel hs h1).symm
theorem RwG.sl {G:Nat→Prop} (h:RwG r F w base E v n xs css) (hp : 0 < r.sz) (hG:∀ k,v.ownBlock=some k→G k) (hF:∀ k,F k→G k):Sl r G w v xs:=by
 have hall:∀ cs ∈ css,cs.length=r.sz:=fun cs hcs=>by
  obtain ⟨i,hi,rfl⟩:=List.getElem_of_mem hcs
  exact r.len (h.rd i (by rw [← h.len];exact hi) hi)
 have hn:=own_num hp h.own hall
 obtain ⟨hl,ho,hr,-⟩:=h
 rw [hl] at hn
 subst hn
 rcases ho.2 with ⟨e,h0⟩ | ⟨g,cap,cur,e,k1,k2,k3,k4,k5,k6⟩
 ·subst e
  have hx:xs = []:=List.eq_nil_of_length_eq_zero h0
  subst hx
  exact Sl.nil _ _ _
 ·subst e
  refine ⟨_,_,rfl,k3,fun i hi=>?_⟩
  have hi':i < css.length:=by omega
  have hlen:css[i].length=r.sz:=hall _ (List.getElem_mem hi')
  refine ⟨_,css[i],rfl,hG g rfl,r.mono (hr i hi hi') (fun k _ hk=>hF k hk),fun j hj=>?_⟩
  rw [add_zero']
  have h1:=flat_get hall hi' (j:=j) (by omega)
  rw [List.getElem?_eq_getElem hj,← k6] at h1
  have h9:cur.toList[i * r.sz + j]?=some css[i][j]:=by
   rw [List.getElem?_take] at h1
   split at h1
   ·exact h1
   ·cases h1
  rw [Array.getElem?_toList] at h9
  simp [World.cell?,k2,h9]
theorem RwG.more (h:RwG r F w base E v n xs css) (he:Ext w wb) (ht:r.R F' wb cs x) (hFF:∀ k,F k→F' k) (hF:∀ k,F' k→v.ownBlock ≠ some k∧k < wb.heap.size) (hr:w9.ownsRow base E r.sz v9 (n + 1) (css.flatten ++ cs)) (hg:wb.grownBy w9 v.ownBlock) (hl:Lands wb v v9):RwG r F' w9 base E v9 (n + 1) (xs ++ [x]) (css ++ [cs]):=by
 have hll:=h.len
 refine ⟨by simp [hll],by rw [List.flatten_append,List.flatten_cons,List.flatten_nil,List.append_nil];exact hr,fun i hi hi'=>?_,fun k hk=>⟨fun e=>?_,Nat.lt_of_lt_of_le (hF k hk).2 hg.size⟩⟩
 ·rcases Nat.lt_or_ge i xs.length with hx' | hx'
  ·rw [List.getElem_append_left hx',List.getElem_append_left (by omega)]
   exact r.mono (r.fr (r.ext (h.rd i hx' (by omega)) he) (grown_fr hg) (fun k hk e=>(h.sep k hk).1 e)) (fun k _ hk=>hFF k hk)
  ·have e:i=xs.length:=by simp at hi;omega
   subst e
   rw [List.getElem_append_right (Nat.le_refl _),List.getElem_append_right (by omega)]
   simp only [hll,Nat.sub_self,List.getElem_cons_zero]
   exact r.fr ht (grown_fr hg) (fun k hk e=>(hF k hk).1 e)
 ·rcases hl with h9 | h9
  ·exact (hF k hk).1 (h9 ▸ e)
  ·rw [h9] at e
   injection e with e
   have:=(hF k hk).2
   omega
end
theorem RwF.g {α : Type} {r:Rdg α} {F:Nat→Prop} {w:World} {base n:Nat} {E:TypeId} {v:Value} {xs:List α} {css:List (List Value)} (h:RwF r F w base E v n xs css) (hb:base≤w.heap.size):RwG r F w base E v n xs css:=⟨h.len,h.own,h.rd,fun k hk=>⟨fun e=>by
 have h1:=h.old k hk
 have h2:=own_ge h.own e
 omega,Nat.lt_of_lt_of_le (h.old k hk) hb⟩⟩
end Go.Proofs.YtplldnnnhgnbjaaGreatDoor
namespace Go.Proofs.YtplldnnnhgnbjaaGreatDoor
open Go.RowKit Go.Maps
theorem sat_list {M:Dm} {r:Rl} (hd:DbOk M) (hv:validE M r=0) (hh:prodA M (posL r)≤1500):∃ L:List (List Vl),L.length≤1500∧∀ z,z ∈ L ↔ z.length=(varsC r).length∧satM M (varsC r) r z:=by
 have hs:=safe_of hv
 rcases hf:firstB M (varsC r) r (zRow (varsC r).length) with _ | _
 ·have h:=plan_all hs (fun a ha x hx=>((atom_rows hd hv ha).2.1 x hx).1) (fun a ha=>so_nodup (atom_rows hd hv ha).2.2.2) (y:=zRow (varsC r).length) (by simp [zRow]) hf
  exact ⟨_,sat_1500 hd hv hh h.1 (fun z=>h.2 z),fun z=>h.2 z⟩
 ·exact ⟨[],by simp,fun z=>⟨fun h=>by simp at h,fun h=>absurd h.2 (fun k=>first_none hs hf z k)⟩⟩
theorem rows_ex {M:Dm} {q:Qy} (hd:DbOk M) (hc:ChkM M q) (hh:∀ r ∈ q.rs,prodA M (posL r)≤1500):∀ i,i≤q.rs.length→∃ rows,RowsI M q i rows
 | 0,_=>⟨[],List.nodup_nil,Nat.le_refl _,fun x=>by simp⟩
 | i + 1,hi=>by
  obtain ⟨rows,h⟩:=rows_ex hd hc hh i (by omega)
  have hm:q.rs[i] ∈ q.rs:=List.getElem_mem (by omega)
  obtain ⟨L,h1,h2⟩:=sat_list hd (chk_valid hc hm).1 (hh _ hm)
  exact ⟨_,h.more (by omega) h1 h2⟩
theorem AnsOk.len {M:Dm} {q:Qy} {R:List (List Vl)} (h:AnsOk M q R) (hd:DbOk M) (hc:ChkM M q) (hh:∀ r ∈ q.rs,prodA M (posL r)≤1500):R.length≤q.rs.length * 1500:=by
 obtain ⟨rows,hr⟩:=rows_ex hd hc hh _ (Nat.le_refl _)
 have hv:=fun r (hr:r ∈ q.rs)=>chk_valid hc hr
 have hn:R.Nodup:=h.asc.imp (fun {a b} hab e=>by
  subst e
  have:=(wk_cmpQ (keysQ q.hd q.od)).self a
  omega)
 have hp:R.Perm rows:=(List.perm_ext_iff_of_nodup hn hr.nd).2 (fun x=>by
  rw [h.mem,hr.mem,List.take_length]
  unfold ansP
  constructor
  ·rintro ⟨r,hr,σ,j1,j2⟩
   obtain ⟨y,k1,k2,k3⟩:=(head_rows (safe_of (hv r hr).1) (hv r hr).2.2 x).2 ⟨σ,j1,j2⟩
   exact ⟨r,hr,y,k1,k2,k3⟩
  ·rintro ⟨r,hr,y,k1,k2,k3⟩
   obtain ⟨σ,j1,j2⟩:=(head_rows (safe_of (hv r hr).1) (hv r hr).2.2 x).1 ⟨y,k1,k2,k3⟩
   exact ⟨r,hr,σ,j1,j2⟩)
 rw [hp.length_eq]
 exact hr.ln
theorem AnsOk.wide {M:Dm} {q:Qy} {R:List (List Vl)} (h:AnsOk M q R):∀ x ∈ R,x.length=q.hd.length:=fun x hx=>by
 obtain ⟨r,-,σ,-,rfl⟩:=(h.mem x).1 hx
 rw [List.length_map]
structure LawIn (F G H:Nat→Prop) (w:World) (S U A B O:Option Addr) (ns cs nu cu ca cb co:Nat) (ss:List Sc) (us:List Up) (q:Qy):Prop where
 s:Sl rdSc F w (.slice S ns cs) ss
 u:Sl rdUp G w (.slice U nu cu) us
 qr:QyR H w A ca B cb O co q
 n:∀ r ∈ q.rs,RlN r
 z:QyZ q
 ul:us.length≤9223372036854775807
 ur:∀ u ∈ us,u.row.length≤9223372036854775807
 rl:q.rs.length≤9223372036854775807
 sz:∀ x ∈ ss,x.name.size≤maxLen
 sk:∀ x ∈ ss,x.kinds.length≤maxLen
 uz:∀ u ∈ us,u.rel.size≤maxLen∧∀ v ∈ u.row,v.str.size≤maxLen
 tab:TabE w
section
variable {F G H:Nat→Prop} {w w':World} {S U A B O:Option Addr} {ns cs nu cu ca cb co:Nat} {ss:List Sc} {us:List Up} {q:Qy}
theorem LawIn.ext (h:LawIn F G H w S U A B O ns cs nu cu ca cb co ss us q) (he:Ext w w'):LawIn F G H w' S U A B O ns cs nu cu ca cb co ss us q :=
 { h with s:=h.s.ext he,u:=h.u.ext he,qr:=h.qr.ext he,tab:=fun V hV=>h.tab V (he.trans hV) }
theorem LawIn.great (h:LawIn F G H w S U A B O ns cs nu cu ca cb co ss us q):Calls Tryz.prog 10 #[.slice S ns cs,.slice U nu cu,.agg #[.slice A q.hd.length ca,.int .i64 q.ag,.string q.av,.slice B q.rs.length cb,.slice O q.od.length co]] w (NoP (SmallI ss us q) w) :=
 great_any h.s h.u h.qr h.n h.ul h.ur h.rl
theorem LawIn.database (h:LawIn F G H w S U A B O ns cs nu cu ca cb co ss us q) (k:SmallI ss us q):Calls Tryz.prog 12 #[.slice S ns cs,.slice U nu cu] w (DatabasePost ss us w) :=
 database_any h.s h.u (by rw [h.s.cap.1];exact k.s) (by rw [h.u.cap.1];exact k.u) h.sz h.sk k.v (fun u hu=>⟨(h.uz u hu).1,Nat.le_trans (h.ur u hu) (by simp only [maxLen];omega),(h.uz u hu).2⟩)
theorem LawIn.heavy {l:List ByteArray} {M:Dm} {T:Nat→Prop} {D:Option Addr} {m d:Nat} (h:LawIn F G H w S U A B O ns cs nu cu ca cb co ss us q) (k:SmallI ss us q) (ht:Sl rdTb T w (.slice D m d) (tbsOf M l)) (hn:NamesOf M l) (hl:l.length≤1000000) (hi:DbI (namesL ss) 40 M):Calls Tryz.prog 13 #[.slice D m d,.slice B q.rs.length cb] w (NoP (∀ r ∈ q.rs,prodA M (posL r)≤1500) w) :=
 heavy_any ht h.qr.rs hn hl hi.ln h.rl (fun r hr=>⟨Nat.le_trans (k.l r hr).la (by omega),Nat.le_trans (k.l r hr).ps (by omega),h.z.rs r hr⟩)
theorem LawIn.awake (h:LawIn F G H w S U A B O ns cs nu cu ca cb co ss us q):Calls Tryz.prog 11 #[] w (Ret (fun x _=>x = .bool true) w):=awake_any h.tab
end
end Go.Proofs.YtplldnnnhgnbjaaGreatDoor
namespace Go.Proofs.YtplldnnnhgnbjaaGreatDoor
open Go.RowKit Go.Maps
theorem info_rule:(Tryz.prog.info? 46).map (fun i=>(i.zero,i.size,i.bytes))=some (some (.agg #[.slice none 0 0,.slice none 0 0]),2,48):=by kernel_rfl
structure RvA (N:Nat) (W:World) (gt m:Nat) (xs:List At) (W2:World):Prop where
 ext:Ext W W2
 row:∃ A c css,RwF rdAt (fun k=>k < N) W2 W.heap.size 49 (.slice A m c) m xs css∧Bk W2 gt 46 [.slice A m c,.slice none 0 0]
structure RvC (N:Nat) (W:World) (gt na:Nat) (ys:List At) (m:Nat) (cs:List Cd) (W2:World):Prop where
 ext:Ext W W2
 row:∃ A c css A' c' css' b1,RwF rdAt (fun k=>k < N) W2 W.heap.size 49 (.slice A na c) na ys css∧RwF rdCd (fun k=>k < N) W2 b1 53 (.slice A' m c') m cs css'∧Bk W2 gt 46 [.slice A na c,.slice A' m c']∧b1≤W2.heap.size∧W.heap.size≤b1∧∀ k,(Value.slice A na c).ownBlock=some k→k < b1
section
variable {N gt na m:Nat} {W W2 W3:World} {xs:List At} {cs:List Cd}
theorem RvA.start (h:N≤W.heap.size):RvA N W W.heap.size 0 [] (W.alloc (.cells #[.slice none 0 0,.slice none 0 0] 46)) :=
 ⟨(Ext.refl W).alloc _,none,0,[],RwF.empty (fun k hk=>Nat.lt_of_lt_of_le hk h),Bk.new W _ [.slice none 0 0,.slice none 0 0]⟩
theorem RvA.next {A0 A9:Option Addr} {c0 c9:Nat} {css css':List (List Value)} {xs':List At} (he:Ext W W2) (hg:W.heap.size≤gt) (ho:RwF rdAt (fun k=>k < N) W2 W.heap.size 49 (.slice A0 m c0) m xs css) (hf:Fr (fun k=>(Value.slice A0 m c0).ownBlock=some k ∨ k=gt) W2 W3) (hr:RwF rdAt (fun k=>k < N) W3 W.heap.size 49 (.slice A9 (m + 1) c9) (m + 1) xs' css') (hb:Bk W3 gt 46 [.slice A9 (m + 1) c9,.slice none 0 0]):RvA N W gt (m + 1) xs' W3 :=
 ⟨Fr.new he hf (fun k hk=>hk.elim (fun e=>own_ge ho.own e) (fun e=>e ▸ hg)),A9,c9,css',hr,hb⟩
theorem RvA.conds (hN:N≤W.heap.size) (h:RvA N W gt na xs W2):RvC N W gt na xs 0 [] W2:=by
 obtain ⟨he,A,c,css,hr,hb⟩:=h
 exact ⟨he,A,c,css,none,0,[],W2.heap.size,hr,RwF.empty (fun k hk=>Nat.lt_of_lt_of_le hk (Nat.le_trans hN he.size)),hb,Nat.le_refl _,he.size,fun k hk=>own_lt hr.own hk⟩
theorem RvC.next {A A0 A9:Option Addr} {c c0 c9 b1:Nat} {css cz css':List (List Value)} {cs':List Cd} (he:Ext W W2) (hg:W.heap.size≤gt) (ha:RwF rdAt (fun k=>k < N) W2 W.heap.size 49 (.slice A na c) na xs cz) (ho:RwF rdCd (fun k=>k < N) W2 b1 53 (.slice A0 m c0) m cs css) (hbb:Bk W2 gt 46 [.slice A na c,.slice A0 m c0]) (h1:b1≤W2.heap.size) (h2:W.heap.size≤b1) (h3:∀ k,(Value.slice A na c).ownBlock=some k→k < b1) (hN:N≤W.heap.size) (hf:Fr (fun k=>(Value.slice A0 m c0).ownBlock=some k ∨ k=gt) W2 W3) (hr:RwF rdCd (fun k=>k < N) W3 b1 53 (.slice A9 (m + 1) c9) (m + 1) cs' css') (hb:Bk W3 gt 46 [.slice A na c,.slice A9 (m + 1) c9]):RvC N W gt na xs (m + 1) cs' W3 :=
 ⟨Fr.new he hf (fun k hk=>hk.elim (fun e=>Nat.le_trans h2 (own_ge ho.own e)) (fun e=>e ▸ hg)),A,c,cz,A9,c9,css',b1,ha.fr hf (fun k hk e=>e.elim (fun e=>by
  have:=own_ge ho.own e
  have:=h3 k hk
  omega) (fun e=>own_bk ha.own hbb (by decide) hk e)) (fun k hk e=>e.elim (fun e=>by
  have:=own_ge ho.own e
  omega) (fun e=>by omega)),hr,hb,Nat.le_trans h1 hf.size,h2,h3⟩
theorem RvC.rule (h:RvC N W gt na xs m cs W2):∃ A c A' c',Bk W2 gt 46 [.slice A na c,.slice A' m c']∧rdRl.R (fun k=>k < N ∨ (W.heap.size≤k∧k < W2.heap.size)) W2 [.slice A na c,.slice A' m c'] ⟨xs,cs⟩:=by
 obtain ⟨he,A,c,css,A',c',css',b1,h1,h2,h3,h4,h5,h6⟩:=h
 refine ⟨A,c,A',c',h3,_,_,rfl,Sl.ats ((h1.g he.size).sl (by decide) (fun k hk=>.inr ⟨own_ge h1.own hk,own_lt h1.own hk⟩) (fun k hk=>.inl hk)),(h2.g h4).sl (by decide) (fun k hk=>.inr ⟨Nat.le_trans h5 (own_ge h2.own hk),own_lt h2.own hk⟩) (fun k hk=>.inl hk)⟩
end
structure RvO (w6:World) (gp base:Nat) (x0 x1 x2 x4:Value) (j:Nat) (rs:List Rl) (W:World):Prop where
 ext:Ext w6 W
 row:∃ A c css F,RwG rdRl F W base 46 (.slice A j c) j rs css∧(∀ k,F k→k ≠ gp)∧Bk W gp 28 [x0,x1,x2,.slice A j c,x4]
section
variable {w6 W W2 W4:World} {gp base j:Nat} {x0 x1 x2 x4:Value} {rs:List Rl}
theorem RvO.start (he:Ext w6 W) (hb:Bk W gp 28 [x0,x1,x2,.slice none 0 0,x4]):RvO w6 gp base x0 x1 x2 x4 0 [] W :=
 ⟨he,none,0,[],fun _=>False,RwG.empty,(fun _ h=>h.elim),hb⟩
theorem RvO.next {A A9:Option Addr} {c c9:Nat} {css:List (List Value)} {F:Nat→Prop} {x:Rl} {va vc:Value} (he:Ext w6 W) (hN:w6.heap.size≤gp∧gp < base∧base≤W.heap.size) (hr:RwG rdRl F W base 46 (.slice A j c) j rs css) (hF:∀ k,F k→k ≠ gp) (hb:Bk W gp 28 [x0,x1,x2,.slice A j c,x4]) (he2:Ext W W2) (ht:rdRl.R (fun k=>k < w6.heap.size ∨ (W.heap.size≤k∧k < W2.heap.size)) W2 [va,vc] x) (h9:W4.ownsRow base 46 2 (.slice A9 (j + 1) c9) (j + 1) (css.flatten ++ [va,vc])) (hg:(W2.alloc (.cells #[va,vc] 46)).grownBy W4 (Value.slice A j c).ownBlock) (hl:Lands (W2.alloc (.cells #[va,vc] 46)) (.slice A j c) (.slice A9 (j + 1) c9)):RvO w6 gp base x0 x1 x2 x4 (j + 1) (rs ++ [x]) (W4.setCell ⟨gp,3,none⟩ (.slice A9 (j + 1) c9)):=by
 have hxa:=(Ext.refl W2).alloc (.cells #[va,vc] 46)
 have hx3:=he2.trans hxa
 have hset:Fr (fun k=>k=gp) W4 (W4.setCell ⟨gp,3,none⟩ (.slice A9 (j + 1) c9)):=(Fr.refl (fun k=>k=gp) W4).setCell (p:=⟨gp,3,none⟩) (.inl rfl) _
 have hb4:Bk W4 gp 28 [x0,x1,x2,.slice A j c,x4]:=(hb.ext hx3).fr (grown_fr hg) (fun e=>own_bk hr.own hb (by decide) e rfl)
 have hm:=hr.more (F':=fun k=>F k ∨ k < w6.heap.size ∨ (W.heap.size≤k∧k < W2.heap.size)) hx3 (rdRl.mono (rdRl.ext ht hxa) (fun k _ hk=>.inr hk)) (fun k hk=>.inl hk) (fun k hk=>by
  have hs2:=hx3.size
  have hs3:=hxa.size
  rcases hk with hk | hk | hk
  ·exact ⟨(hr.sep k hk).1,Nat.lt_of_lt_of_le (hr.sep k hk).2 hs2⟩
  ·refine ⟨fun e=>?_,by have:=he.size;omega⟩
   have:=own_ge hr.own e
   omega
  ·refine ⟨fun e=>?_,by omega⟩
   have:=own_lt hr.own e
   omega) h9 hg hl
 refine ⟨(((he.trans hx3).grown hg (fun k hk=>by have:=own_ge hr.own hk;omega))).setCell (p:=⟨gp,3,none⟩) hN.1 _,A9,c9,_,_,hm.fr hset (fun k hk e=>own_bk hm.own hb4 (by decide) hk e) (fun k hk e=>?_),fun k hk=>?_,hb4.set 3 _⟩
 all_goals
  rcases hk with hk | hk | hk
 ·exact hF k hk e
 ·omega
 ·have:=hN.2.2
  omega
 ·exact hF k hk
 ·omega
 ·have:=hN.2.2
  omega
end
end Go.Proofs.YtplldnnnhgnbjaaGreatDoor
namespace Go.Proofs.YtplldnnnhgnbjaaGreatDoor
open Go.RowKit Go.Maps
open Go.ChangeShapes Go.WideShapes Go.ChangeAt Go.RowKit Go.Joins Go.Deep
theorem gTab:Tryz.prog.globalNamed "internal/strconv.uint64pow10" = some 1:=by kernel_rfl
theorem tab_of {W:World} (h:laidMetH Tryz.prog Rows.modelReordersRow.laid W):TabE W:=by
 have h1:laidMet Tryz.prog [("internal/strconv.uint64pow10",Rows.laid_internal_strconv_uint64pow10)] W:=h.filter (fun x=>x.1 == "internal/strconv.uint64pow10")
 have e:(Rows.laid_internal_strconv_uint64pow10:DataW Unit)=Lib.tabData .u64 Lib.pow10Tab:=by kernel_rfl
 rw [e] at h1
 exact Lib.tabBelow_of_tabIs (Lib.tabIs_of_head (rest:=[]) gTab (by kernel_rfl) Tryz.underlying390 Tryz.underlying87 (by kernel_rfl) (by kernel_rfl) h1)
noncomputable def laidObj (cs:Array Value):Obj→Obj
 | .cells _ t frozen=>.cells cs t frozen
 | o=>o
noncomputable def laidWorld (os:Os):World :=
 { World.holding Tryz.prog os ⟨#[],#[],[]⟩ with heap:=(((World.holding Tryz.prog os ⟨#[],#[],[]⟩).heap.modify 1 (laidObj #[.int .u64 1,.int .u64 10,.int .u64 100,.int .u64 1000,.int .u64 10000,.int .u64 100000,.int .u64 1000000,.int .u64 10000000,.int .u64 100000000,.int .u64 1000000000,.int .u64 10000000000,.int .u64 100000000000,.int .u64 1000000000000,.int .u64 10000000000000,.int .u64 100000000000000,.int .u64 1000000000000000,.int .u64 10000000000000000,.int .u64 100000000000000000,.int .u64 1000000000000000000,.int .u64 10000000000000000000])).modify 2 (laidObj #[.int .u8 0,.int .u8 1,.int .u8 28,.int .u8 2,.int .u8 29,.int .u8 14,.int .u8 24,.int .u8 3,.int .u8 30,.int .u8 22,.int .u8 20,.int .u8 15,.int .u8 25,.int .u8 17,.int .u8 4,.int .u8 8,.int .u8 31,.int .u8 27,.int .u8 13,.int .u8 23,.int .u8 21,.int .u8 19,.int .u8 16,.int .u8 7,.int .u8 26,.int .u8 12,.int .u8 18,.int .u8 6,.int .u8 11,.int .u8 5,.int .u8 10,.int .u8 9])).modify 3 (laidObj #[.int .u8 0,.int .u8 1,.int .u8 56,.int .u8 2,.int .u8 57,.int .u8 49,.int .u8 28,.int .u8 3,.int .u8 61,.int .u8 58,.int .u8 42,.int .u8 50,.int .u8 38,.int .u8 29,.int .u8 17,.int .u8 4,.int .u8 62,.int .u8 47,.int .u8 59,.int .u8 36,.int .u8 45,.int .u8 43,.int .u8 51,.int .u8 22,.int .u8 53,.int .u8 39,.int .u8 33,.int .u8 30,.int .u8 24,.int .u8 18,.int .u8 12,.int .u8 5,.int .u8 63,.int .u8 55,.int .u8 48,.int .u8 27,.int .u8 60,.int .u8 41,.int .u8 37,.int .u8 16,.int .u8 46,.int .u8 35,.int .u8 44,.int .u8 21,.int .u8 52,.int .u8 32,.int .u8 23,.int .u8 11,.int .u8 54,.int .u8 26,.int .u8 40,.int .u8 15,.int .u8 34,.int .u8 20,.int .u8 31,.int .u8 10,.int .u8 25,.int .u8 14,.int .u8 19,.int .u8 9,.int .u8 13,.int .u8 8,.int .u8 7,.int .u8 6]) }
def TrueE (w:World) (e:Ending) (w':World):Prop:=Ext w w'∧e = .returned (.bool true)
theorem len_max {n:Nat} (h:n≤maxLen):n≤9223372036854775807:=by unfold maxLen at h;omega
section
variable {H:Type} {enc:TypeId × Value→H} {W:World} {base:Nat} {fuel:Nat} {cs:List Value} {v:Value} {x:DataW H × List MemPlace}
set_option maxRecDepth 20000
theorem open_atE3 (h:DataW.trod enc Tryz.prog W 0 (fun _=>true) true fuel 49 cs=some x):∃ a:At,rdAt.R U1 W cs a∧a.rel.size≤maxLen∧TmZ a.terms∧a.terms.length≤maxLen:=by
 obtain ⟨xs,n,-,-,hl,hxl,hf⟩:=DataW.trod_struct Tryz.underlying49 h
 have hc3:cs.length=3:=hl.trans (by kernel_rfl)
 match cs,hc3 with
 | [c0,c1,c2],_ =>
  match xs,hxl with
  | [y0,y1,y2],_ =>
   have h0:DataW.trod enc Tryz.prog W 0 (fun _=>true) true n 4 [c0]=some y0:=hf 0 _ rfl
   have h1:DataW.trod enc Tryz.prog W 0 (fun _=>true) true n 9 [c1]=some y1:=hf 1 _ rfl
   have h2:DataW.trod enc Tryz.prog W 0 (fun _=>true) true n 47 [c2]=some y2:=hf 2 _ rfl
   obtain ⟨b,e0,-⟩:=DataW.trod_bool Tryz.underlying4 h0
   obtain ⟨s,e1,-,hs⟩:=DataW.trod_string Tryz.underlying9 h1
   obtain ⟨ts,k1,k9,k2⟩:=open_sl (flatR Tm.cells 4 (fun _=>rfl)) Tryz.underlying47 (by kernel_rfl) (fun t=>t.var.size≤maxLen∧t.str.size≤maxLen) open_tm h2
   injection e0 with e0;injection e1 with e1
   subst e0 e1
   exact ⟨⟨b,s,ts⟩,⟨_,rfl,k1.ts⟩,hs,k2,k9⟩
theorem open_rlE3 (h:DataW.trod enc Tryz.prog W 0 (fun _=>true) true fuel 46 cs=some x):∃ r:Rl,rdRl.R U1 W cs r∧RlN r:=by
 obtain ⟨xs,n,-,-,hl,hxl,hf⟩:=DataW.trod_struct Tryz.underlying46 h
 have hc2:cs.length=2:=hl.trans (by kernel_rfl)
 match cs,hc2 with
 | [c0,c1],_ =>
  match xs,hxl with
  | [y0,y1],_ =>
   have h0:DataW.trod enc Tryz.prog W 0 (fun _=>true) true n 43 [c0]=some y0:=hf 0 _ rfl
   have h1:DataW.trod enc Tryz.prog W 0 (fun _=>true) true n 44 [c1]=some y1:=hf 1 _ rfl
   obtain ⟨axs,k1,k2,k3⟩:=open_sl rdAt Tryz.underlying43 (by kernel_rfl) (fun a=>a.rel.size≤maxLen∧TmZ a.terms∧a.terms.length≤maxLen) open_atE3 h0
   obtain ⟨cds,m1,m2,m3⟩:=open_sl rdCd Tryz.underlying44 (by kernel_rfl) (fun c=>c.var.size≤maxLen∧c.str.size≤maxLen) open_cdE h1
   exact ⟨⟨axs,cds⟩,⟨_,_,rfl,k1.ats,m1⟩,⟨⟨fun a ha=>(k3 a ha).1,fun a ha=>(k3 a ha).2.1,fun c hc=>(m3 c hc).1,fun c hc=>(m3 c hc).2⟩,fun a ha=>len_max (k3 a ha).2.2,len_max m2,len_max k2⟩⟩
theorem open_qy3 {d:DataW H} {p:List MemPlace} (hv:∃ cs:Array Value,v = .agg cs) (h:DataW.Trod enc Tryz.prog W 0 (fun _=>true) true 28 v d p):∃ (A:Option Addr) (ca:Nat) (B:Option Addr) (cb:Nat) (O:Option Addr) (co:Nat) (q:Qy),v = .agg #[.slice A q.hd.length ca,.int .i64 q.ag,.string q.av,.slice B q.rs.length cb,.slice O q.od.length co]∧QyR U1 W A ca B cb O co q∧QyZ q∧(∀ r ∈ q.rs,RlN r)∧q.rs.length≤maxLen:=by
 obtain ⟨ca,rfl⟩:=hv
 obtain ⟨fuel,hf⟩:=h
 obtain ⟨xs,n,-,hx,hl,hxl,hg⟩:=DataW.trod_struct Tryz.underlying28 hf
 have hc5:ca.toList.length=5:=hl.trans (by kernel_rfl)
 obtain ⟨cs,hcs⟩:∃ cs,cs=ca.toList:=⟨_,rfl⟩
 have hca:ca=cs.toArray:=by rw [hcs]
 subst hca
 change (∀ (i:Nat) (f:Field),_→DataW.trod enc Tryz.prog W 0 (fun _=>true) true n f.type ((cs.drop f.offset).take (Tryz.prog.cellsOf f.type))=xs[i]?) at hg
 have hc5':cs.length=5:=by rw [← hc5]
 clear hf hl hc5 hcs
 match cs,hc5' with
 | [c0,c1,c2,c3,c4],_ =>
  match xs,hxl with
  | [y0,y1,y2,y3,y4],_ =>
   have g0:DataW.trod enc Tryz.prog W 0 (fun _=>true) true n 24 [c0]=some y0:=hg 0 _ rfl
   have g1:DataW.trod enc Tryz.prog W 0 (fun _=>true) true n 3 [c1]=some y1:=hg 1 _ rfl
   have g2:DataW.trod enc Tryz.prog W 0 (fun _=>true) true n 9 [c2]=some y2:=hg 2 _ rfl
   have g3:DataW.trod enc Tryz.prog W 0 (fun _=>true) true n 25 [c3]=some y3:=hg 3 _ rfl
   have g4:DataW.trod enc Tryz.prog W 0 (fun _=>true) true n 26 [c4]=some y4:=hg 4 _ rfl
   obtain ⟨hd,h1,-,h3⟩:=open_sl (flatR (fun s:ByteArray=>[Value.string s]) 1 (fun _=>rfl)) Tryz.underlying24 (by kernel_rfl) (fun s=>s.size≤maxLen) open_strE g0
   obtain ⟨ag,e1,-,-⟩:=DataW.trod_int Tryz.underlying3 g1
   obtain ⟨av,e2,-,hav⟩:=DataW.trod_string Tryz.underlying9 g2
   obtain ⟨rs,k1,k9,k3⟩:=open_sl rdRl Tryz.underlying25 (by kernel_rfl) (fun r=>RlN r) open_rlE3 g3
   obtain ⟨od,m1,-,m3⟩:=open_sl rdKy Tryz.underlying26 (by kernel_rfl) (fun k=>k.var.size≤maxLen) open_kyE g4
   injection e1 with e1;injection e2 with e2
   subst e1 e2
   obtain ⟨A,ca',f1⟩:=h1.sl
   obtain ⟨B,cb,f2⟩:=k1.sl
   obtain ⟨O,co,f3⟩:=m1.sl
   subst f1 f2 f3
   exact ⟨A,ca',B,cb,O,co,⟨hd,ag,av,rs,od⟩,rfl,⟨h1.strs,k1,m1⟩,⟨h3,hav,fun r hr=>(k3 r hr).z,m3⟩,k3,k9⟩
theorem open_law {d0 d1 d2:DataW H} {p0 p1 p2:List MemPlace} {v0 v1 v2:Value} (o0:Value.okWide Tryz.prog W .any base 22 v0) (o1:Value.okWide Tryz.prog W .any base 23 v1) (o2:∃ cs:Array Value,v2 = .agg cs) (h0:DataW.Trod enc Tryz.prog W 0 (fun _=>true) true 22 v0 d0 p0) (h1:DataW.Trod enc Tryz.prog W 0 (fun _=>true) true 23 v1 d1 p1) (h2:DataW.Trod enc Tryz.prog W 0 (fun _=>true) true 28 v2 d2 p2) (htab:TabE W) :
  ∃ (S U A B O:Option Addr) (ns cs nu cu ca cb co:Nat) (ss:List Sc) (us:List Up) (q:Qy),v0 = .slice S ns cs∧v1 = .slice U nu cu∧v2 = .agg #[.slice A q.hd.length ca,.int .i64 q.ag,.string q.av,.slice B q.rs.length cb,.slice O q.od.length co]∧LawIn U1 U1 U1 W S U A B O ns cs nu cu ca cb co ss us q:=by
 obtain ⟨S,cs,ss,e0,r0,-,z0⟩:=open_scs2 o0 h0
 obtain ⟨U,cu,us,e1,r1,l1,z1⟩:=open_ups o1 h1
 obtain ⟨A,ca,B,cb,O,co,q,e2,r2,z2,n2,l2⟩:=open_qy3 o2 h2
 exact ⟨S,U,A,B,O,_,cs,_,cu,ca,cb,co,ss,us,q,e0,e1,e2,⟨r0,r1,r2,n2,z2,len_max l1,fun u hu=>len_max (z1 u hu).2.1,len_max l2,fun x hx=>(z0 x hx).1,fun x hx=>(z0 x hx).2,fun u hu=>⟨(z1 u hu).1,(z1 u hu).2.2⟩,htab⟩⟩
end
end Go.Proofs.YtplldnnnhgnbjaaGreatDoor
