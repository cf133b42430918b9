/- packed -/
import Derived.Test.YtplldnnnhgnbjaaGreatDoorMu28
import Derived.Test.YtplldnnnhgnbjaaGreatDoorMu18
import Derived.Test.YtplldnnnhgnbjaaGreatDoorMu19
import Derived.Test.YtplldnnnhgnbjaaGreatDoorMu15
namespace Go.Proofs.YtplldnnnhgnbjaaGreatDoor
open Go.RowKit Go.Maps
structure DbOk(M:Dm):Prop where
 key:∀s x,M s=some x→s.size≤1000∧x.kinds.length≤1000
 so:∀s x,M s=some x→SoR x.rel.rows
 ln:∀s x,M s=some x→x.rel.rows.length≤1000000
 row:∀s x,M s=some x→∀r∈x.rel.rows,r.length=x.kinds.length∧∀v∈r,okV v=true∧VOk v
theorem rowsD_some{M:Dm}{s:ByteArray}{x:En}(h:M s=some x):rowsD M s=x.rel.rows:=by unfold rowsD;rw[h];rfl
theorem so_nodup{l:List (List Vl)}(h:SoR l):l.Nodup:=List.Pairwise.imp (fun {a b} hab e=>by
 subst e
 have:=cmp_row.self a
 unfold cmpR at hab this
 omega) h
section
variable {M:Dm} {r:Rl}
theorem valid_parts(h:validE M r=0):(∀a∈r.ats,∃x,M a.rel=some x∧a.terms.length=x.kinds.length)∧(∀s∈varsC r,posV r s=true)∧∀c∈r.cds,condV c=0:=by
 unfold validE at h
 split at h
 ·rename_i h1
  split at h
  ·rename_i h2
   refine⟨fun a ha=>?_,fun s hs=>jz.1 h2 s hs,firstE_zero.1 h⟩
   have h3:=firstE_zero.1 h1 a ha
   unfold atomV at h3
   split at h3
   ·cases h3
   ·rename_i x hx
    split at h3
    ·rename_i h4
     exact⟨x,hx,h4⟩
    ·cases h3
  ·cases h
 ·rename_i h1
  exact absurd h h1
theorem safe_of(h:validE M r=0):SafeR (varsC r) r where
 at':=fun a ha t ht h0=>by
  rw[varsC_eq]
  exact varsT_iff.2 ⟨t,jJ _ (allT_iff.2 ⟨a,ha,ht⟩),rfl,h0⟩
 cd:=fun c hc h0=>by
  rw[varsC_eq]
  exact varsT_iff.2 ⟨cdT c,jR _ (jE.2 ⟨c,hc,rfl⟩),rfl,h0⟩
 ne:=fun h1=>by
  rw[varsC_eq]at h1
  obtain⟨t,-,h2,h3⟩:=varsT_iff.1 h1
  exact h3 rfl
 nd:=by rw[varsC_eq];exact varsT_nodup _
 bd:=fun s hs=>by
  have h1:=(valid_parts h).2.1 s hs
  unfold posV at h1
  obtain⟨t,ht,h2⟩:=jL.1 h1
  unfold posT at ht
  obtain⟨a,ha,hta⟩:=zB.1 ht
  by_cases hn:a.neg=true
  ·rw[if_pos hn]at hta
   simp at hta
  ·rw[if_neg hn]at hta
   exact⟨a,jA.2 ⟨ha,by simpa using hn⟩,t,hta,by simpa using h2⟩
theorem atom_rows(hd:DbOk M)(h:validE M r=0){a:At}(ha:a∈r.ats):(∃x,M a.rel=some x)∧(∀x∈rowsD M a.rel,x.length=a.terms.length∧∀v∈x,okV v=true∧VOk v)∧(rowsD M a.rel).length≤1000000∧SoR (rowsD M a.rel):=by
 obtain⟨x,hx,hl⟩:=(valid_parts h).1 a ha
 rw[rowsD_some hx]
 exact⟨⟨x,hx⟩,fun y hy=>⟨by rw[(hd.row _ _ hx y hy).1,hl],(hd.row _ _ hx y hy).2⟩,hd.ln _ _ hx,hd.so _ _ hx⟩
theorem ng_ok(hd:DbOk M)(h:validE M r=0){a:At}(ha:a∈r.ats)(hl:a.terms.length≤1000):NgOk (varsC r).length (ngOf (varsC r) M a):=by
 obtain⟨-,h1,h2,h3⟩:=atom_rows hd h ha
 have hs:=safe_of h
 refine⟨h3,by simp[ngOf,numsN],by simp[ngOf,numsN];omega,js h2 (by decide),fun x hx=>?_,fun c hc=>?_⟩
 ·have:=(h1 x hx).1
  omega
 ·obtain⟨t,ht,rfl⟩:=jE.1 hc
  by_cases h0:t.var=⟨#[]⟩
  ·have:numN (varsC r) t.var = -1:=if_pos h0
   omega
  ·have hm:=hs.at' a ha t ht h0
   rw[num_var h0 hm]
   have:=pos_lt hm
   omega
theorem smL_mem{vars:List ByteArray}{cds:List Cd}{s:Sm}:∀{l:List At} {B:List Nat},s∈smL vars M cds l B→∃a∈l,∃B',s=smOf vars M cds B' a []
 | [],_,h=>by simp[smL]at h
 | a::l,B,h=>by
  rcases jC.1 h with rfl|h
  ·exact⟨a,by simp,B,rfl⟩
  ·obtain⟨b,hb,B',e⟩:=smL_mem h
   exact⟨b,jr _ hb,B',e⟩
theorem sm_ok(hd:DbOk M)(h:validE M r=0)(hb0:r.ats.length≤100)(hb1:∀a∈r.ats,a.terms.length≤1000):∀s∈smF (varsC r) M r,SmOk (varsC r).length s:=fun s hs=>by
 have hsf:=safe_of h
 unfold smF at hs
 obtain⟨⟨t,i⟩,hti,rfl⟩:=jE.1 hs
 obtain⟨a,ha,B,rfl⟩:=smL_mem (List.fst_mem_of_mem_zipIdx hti)
 have har:=(posL_mem ha).1
 obtain⟨-,h1,h2,-⟩:=atom_rows hd h har
 have hok:=nsOf_ok (varsC r) B a.terms
 have hl:=nsAt_len B (numsN (varsC r) a.terms) a.terms.length
 have htl:=hb1 a har
 refine⟨hok.l2,fun v hv=>?_,fun v hv=>?_,fun c hc=>⟨fun i hi=>?_,fun v hv=>?_⟩,fun g hg=>?_,?_,?_,?_,?_⟩
 ·obtain⟨-,t,ht,h3,rfl⟩:=(fresh_iff (hsf.at' a har)).1 hv
  exact pos_lt (hsf.at' a har t ht h3)
 ·obtain⟨i,hi⟩:=mem_zip_left hok.l1 hv
  obtain⟨-,hil,h3,rfl⟩:=(bd_at (hsf.at' a har)).1 hi
  exact pos_lt (hsf.at' a har _ (jg hil) h3)
 ·have hcm:=(jA.1 hc).1
  rw[(h1 c hcm).1]
  obtain⟨k,hk,rfl⟩:=jv hi
  have hz:=zip_at (s:=nsOf (varsC r) B a.terms) hok.l2 (i:=k) (by rw[hok.l2];exact hk)
  exact((hok.fr _ _).1 hz).1
 ·exact((h1 c (jA.1 hc).1).2 v hv).2
 ·obtain⟨b,hb,rfl⟩:=jE.1 hg
  have hb2:=(jA.1 (jA.1 hb).1).1
  exact ng_ok hd h hb2 (hb1 b hb2)
 ·exact js (jG _ _) h2
 ·exact js hl.2.2.2 (by omega)
 ·exact js hl.1 (by omega)
 ·show ((negK (varsC r) r (i+1)).map _).length≤_
  rw[jm]
  exact js (jG _ _) (js (jG _ _) (by omega))
theorem smF_len:(smF (varsC r) M r).length≤r.ats.length:=by
 unfold smF
 rw[jm,List.length_zipIdx,smL_len]
 exact jG _ _
end
def zRow(n:Nat):List Vl:=List.replicate n zv
theorem zRow_ok(n:Nat):∀v∈zRow n,VOk v:=fun v hv=>by
 rw[(List.mem_replicate.1 hv).2]
 exact⟨by decide,by decide,by decide,by decide,by decide⟩
theorem zRow_at:∀(n i:Nat),(vcells (zRow n))[i]?=if i<n*3 then (#[Value.int .i64 0,.int .i64 0,.string ⟨#[]⟩])[i % 3]? else none
 | 0,i=>by simp[zRow,vcells]
 | n+1,i=>by
  have e1:vcells (zRow (n+1))=Vl.cells zv++vcells (zRow n):=rfl
  rcases jB i 3 with h|h
  ·rw[e1,zi (by exact h),if_pos (by omega),Nat.mod_eq_of_lt h]
   rcases(show i=0∨i=1∨i=2 by omega) with rfl|rfl|rfl <;> rfl
  ·rw[e1,ze (by exact h),show (Vl.cells zv).length=3 from rfl,zRow_at n (i-3)]
   by_cases h2:i<(n+1)*3
   ·rw[if_pos (by omega),if_pos h2,show i % 3=(i-3) % 3 by omega]
   ·rw[if_neg (by omega),if_neg h2]
theorem make_vals(n:Nat)(hn:n≤1000000)(w:World):(Instr.makeSlice 74 (.int .i64 (n:Int)) (.int .i64 (n:Int))).run Tryz.prog w=.ok (.slice (some ⟨w.heap.size,0,none⟩) n n) (w.alloc (.cells (vcells (zRow n)).toArray 51)):=by
 obtain⟨i,hi,h1,h2,h3⟩:=info_parts info_val
 have hr:=run_make (P:=Tryz.prog) w 74 51 i _ Tryz.underlying74 hi h1 .i64 .i64 n n (by omega) (by omega) (by rw[h3];omega) (by omega)
 rw[hr,jO,h2]
 have:madeCells (Value.cells (.agg #[.int .i64 0,.int .i64 0,.string ⟨#[]⟩])) (n*3)=(vcells (zRow n)).toArray:=by
  have e:Value.cells (.agg #[.int .i64 0,.int .i64 0,.string ⟨#[]⟩])=#[.int .i64 0,.int .i64 0,.string ⟨#[]⟩]:=by rfl
  rw[e]
  refine Array.ext_getElem? (fun j=>?_)
  rw[show ((vcells (zRow n)).toArray)[j]?=(vcells (zRow n))[j]? from by simp,zRow_at]
  unfold madeCells
  rw[Array.getElem?_map,Array.getElem?_range]
  by_cases hj:j<n*3
  ·rw[if_pos hj,if_pos hj]
   have h8:j % 3<3:=Nat.mod_lt _ (by decide)
   rw[Array.getElem?_eq_getElem (show j % 3<(#[Value.int .i64 0,.int .i64 0,.string ⟨#[]⟩]).size from h8)]
   simp only[Option.map_some]
   exact congrArg some (getElem!_pos (#[Value.int .i64 0,.int .i64 0,.string ⟨#[]⟩]) (j % 3) h8)
  ·rw[if_neg hj,if_neg hj]
   rfl
 rw[this]
def EachPost(M:Dm)(r:Rl)(St:List (List Vl)→(Nat→Prop)→World→Prop)(L:List (List Vl))(O:Nat→Prop)(w:World)(e:Ending)(w':World):Prop :=
 e=.returned (.int .i64 (validE M r))∧∃L' O',St (L++L') O' w'∧Fr O w w'∧(∀q,O' q→O q∨w.heap.size≤q)∧((validE M r≠0∧L'=[])∨(validE M r=0∧L'.Nodup∧∀z,z∈L'↔z.length=(varsC r).length∧satM M (varsC r) r z))
theorem four_blk(w:World)(t u v x:TypeId)(cs ds es fs:List Value):Bk ((((w.alloc (.cells cs.toArray t)).alloc (.cells ds.toArray u)).alloc (.cells es.toArray v)).alloc (.cells fs.toArray x)) w.heap.size t cs∧Bk ((((w.alloc (.cells cs.toArray t)).alloc (.cells ds.toArray u)).alloc (.cells es.toArray v)).alloc (.cells fs.toArray x)) (w.heap.size+1) u ds∧Bk ((((w.alloc (.cells cs.toArray t)).alloc (.cells ds.toArray u)).alloc (.cells es.toArray v)).alloc (.cells fs.toArray x)) (w.heap.size+1+1) v es∧Bk ((((w.alloc (.cells cs.toArray t)).alloc (.cells ds.toArray u)).alloc (.cells es.toArray v)).alloc (.cells fs.toArray x)) (w.heap.size+1+1+1) x fs:=by
 obtain⟨h1,h2,h3⟩:=three_blk w t u v cs ds es
 refine⟨h1.alloc _,h2.alloc _,h3.alloc _,?_⟩
 have h:=Bk.new (((w.alloc (.cells cs.toArray t)).alloc (.cells ds.toArray u)).alloc (.cells es.toArray v)) x fs
 rw[show (((w.alloc (.cells cs.toArray t)).alloc (.cells ds.toArray u)).alloc (.cells es.toArray v)).heap.size=w.heap.size+1+1+1 by simp]at h
 exact h
set_option maxRecDepth 20000 in
set_option maxHeartbeats 3200000 in
theorem each_any{F G H:Nat→Prop}{w wT:World}{sv vc:Value}{r:Rl}{b nb N fid:Nat}{caps:Array Value}{M:Dm}{St:List (List Vl)→(Nat→Prop)→World→Prop}{L:List (List Vl)}{O:Nat→Prop}(hA:Ats G w sv r.ats)(hC:Sl rdCd H w vc r.cds)(hD:DbB F w b nb M)(hz:RlZ r)(hb0:r.ats.length≤90)(hb1:∀a∈r.ats,a.terms.length≤1000)(hb2:r.cds.length≤1000)(hd:DbOk M)(htab:TabE wT)(hT:Ext wT w)(eg:∀args w,(callFunc fid args).run Tryz.prog w=.ok (.enter fid args) w)(hv:∀gx h1,w.heap.size≤gx→gx<h1→VisOk N fid caps gx (varsC r).length wT h1 St)(hNB:validE M r=0→∀L':List (List Vl),L'.Nodup→(∀z,z∈L'↔z.length=(varsC r).length∧satM M (varsC r) r z)→L.length+L'.length≤N)(hS:St L O w)(hOl:∀q,O q→q<w.heap.size)(hOT:∀q,O q→wT.heap.size≤q)(hFO:∀q,F q→q<w.heap.size→¬O q) :
  Calls Tryz.prog 49 #[.agg #[sv,vc],.agg #[.map (some b)],.func (.func fid) #[] caps] w (EachPost M r St L O w):=by
 have htl:(allT r.ats).length≤90000:=by
  have:∀l:List At,(∀a∈l,a.terms.length≤1000)→(allT l).length≤l.length*1000:=by
   intro l
   induction l with
   | nil=>intro _;simp[allT]
   | cons a l ih =>
    intro h
    have h1:=h a (by simp)
    have h2:=ih (fun b hb=>h b (jr _ hb))
    unfold allT at h2 ⊢
    rw[jQ,jl,jD,zN]
    omega
  have h1:=this r.ats hb1
  have h2:r.ats.length*1000≤90*1000:=zg _ hb0
  omega
 have hbd:RlB r:=⟨hz,by omega,by omega,by omega⟩
 have hvl:(varsC r).length≤91000:=by
  rw[varsC_eq]
  have h2:=varsT_length (allT r.ats++r.cds.map cdT)
  simp only[jl,jm]at h2
  omega
 have HVAL:=zO (fun (V:World) (hV:Ext w V)=>mvalid_any (hA.ext hV) (hC.ext hV) (hD.ext hV) hbd hd.key)
 have HVARS:=zO (fun (V:World) (hV:Ext w V)=>vars_any (hA.ext hV) (hC.ext hV) hbd)
 obtain⟨Aa,na,ca,rfl⟩:∃A n c,sv=.slice A n c:=let ⟨A,c,e⟩:=hA.sl;⟨A,_,c,e⟩
 obtain⟨Ac,nc,cc,rfl⟩:∃A n c,vc=.slice A n c:=let ⟨A,c,e⟩:=hC.sl;⟨A,_,c,e⟩
 have k2:=three_blk w 46 33 126 [.slice Aa na ca,.slice Ac nc cc] [.map (some b)] [.func (.func fid) #[] caps]
 have hx:=(((Ext.refl w).alloc (.cells #[.slice Aa na ca,.slice Ac nc cc] 46)).alloc (.cells #[.map (some b)] 33)).alloc (.cells #[.func (.func fid) #[] caps] 126)
 have HA:=zO hA;have HC:=zO hC;have HD:=zO hD;have HZ:=zO hz;have HB1:=zO hb1;have HDO:=zO hd;have HTAB:=zO htab;have HT:=zO hT;have HV:=zO hv;have HNB:=zO hNB;have HS:=zO hS;have HOL:=zO hOl;have HOT:=zO hOT;have HFO:=zO hFO;have HB0:=zO hb0;have HB2:=zO hb2
 obtain⟨ev,hev⟩:∃e,e=validE M r:=⟨_,rfl⟩
 rw[←hev]at HVAL
 have HEV:=zO hev
 have HPOST:=zO (fun (V:World) (L':List (List Vl)) (O':Nat→Prop) (h1:St (L++L') O' V) (h2:Fr O w V) (h3:∀q,O' q→O q∨w.heap.size≤q) (h4:(ev≠0∧L'=[])∨(ev=0∧L'.Nodup∧∀z,z∈L'↔z.length=(varsC r).length∧satM M (varsC r) r z))=>(show EachPost M r St L O w (.returned (.int .i64 ev)) V from ⟨by rw[hev],L',O',h1,h2,h3,by rw[←hev];exact h4⟩))
 obtain⟨PP,hPP⟩:∃P,P=EachPost M r St L O w:=⟨_,rfl⟩
 rw[←hPP]at HPOST ⊢
 clear hA hC hD hz hb0 hb1 hb2 hd htab hT hv hNB hS hOl hOT hFO hbd htl hev hPP
 go_enter Tryz.func49,Tryz.ntmps49
 go_upto_region 1 with fail
 change Bk (((w.alloc (.cells #[.slice Aa na ca,.slice Ac nc cc] 46)).alloc (.cells #[.map (some b)] 33)).alloc (.cells #[.func (.func fid) #[] caps] 126)) _ _ _∧Bk (((w.alloc (.cells #[.slice Aa na ca,.slice Ac nc cc] 46)).alloc (.cells #[.map (some b)] 33)).alloc (.cells #[.func (.func fid) #[] caps] 126)) _ _ _∧Bk (((w.alloc (.cells #[.slice Aa na ca,.slice Ac nc cc] 46)).alloc (.cells #[.map (some b)] 33)).alloc (.cells #[.func (.func fid) #[] caps] 126)) _ _ _ at k2
 obtain⟨ka,kd,kv⟩:=k2
 generalize (((w.alloc (.cells #[.slice Aa na ca,.slice Ac nc cc] 46)).alloc (.cells #[.map (some b)] 33)).alloc (.cells #[.func (.func fid) #[] caps] 126))=w1 at *
 have a0:=ka.cell (i:=0) (by simp);have a1:=ka.cell (i:=1) (by simp);have d0:=kd.cell (i:=0) (by simp)
 simp only[ja,je]at a0 a1 d0
 have HX1:=zO hx;have HKA:=zO ka;have HKD:=zO kd;have HKV:=zO kv
 have hlt:=kv.lt
 clear hx ka kd kv
 go_wp2_with fail
 refine(HVAL.out _ HX1.out).mono ?_
 rintro e w2 ⟨rfl,he2⟩
 have hx2:=HX1.out.trans he2
 have HX2:=zO hx2;have HKA2:=zO (HKA.out.ext he2);have HKD2:=zO (HKD.out.ext he2);have HKV2:=zO (HKV.out.ext he2)
 have hw2:=he2.size
 clear a0 a1 d0 he2
 by_cases h0:ev=0
 ·subst h0
  have hv0:validE M r=0:=HEV.out.symm
  have a0:=HKA2.out.cell (i:=0) (by simp);have a1:=HKA2.out.cell (i:=1) (by simp);have d0:=HKD2.out.cell (i:=0) (by simp)
  simp only[ja,je]at a0 a1 d0
  obtain⟨n,hn⟩:∃n,n=(varsC r).length:=⟨_,rfl⟩
  rw[←hn]at hvl
  have HVN:=zO hn;have HV0:=zO hv0
  clear hv0
  go_wp2_with fail
  refine(HVARS.out _ hx2).mono ?_
  rintro e w3 ⟨y,rfl,he3,hown⟩
  obtain⟨Av,cv,rfl⟩:=own_slice hown
  rw[←hn]at hown ⊢
  have hx3:=hx2.trans he3
  have hvs:=Strs.ofn hown (Ext.refl _)
  have hvl2:(varsC r).length≤100000:=by have:=HVN.out;omega
  have HPLAN:=zO (plan_any (HA.out.ext hx3) (HC.out.ext hx3) ((HD.out.mono (G:=fun k=>F k∧k<w.heap.size) (fun k h1 h2=>⟨h2,h1⟩)).ext hx3) hvs (safe_of HV0.out) (fun a ha=>(atom_rows HDO.out HV0.out ha).1) (fun a ha=>(atom_rows HDO.out HV0.out ha).2.1) (fun a ha=>(atom_rows HDO.out HV0.out ha).2.2.1) (valid_parts HV0.out).2.2 HZ.out (rlB_vars HZ.out) (by have:=HB0.out;omega) HB1.out HB2.out hvl2 (HTAB.out.fore (HT.out.trans hx3)))
  have HX3:=zO hx3;have HKA3:=zO (HKA2.out.ext he3);have HKD3:=zO (HKD2.out.ext he3);have HKV3:=zO (HKV2.out.ext he3)
  have b0:=HKA3.out.cell (i:=0) (by simp);have b1:=HKA3.out.cell (i:=1) (by simp);have e0:=HKD3.out.cell (i:=0) (by simp)
  simp only[ja,je]at b0 b1 e0
  have hw3:=he3.size
  clear hn hown hvs hx2 hx3 he3 a0 a1 d0
  go_wp2_with fail
  refine HPLAN.out.mono ?_
  rintro e w4 ⟨he4,SS,cs,FF,cf,rfl,hsS,hsF⟩
  obtain⟨ns,hns⟩:∃k,k=(smF (varsC r) M r).length:=⟨_,rfl⟩
  obtain⟨nf,hnf⟩:∃k,k=((negK (varsC r) r 0).map (ngOf (varsC r) M)).length:=⟨_,rfl⟩
  rw[←hns]at hsS ⊢
  rw[←hnf]at hsF ⊢
  have hx4:=HX3.out.trans he4
  have hmk:=make_vals n (by omega)
  have hsS2:=hsS.mono (G:=fun q=>((F q∧q<w.heap.size)∨w.heap.size≤q)∧q<w4.heap.size) (by decide) (fun q hq h2=>⟨h2.imp_right (fun h3=>by have:=HX3.out.size;omega),hq⟩)
  have HSS:=zO hsS2;have HSF:=zO hsF;have HX4:=zO hx4;have HKA4:=zO (HKA3.out.ext he4);have HKV4:=zO (HKV3.out.ext he4)
  have HNS:=zO hns;have HNF:=zO hnf
  have hw4:=he4.size
  have c1:=HKA4.out.cell (i:=1) (by simp)
  simp only[ja,je]at c1
  clear hns hnf hsS hsS2 hsF hx4 he4 b0 b1 e0
  go_upto_region 8 with fail
  have k4:=four_blk w4 215 51 74 222 [.slice SS ns cs] (vcells (zRow n)) [.slice (some ⟨w4.heap.size+1,0,none⟩) n n] [.func (.func 115) #[] #[.pointer (some ⟨w4.heap.size+1+1,0,none⟩)]]
  change Bk ((((w4.alloc (.cells #[.slice SS ns cs] 215)).alloc (.cells (vcells (zRow n)).toArray 51)).alloc (.cells #[.slice (some ⟨w4.heap.size+1,0,none⟩) n n] 74)).alloc (.cells #[.func (.func 115) #[] #[.pointer (some ⟨w4.heap.size+1+1,0,none⟩)]] 222)) _ _ _∧Bk ((((w4.alloc (.cells #[.slice SS ns cs] 215)).alloc (.cells (vcells (zRow n)).toArray 51)).alloc (.cells #[.slice (some ⟨w4.heap.size+1,0,none⟩) n n] 74)).alloc (.cells #[.func (.func 115) #[] #[.pointer (some ⟨w4.heap.size+1+1,0,none⟩)]] 222)) _ _ _∧Bk ((((w4.alloc (.cells #[.slice SS ns cs] 215)).alloc (.cells (vcells (zRow n)).toArray 51)).alloc (.cells #[.slice (some ⟨w4.heap.size+1,0,none⟩) n n] 74)).alloc (.cells #[.func (.func 115) #[] #[.pointer (some ⟨w4.heap.size+1+1,0,none⟩)]] 222)) _ _ _∧Bk ((((w4.alloc (.cells #[.slice SS ns cs] 215)).alloc (.cells (vcells (zRow n)).toArray 51)).alloc (.cells #[.slice (some ⟨w4.heap.size+1,0,none⟩) n n] 74)).alloc (.cells #[.func (.func 115) #[] #[.pointer (some ⟨w4.heap.size+1+1,0,none⟩)]] 222)) _ _ _ at k4
  have hx5:Ext w4 ((((w4.alloc (.cells #[.slice SS ns cs] 215)).alloc (.cells (vcells (zRow n)).toArray 51)).alloc (.cells #[.slice (some ⟨w4.heap.size+1,0,none⟩) n n] 74)).alloc (.cells #[.func (.func 115) #[] #[.pointer (some ⟨w4.heap.size+1+1,0,none⟩)]] 222)):=((((Ext.refl w4).alloc _).alloc _).alloc _).alloc _
  replace c1:=hx5.cell c1
  generalize ((((w4.alloc (.cells #[.slice SS ns cs] 215)).alloc (.cells (vcells (zRow n)).toArray 51)).alloc (.cells #[.slice (some ⟨w4.heap.size+1,0,none⟩) n n] 74)).alloc (.cells #[.func (.func 115) #[] #[.pointer (some ⟨w4.heap.size+1+1,0,none⟩)]] 222))=w5 at *
  obtain⟨kS,kx,kX,kE⟩:=k4
  obtain⟨gE,hgE⟩:∃g,g=w4.heap.size+1+1+1:=⟨_,rfl⟩
  obtain⟨gX,hgX⟩:∃g,g=w4.heap.size+1+1:=⟨_,rfl⟩
  obtain⟨gx,hgx⟩:∃g,g=w4.heap.size+1:=⟨_,rfl⟩
  obtain⟨gS,hgS⟩:∃g,g=w4.heap.size:=⟨_,rfl⟩
  rw[←hgE]at kE ⊢
  rw[←hgX]at kX kE ⊢
  rw[←hgx]at kx kX ⊢
  rw[←hgS]at kS ⊢
  have hlE:=kE.lt
  have hgg:w4.heap.size≤gS∧gS<gx∧gx<gX∧gX<gE:=by omega
  have hzl:(zRow n).length=n:=by simp[zRow]
  have hbad:((negK (varsC r) r 0).map (ngOf (varsC r) M)).any (ngB (zRow n))=badK M (varsC r) r 0 (zRow n):=bad_any (safe_of HV0.out) 0 (zRow n)
  have hCT:=contains_ng kX (row_bk kx hzl) (HSF.out.ext hx5) (fun g hg=>by
   obtain⟨a,ha,rfl⟩:=jE.1 hg
   have h2:=(jA.1 (jA.1 ha).1).1
   rw[HVN.out]
   exact ng_ok HDO.out HV0.out h2 (HB1.out a h2)) (by rw[HNF.out,jm];exact js (jG _ _) (js (jG _ _) (by have:=HB0.out;omega))) (show n≤1048576 by omega)
  rw[hbad]at hCT
  have HCT:=zO hCT
  obtain⟨z1,hz1⟩:∃z,z=badK M (varsC r) r 0 (zRow n):=⟨_,rfl⟩
  rw[←hz1]at HCT
  have HZ1:=zO hz1
  have HX5:=zO (HX4.out.trans hx5);have HKS:=zO kS;have HKx:=zO kx;have HKX:=zO kX;have HKE:=zO kE;have HKV5:=zO (HKV4.out.ext hx5)
  have HSS5:=zO (HSS.out.ext hx5)
  have m0:=kE.cell (i:=0) (by simp)
  simp only[ja]at m0
  have hw5:=hx5.size
  clear hmk hgE hgX hgx hgS hbad hCT hz1 hx5 kS kx kX kE
  go_wp2_with fail
  refine HCT.out.mono ?_
  rintro e w6 ⟨y9,rfl,he6,rfl⟩
  have hx6:=HX5.out.trans he6
  replace c1:=he6.cell c1
  have HX6:=zO hx6;have HKS6:=zO (HKS.out.ext he6);have HKx6:=zO (HKx.out.ext he6);have HKX6:=zO (HKX.out.ext he6);have HKE6:=zO (HKE.out.ext he6);have HKV6:=zO (HKV5.out.ext he6);have HSS6:=zO (HSS5.out.ext he6)
  have hw6:=he6.size
  have HNONE:Hid (∀V,Ext w V→(firstB M (varsC r) r (zRow n)=true)→PP (.returned (.int .i64 0)) V):=zO (fun V hV hf=>HPOST.out V [] O (by rw[zL];exact(HV.out w.heap.size (w.heap.size+1) (jq _) (Nat.lt_succ_self _)).keep HS.out (hV.fr (fun _=>False)) (fun _ h=>h.elim)) (hV.fr _) (fun q hq=>.inl hq) (.inr ⟨by trivial,List.nodup_nil,fun z=>by
   constructor
   ·intro h;simp at h
   ·rintro⟨-,h⟩
    exact absurd h (first_none (safe_of HV0.out) hf z)⟩))
  clear hx6 he6 m0
  rcases z1 with _|_
  ·have hCN:=contains_nm (HC.out.ext HX6.out) (by
    have:=(HC.out.cap).1
    have:=HB2.out
    omega)
   obtain⟨z2,hz2⟩:∃z,z=r.cds.any nmB:=⟨_,rfl⟩
   rw[←hz2]at hCN
   have HCN:=zO hCN
   have HFB:Hid (firstB M (varsC r) r (zRow n)=z2):=zO (by
    unfold firstB
    rw[←HZ1.out,Bool.false_or,hz2]
    rfl)
   clear hz2 hCN
   go_wp2_with fail
   refine HCN.out.mono ?_
   rintro e w7 ⟨y9,rfl,he7,rfl⟩
   rcases z2 with _|_
   ·have hx7:=HX6.out.trans he7
    have HX7:=zO hx7;have HKS7:=zO (HKS6.out.ext he7);have HKx7:=zO (HKx6.out.ext he7);have HKX7:=zO (HKX6.out.ext he7);have HKE7:=zO (HKE6.out.ext he7);have HKV7:=zO (HKV6.out.ext he7);have HSS7:=zO (HSS6.out.ext he7)
    have hw7:=he7.size
    clear hx7 he7 c1
    go_upto_region 11 with fail
    have kF:=Bk.new w7 226 [.nilFunc]
    change Bk (w7.alloc (.cells #[.nilFunc] 226)) _ _ _ at kF
    have hx8:Ext w7 (w7.alloc (.cells #[.nilFunc] 226)):=(Ext.refl w7).alloc _
    generalize (w7.alloc (.cells #[.nilFunc] 226))=w8 at *
    obtain⟨gF,hgF⟩:∃g,g=w7.heap.size:=⟨_,rfl⟩
    rw[←hgF]at kF ⊢
    have hlF:=kF.lt
    have hgF7:w7.heap.size≤gF:=by omega
    have kF2:=kF.set 0 (.func (.func 120) #[] #[.pointer (some ⟨gS,0,none⟩),.pointer (some ⟨w.heap.size+1+1,0,none⟩),.pointer (some ⟨gX,0,none⟩),.pointer (some ⟨gE,0,none⟩),.pointer (some ⟨gF,0,none⟩)])
    have hf9:Fr (fun q=>q=gF) w8 (w8.setCell ⟨gF,0,none⟩ (.func (.func 120) #[] #[.pointer (some ⟨gS,0,none⟩),.pointer (some ⟨w.heap.size+1+1,0,none⟩),.pointer (some ⟨gX,0,none⟩),.pointer (some ⟨gE,0,none⟩),.pointer (some ⟨gF,0,none⟩)])):=(Fr.refl (fun q=>q=gF) w8).setCell (p:=⟨gF,0,none⟩) (.inl rfl) _
    have hx9:Ext w7 (w8.setCell ⟨gF,0,none⟩ (.func (.func 120) #[] #[.pointer (some ⟨gS,0,none⟩),.pointer (some ⟨w.heap.size+1+1,0,none⟩),.pointer (some ⟨gX,0,none⟩),.pointer (some ⟨gE,0,none⟩),.pointer (some ⟨gF,0,none⟩)])):=hf9.new hx8 (fun q e=>by omega)
    obtain⟨v0,hv0⟩:∃u,w8.cell? ⟨gF,0,none⟩=some u:=⟨_,kF.cell (by simp)⟩
    have f0:=kF.free 0
    have HKF:=zO kF2
    have hsz9:=hf9.size
    have HX9:=zO (HX7.out.trans hx9);have HKS9:=zO (HKS7.out.ext hx9);have HKx9:=zO (HKx7.out.ext hx9);have HKX9:=zO (HKX7.out.ext hx9);have HKE9:=zO (HKE7.out.ext hx9);have HKV9:=zO (HKV7.out.ext hx9);have HSS9:=zO (HSS7.out.ext hx9)
    clear kF hx8 hgF kF2 hf9 hx9
    go_upto_region 12 with fail
    generalize (w8.setCell ⟨gF,0,none⟩ (.func (.func 120) #[] #[.pointer (some ⟨gS,0,none⟩),.pointer (some ⟨w.heap.size+1+1,0,none⟩),.pointer (some ⟨gX,0,none⟩),.pointer (some ⟨gE,0,none⟩),.pointer (some ⟨gF,0,none⟩)]))=w9 at *
    clear hv0 f0
    have p0:=HKF.out.cell (i:=0) (by simp)
    simp only[jh,ja]at p0
    have hwn:w.heap.size+1+1<w1.heap.size:=hlt
    have hI:ExI ⟨gS,w.heap.size+1+1,gX,gE,gF,gx⟩ (.func (.func fid) #[] caps) wT (fun q=>((F q∧q<w.heap.size)∨w.heap.size≤q)∧q<w9.heap.size∧q≠gx) w9.heap.size n (smF (varsC r) M r) SS cs w9 O (zRow n):=by
     have hnO:∀q,w.heap.size≤q→¬O q:=fun q hq h=>by have:=HOL.out q h;omega
     refine⟨by rw[←HNS.out];exact HKS9.out,HKV9.out,HKX9.out,HKE9.out,by simpa using HKF.out,?_,HKx9.out,hzl,zRow_ok n,fun q hq=>⟨fun h=>?_,hq.2.2,hq.2.1⟩,hnO _ (by show w.heap.size≤gS;omega),hnO _ (by show w.heap.size≤w.heap.size+1+1;omega),hnO _ (by show w.heap.size≤gX;omega),hnO _ (by show w.heap.size≤gE;omega),hnO _ (by show w.heap.size≤gF;omega),hnO _ (by show w.heap.size≤gx;omega),jq _,⟨by show gS<_;omega,by show w.heap.size+1+1<_;omega,by show gX<_;omega,by show gE<_;omega,by show gF<_;omega,by show gx<_;omega⟩,HT.out.trans HX9.out,HOT.out,by show wT.heap.size≤gx;have:=HT.out.size;omega⟩
     ·rw[←HNS.out]
      exact HSS9.out.mono (by decide) (fun q hq h2=>⟨h2.1,hq,by have:=h2.2;omega⟩)
     ·rcases hq.1 with h1|h1
      ·exact HFO.out q h1.1 h1.2 h
      ·exact hnO q h1 h
    have hvis:=HV.out gx w9.heap.size (by omega) (by omega)
    rw[←HVN.out]at hvis
    have hpl:=plan_all (M:=M) (safe_of HV0.out) (fun a ha x hx=>((atom_rows HDO.out HV0.out ha).2.1 x hx).1) (fun a ha=>so_nodup (atom_rows HDO.out HV0.out ha).2.2.2) (y:=zRow n) (by rw[hzl,HVN.out]) HFB.out
    have hcall:=extend_any (c:=⟨gS,w.heap.size+1+1,gX,gE,gF,gx⟩) eg hvis (by rw[HVN.out];exact sm_ok HDO.out HV0.out (by have:=HB0.out;omega) HB1.out) (by omega) (js smF_len (by have:=HB0.out;omega)) HTAB.out ns 0 (by rw[HNS.out];omega) L O (zRow n) w9 hI (hvis.keep HS.out (HX9.out.fr (fun _=>False)) (fun _ h=>h.elim)) (by rw[List.drop_zero,smF_plan (safe_of HV0.out)];exact HNB.out HV0.out _ hpl.1 hpl.2)
    rw[List.drop_zero,smF_plan (safe_of HV0.out)]at hcall
    have HCALL:=zO hcall
    clear hI hvis hcall
    have hcall0:Calls Tryz.prog 120 #[.int .i64 0,.pointer (some ⟨gS,0,none⟩),.pointer (some ⟨w.heap.size+1+1,0,none⟩),.pointer (some ⟨gX,0,none⟩),.pointer (some ⟨gE,0,none⟩),.pointer (some ⟨gF,0,none⟩)] w9 _:=HCALL.out
    have HC0:=zO hcall0
    have HPL:=zO hpl
    clear hcall0 hpl HCALL
    go_wp2_with fail
    refine HC0.out.mono ?_
    rintro e w10 ⟨rfl,O',hS',-,hfr,hO'⟩
    have HP:=zO (HPOST.out w10 _ O' hS' (Fr.comp (HX9.out.fr O) hfr (fun q hq=>hq.imp_right (fun e=>by rw[e];show w.heap.size≤gx;omega))) (fun q hq=>(hO' q hq).imp_right (fun h=>by have:=HX9.out.size;omega)) (.inr ⟨by trivial,HPL.out.1,HPL.out.2⟩))
    clear hS' hfr hO'
    go_wp2_with fail
    exact HP.out
   ·have HP:=zO (HNONE.out w7 (HX6.out.trans he7) HFB.out)
    clear he7 c1
    go_wp2_with fail
    exact HP.out
  ·have HP:=zO (HNONE.out w6 HX6.out (by unfold firstB;rw[←HZ1.out];rfl))
   clear c1
   go_wp2_with fail
   exact HP.out
 ·have g0:(ev != 0)=true:=bne_iff_ne.2 h0
  have hp:=HPOST.out w2 [] O (by rw[zL];exact(HV.out w.heap.size (w.heap.size+1) (jq _) (Nat.lt_succ_self _)).keep HS.out (hx2.fr (fun _=>False)) (fun _ h=>h.elim)) (hx2.fr _) (fun q hq=>.inl hq) (.inl ⟨h0,rfl⟩)
  have HP:=zO hp
  clear hp h0 hx2
  go_wp2_with fail
  exact HP.out
end Go.Proofs.YtplldnnnhgnbjaaGreatDoor
namespace Go.Proofs.YtplldnnnhgnbjaaGreatDoor
open Go.RowKit Go.Maps
def NamesOf(M:Dm)(l:List ByteArray):Prop:=l.Nodup∧∀s,s∈l↔(M s).isSome=true
theorem findS_schL{M:Dm}{l:List ByteArray}(h:∀s,s∈l↔(M s).isSome=true)(s:ByteArray):findS (schL M l) s=(M s).map (fun x=>⟨s,x.kinds⟩):=by
 have hk:∀l:List ByteArray,findS (schL M l) s=if s∈l then some ⟨s,kdsOf M s⟩ else none:=by
  intro l
  induction l with
  | nil=>rfl
  | cons a l ih =>
   unfold findS schL at ih ⊢
   rw[zf,List.find?_cons]
   by_cases e:a=s
   ·subst e
    simp
   ·have:decide (a=s)=false:=decide_eq_false e
    simp only[this]
    rw[ih]
    have h2:s∈a::l↔s∈l:=by
     rw[jC]
     exact⟨fun h=>h.elim (fun h=>absurd h.symm e) id,.inr⟩
    simp only[h2]
 rw[hk]
 unfold kdsOf
 rcases hm:M s with _|x
 ·rw[if_neg]
  ·rfl
  ·rw[h s,hm]
   simp
 ·rw[if_pos ((h s).2 (by rw[hm];rfl))]
  rfl
theorem checkE_congr{ss ss':List Sc}(h:∀s,findS ss s=findS ss' s)(q:Qy):checkE ss q=checkE ss' q:=by
 have h1:kindA ss=kindA ss':=by
  funext m a
  unfold kindA
  rw[h]
 have h2:∀r,inferX ss r=inferX ss' r:=fun r=>by unfold inferX;rw[h1]
 have h3:∀r,kmOf ss r=kmOf ss' r:=fun r=>by unfold kmOf;rw[h2]
 unfold checkE
 simp only[h2,h3]
theorem check_names{M:Dm}{l l':List ByteArray}(h:NamesOf M l)(h':NamesOf M l')(q:Qy):checkE (schL M l) q=checkE (schL M l') q:=checkE_congr (fun s=>by rw[findS_schL h.2,findS_schL h'.2]) q
def TyM(M:Dm)(κ : ByteArray→Int)(a:At):Prop:=∃x,M a.rel=some x∧a.terms.length=x.kinds.length∧∀p∈a.terms.zip x.kinds,TyT κ p
theorem tyA_M{M:Dm}{l:List ByteArray}(h:NamesOf M l){κ : ByteArray→Int}{a:At}:TyA (schL M l) κ a↔TyM M κ a:=by
 unfold TyA TyM
 rw[findS_schL h.2]
 rcases M a.rel with _|x
 ·simp
 ·simp
def TyRM(M:Dm)(κ : ByteArray→Int)(r:Rl):Prop:=(∀a∈r.ats,TyM M κ a)∧(∀c∈r.cds,c.kind=κ c.var)∧∀a∈r.ats,a.neg=true→∃b∈r.ats,b.neg=false∧covB a b=true
def ChkM(M:Dm)(q:Qy):Prop:=AstOk q∧∃K:ByteArray→Int,∀r∈q.rs,∃κ,TyRM M κ r∧(∀v∈q.hd,κ v=K v)∧(q.ag=2→κ q.av=1)
theorem check_M{M:Dm}{l:List ByteArray}(h:NamesOf M l){q:Qy}:checkE (schL M l) q=0↔ChkM M q:=by
 rw[check_iff]
 unfold ChkOk ChkM TyR TyRM
 simp only[tyA_M h]
theorem cond_parts{c:Cd}(h:condE c=0):nameB c.var=true∧(0≤c.op∧c.op≤5)∧valB c.kind c.int c.str=true:=by
 unfold condE at h
 by_cases h1:nameB c.var=true
 ·rw[if_pos h1]at h
  by_cases h2 : 0≤c.op∧c.op≤5
  ·rw[if_pos h2]at h
   by_cases h3:valB c.kind c.int c.str=true
   ·exact⟨h1,h2,h3⟩
   ·rw[if_neg h3]at h
    cases h
  ·rw[if_neg h2]at h
   cases h
 ·rw[if_neg h1]at h
  cases h
theorem bound_pos{r:Rl}{v:ByteArray}(h:boundB r v=true):posV r v=true:=by
 unfold boundB at h
 rw[Bool.and_eq_true]at h
 exact h.2
theorem mem_varsC{r:Rl}{v:ByteArray}:v∈varsC r↔v≠⟨#[]⟩∧((∃a∈r.ats,∃t∈a.terms,t.var=v)∨∃c∈r.cds,c.var=v):=by
 rw[varsC_eq,varsT_iff]
 constructor
 ·rintro⟨t,ht,e,h0⟩
  refine⟨h0,?_⟩
  rcases jp.1 ht with ht|ht
  ·obtain⟨a,ha,ht⟩:=allT_iff.1 ht
   exact .inl ⟨a,ha,t,ht,e⟩
  ·obtain⟨c,hc,rfl⟩:=jE.1 ht
   exact .inr ⟨c,hc,e⟩
 ·rintro⟨h0,⟨a,ha,t,ht,e⟩|⟨c,hc,e⟩⟩
  ·exact⟨t,jJ _ (allT_iff.2 ⟨a,ha,ht⟩),e,h0⟩
  ·exact⟨cdT c,jR _ (jE.2 ⟨c,hc,rfl⟩),e,h0⟩
theorem varsC_nodup(r:Rl):(varsC r).Nodup:=by rw[varsC_eq];exact varsT_nodup _
theorem pos_occ{r:Rl}{v:ByteArray}(h:boundB r v=true):v∈varsC r:=by
 obtain⟨a,ha,t,ht,e,h0⟩:=bound_occ h
 exact mem_varsC.2 ⟨h0,.inl ⟨a,ha,t,ht,e⟩⟩
theorem chk_valid{M:Dm}{q:Qy}(h:ChkM M q){r:Rl}(hr:r∈q.rs):validE M r=0∧RuleOk (needV q.hd q.av) r∧∀s∈q.hd,s∈varsC r:=by
 obtain⟨hA,K,hK⟩:=h
 obtain⟨κ,h1,-,-⟩:=hK r hr
 have hr:=hA.rs r hr
 refine⟨?_,hr,fun s hs=>pos_occ (hr.bd s (.inl (by unfold needV;split;exact hs;exact jJ _ hs)))⟩
 have ha:firstE (atomV M) r.ats=0:=firstE_zero.2 (fun a ha=>by
  obtain⟨x,k1,k2,-⟩:=h1.1 a ha
  unfold atomV
  rw[k1]
  exact if_pos k2)
 unfold validE
 rw[if_pos ha,if_pos (jz.2 (fun v hv=>bound_pos (hr.bd v (.inr hv))))]
 refine firstE_zero.2 (fun c hc=>?_)
 obtain⟨-,h2,h3⟩:=cond_parts (hr.cd c hc)
 unfold condV
 rw[if_neg (by omega),if_pos h3]
theorem len_sub:∀{l m:List ByteArray},l.Nodup→(∀x∈l,x∈m)→l.length≤m.length
 | [],_,_,_=>jn _
 | a::l,m,hl,h=>by
  have h1:=zM.1 hl
  have ha:=h a (by simp)
  have h2:=len_sub (l:=l) (m:=m.filter (fun x=>decide (x≠a))) h1.2 (fun x hx=>jA.2 ⟨h x (jr _ hx),decide_eq_true (fun e=>h1.1 (by rw[←e];exact hx))⟩)
  have h3:(m.filter (fun x=>decide (x≠a))).length<m.length:=List.length_filter_lt_length_iff_exists.2 ⟨a,ha,by simp⟩
  rw[jD]
  omega
end Go.Proofs.YtplldnnnhgnbjaaGreatDoor
namespace Go.Proofs.YtplldnnnhgnbjaaGreatDoor
open Go.RowKit Go.Maps
set_option maxRecDepth 20000 in
theorem insort_none{w:World}{A:Option Addr}{c:Nat}{f:Value} :
  Calls Tryz.prog 188 #[.slice A 0 c,.int .i64 0,.int .i64 0,f] w (fun e w'=>e=.returned (.tuple #[])∧w=w'):=by
 go_enter Tryz.func188,Tryz.ntmps188
 go_wp2_with fail
 go_loopw [8] (fun t wr=>t=.int .i64 1∧w=wr) (fun _ _=>0)
 case atStart=>exact⟨by trivial,by trivial⟩
 case round =>
  obtain⟨rfl,rfl⟩:=hrel
  go_wp2_with fail
  exact bodyPost_end (by simp[results,Tryz.results188,go_sem]) rfl ⟨rfl,rfl⟩
set_option maxRecDepth 20000 in
theorem pdq_none{w:World}{A:Option Addr}{c:Nat}{l:Int}{f:Value} :
  Calls Tryz.prog 122 #[.slice A 0 c,.int .i64 0,.int .i64 0,.int .i64 l,f] w (fun e w'=>e=.returned (.tuple #[])∧w=w'):=by
 go_enter Tryz.func122,Tryz.ntmps122
 go_wp2_with fail
 go_loopw [1,2] (fun a b wr=>a=.int .i64 0∧b=.int .i64 0∧w=wr) (fun _ _ _=>0)
 case atStart=>exact⟨by trivial,by trivial,by trivial⟩
 case round =>
  obtain⟨rfl,rfl,rfl⟩:=hrel
  go_wp2_with fail
  refine insort_none.mono ?_
  rintro e w' ⟨rfl,rfl⟩
  go_wp2_with fail
  exact bodyPost_ret (v:=.tuple #[]) (by simp[results,Tryz.results122,go_sem]) rfl ⟨rfl,rfl⟩
set_option maxRecDepth 20000 in
theorem sort_none{w:World}{A:Option Addr}{c:Nat}{f:Value} :
  Calls Tryz.prog 53 #[.slice A 0 c,f] w (fun e w'=>e=.returned (.tuple #[])∧w=w'):=by
 go_enter Tryz.func53,Tryz.ntmps53
 go_wp2_with fail
 refine(Tryz.bits_Len 0 w (by decide) (by decide)).mono ?_
 rintro e w' ⟨rfl,rfl⟩
 go_wp2_with fail
 refine pdq_none.mono ?_
 rintro e w' ⟨rfl,rfl⟩
 go_wp2_with fail
 exact bodyPost_end (by simp[results,Tryz.results53,go_sem]) rfl ⟨rfl,rfl⟩
end Go.Proofs.YtplldnnnhgnbjaaGreatDoor
