/- packed -/
import Derived.Test.YtplldnnnhgnbjaaGreatDoorMu46
import Derived.Test.YtplldnnnhgnbjaaGreatDoorMu47
import Derived.Test.YtplldnnnhgnbjaaGreatDoorCards
import Derived.Test.YtplldnnnhgnbjaaGreatDoorTie
import Derived.Lib.LaidTab
namespace Go.Proofs.YtplldnnnhgnbjaaGreatDoor
open Go.RowKit Go.Maps
structure RwG{α : Type}(r:Rdg α)(F:Nat→Prop)(w:World)(base:Nat)(E:TypeId)(v:Value)(n:Nat)(xs:List α)(css:List (List Value)):Prop where
 len:css.length=xs.length
 own:w.ownsRow base E r.sz v n css.flatten
 rd:∀i (h:i<xs.length) (h':i<css.length),r.R F w css[i] xs[i]
 sep:∀k,F k→v.ownBlock≠some k∧k<w.heap.size
section
variable {α : Type} {r:Rdg α} {F F' S:Nat→Prop} {w w' wb w9:World} {base n:Nat} {E:TypeId} {v v9:Value} {xs:List α} {css:List (List Value)} {cs:List Value} {x : α}
theorem own_num{sz:Nat}(hs : 0<sz)(h:w.ownsRow base E sz v n css.flatten)(hl:∀cs∈css,cs.length=sz):n=css.length:=by
 have h1:=h.1
 rw[flat_len hl]at h1
 exact(Nat.mul_right_cancel hs h1).symm
theorem RwG.sl{G:Nat→Prop}(h:RwG r F w base E v n xs css)(hp : 0<r.sz)(hG:∀k,v.ownBlock=some k→G k)(hF:∀k,F k→G k):Sl r G w v xs:=by
 have hall:∀cs∈css,cs.length=r.sz:=fun cs hcs=>by
  obtain⟨i,hi,rfl⟩:=jv hcs
  exact r.len (h.rd i (by rw[←h.len];exact hi) hi)
 have hn:=own_num hp h.own hall
 obtain⟨hl,ho,hr,-⟩:=h
 rw[hl]at hn
 subst hn
 rcases ho.2 with ⟨e,h0⟩|⟨g,cap,cur,e,k1,k2,k3,k4,k5,k6⟩
 ·subst e
  have hx:xs=[]:=jS h0
  subst hx
  exact Sl.nil _ _ _
 ·subst e
  refine⟨_,_,rfl,k3,fun i hi=>?_⟩
  have hi':i<css.length:=by omega
  have hlen:css[i].length=r.sz:=hall _ (jg hi')
  refine⟨_,css[i],rfl,hG g rfl,r.mono (hr i hi hi') (fun k _ hk=>hF k hk),fun j hj=>?_⟩
  rw[add_zero']
  have h1:=flat_get hall hi' (j:=j) (by omega)
  rw[jk hj,←k6]at h1
  have h9:cur.toList[i*r.sz+j]?=some css[i][j]:=by
   rw[List.getElem?_take]at h1
   split at h1
   ·exact h1
   ·cases h1
  rw[Array.getElem?_toList]at h9
  simp[World.cell?,k2,h9]
end
end Go.Proofs.YtplldnnnhgnbjaaGreatDoor
namespace Go.Proofs.YtplldnnnhgnbjaaGreatDoor
open Go.RowKit Go.Maps
structure LawIn(F G H:Nat→Prop)(w:World)(S U A B O:Option Addr)(ns cs nu cu ca cb co:Nat)(ss:List Sc)(us:List Up)(q:Qy):Prop where
 s:Sl rdSc F w (.slice S ns cs) ss
 u:Sl rdUp G w (.slice U nu cu) us
 qr:QyR H w A ca B cb O co q
 n:∀r∈q.rs,RlN r
 z:QyZ q
 ul:us.length≤9223372036854775807
 ur:∀u∈us,u.row.length≤9223372036854775807
 rl:q.rs.length≤9223372036854775807
 sz:∀x∈ss,x.name.size≤maxLen
 sk:∀x∈ss,x.kinds.length≤maxLen
 uz:∀u∈us,u.rel.size≤maxLen∧∀v∈u.row,v.str.size≤maxLen
 tab:TabE w
section
variable {F G H:Nat→Prop} {w w':World} {S U A B O:Option Addr} {ns cs nu cu ca cb co:Nat} {ss:List Sc} {us:List Up} {q:Qy}
theorem LawIn.ext(h:LawIn F G H w S U A B O ns cs nu cu ca cb co ss us q)(he:Ext w w'):LawIn F G H w' S U A B O ns cs nu cu ca cb co ss us q :=
 { h with s:=h.s.ext he,u:=h.u.ext he,qr:=h.qr.ext he,tab:=fun V hV=>h.tab V (he.trans hV) }
theorem LawIn.great(h:LawIn F G H w S U A B O ns cs nu cu ca cb co ss us q):Calls Tryz.prog 10 #[.slice S ns cs,.slice U nu cu,.agg #[.slice A q.hd.length ca,.int .i64 q.ag,.string q.av,.slice B q.rs.length cb,.slice O q.od.length co]] w (NoP (SmallI ss us q) w) :=
 great_any h.s h.u h.qr h.n h.ul h.ur h.rl
theorem LawIn.database(h:LawIn F G H w S U A B O ns cs nu cu ca cb co ss us q)(k:SmallI ss us q):Calls Tryz.prog 12 #[.slice S ns cs,.slice U nu cu] w (DatabasePost ss us w) :=
 database_any h.s h.u (by rw[h.s.cap.1];exact k.s) (by rw[h.u.cap.1];exact k.u) h.sz h.sk k.v (fun u hu=>⟨(h.uz u hu).1,js (h.ur u hu) (by simp only[maxLen];omega),(h.uz u hu).2⟩)
theorem LawIn.awake(h:LawIn F G H w S U A B O ns cs nu cu ca cb co ss us q):Calls Tryz.prog 11 #[] w (Ret (fun x _=>x=.bool true) w):=awake_any h.tab
end
end Go.Proofs.YtplldnnnhgnbjaaGreatDoor
namespace Go.Proofs.YtplldnnnhgnbjaaGreatDoor
open Go.RowKit Go.Maps
open Go.ChangeShapes Go.WideShapes Go.ChangeAt Go.RowKit Go.Joins Go.Deep
theorem gTab:Tryz.prog.globalNamed "internal/strconv.uint64pow10" = some 1:=by kernel_rfl
theorem tab_of{W:World}(h:laidMetH Tryz.prog Rows.modelReordersRow.laid W):TabE W:=by
 have h1:laidMet Tryz.prog [("internal/strconv.uint64pow10",Rows.laid_internal_strconv_uint64pow10)] W:=h.filter (fun x=>x.1 == "internal/strconv.uint64pow10")
 have e:(Rows.laid_internal_strconv_uint64pow10:DataW Unit)=Lib.tabData .u64 Lib.pow10Tab:=by kernel_rfl
 rw[e]at h1
 exact Lib.tabBelow_of_tabIs (Lib.tabIs_of_head (rest:=[]) gTab (by kernel_rfl) Tryz.underlying390 Tryz.underlying87 (by kernel_rfl) (by kernel_rfl) h1)
noncomputable def laidObj(cs:Array Value):Obj→Obj
 | .cells _ t frozen=>.cells cs t frozen
 | o=>o
noncomputable def laidWorld(os:Os):World :=
 { World.holding Tryz.prog os ⟨#[],#[],[]⟩ with heap:=(((World.holding Tryz.prog os ⟨#[],#[],[]⟩).heap.modify 1 (laidObj #[.int .u64 1,.int .u64 10,.int .u64 100,.int .u64 1000,.int .u64 10000,.int .u64 100000,.int .u64 1000000,.int .u64 10000000,.int .u64 100000000,.int .u64 1000000000,.int .u64 10000000000,.int .u64 100000000000,.int .u64 1000000000000,.int .u64 10000000000000,.int .u64 100000000000000,.int .u64 1000000000000000,.int .u64 10000000000000000,.int .u64 100000000000000000,.int .u64 1000000000000000000,.int .u64 10000000000000000000])).modify 2 (laidObj #[.int .u8 0,.int .u8 1,.int .u8 28,.int .u8 2,.int .u8 29,.int .u8 14,.int .u8 24,.int .u8 3,.int .u8 30,.int .u8 22,.int .u8 20,.int .u8 15,.int .u8 25,.int .u8 17,.int .u8 4,.int .u8 8,.int .u8 31,.int .u8 27,.int .u8 13,.int .u8 23,.int .u8 21,.int .u8 19,.int .u8 16,.int .u8 7,.int .u8 26,.int .u8 12,.int .u8 18,.int .u8 6,.int .u8 11,.int .u8 5,.int .u8 10,.int .u8 9])).modify 3 (laidObj #[.int .u8 0,.int .u8 1,.int .u8 56,.int .u8 2,.int .u8 57,.int .u8 49,.int .u8 28,.int .u8 3,.int .u8 61,.int .u8 58,.int .u8 42,.int .u8 50,.int .u8 38,.int .u8 29,.int .u8 17,.int .u8 4,.int .u8 62,.int .u8 47,.int .u8 59,.int .u8 36,.int .u8 45,.int .u8 43,.int .u8 51,.int .u8 22,.int .u8 53,.int .u8 39,.int .u8 33,.int .u8 30,.int .u8 24,.int .u8 18,.int .u8 12,.int .u8 5,.int .u8 63,.int .u8 55,.int .u8 48,.int .u8 27,.int .u8 60,.int .u8 41,.int .u8 37,.int .u8 16,.int .u8 46,.int .u8 35,.int .u8 44,.int .u8 21,.int .u8 52,.int .u8 32,.int .u8 23,.int .u8 11,.int .u8 54,.int .u8 26,.int .u8 40,.int .u8 15,.int .u8 34,.int .u8 20,.int .u8 31,.int .u8 10,.int .u8 25,.int .u8 14,.int .u8 19,.int .u8 9,.int .u8 13,.int .u8 8,.int .u8 7,.int .u8 6]) }
def TrueE(w:World)(e:Ending)(w':World):Prop:=Ext w w'∧e=.returned (.bool true)
theorem len_max{n:Nat}(h:n≤maxLen):n≤9223372036854775807:=by unfold maxLen at h;omega
section
variable {H:Type} {enc:TypeId×Value→H} {W:World} {base:Nat} {fuel:Nat} {cs:List Value} {v:Value} {x:DataW H×List MemPlace}
set_option maxRecDepth 20000
theorem open_atE3(h:DataW.trod enc Tryz.prog W 0 (fun _=>true) true fuel 49 cs=some x):∃a:At,rdAt.R U1 W cs a∧a.rel.size≤maxLen∧TmZ a.terms∧a.terms.length≤maxLen:=by
 obtain⟨xs,n,-,-,hl,hxl,hf⟩:=DataW.trod_struct Tryz.underlying49 h
 have hc3:cs.length=3:=hl.trans (by kernel_rfl)
 match cs,hc3 with
 | [c0,c1,c2],_ =>
  match xs,hxl with
  | [y0,y1,y2],_ =>
   have h0:DataW.trod enc Tryz.prog W 0 (fun _=>true) true n 4 [c0]=some y0:=hf 0 _ rfl
   have h1:DataW.trod enc Tryz.prog W 0 (fun _=>true) true n 9 [c1]=some y1:=hf 1 _ rfl
   have h2:DataW.trod enc Tryz.prog W 0 (fun _=>true) true n 47 [c2]=some y2:=hf 2 _ rfl
   obtain⟨b,e0,-⟩:=DataW.trod_bool Tryz.underlying4 h0
   obtain⟨s,e1,-,hs⟩:=DataW.trod_string Tryz.underlying9 h1
   obtain⟨ts,k1,k9,k2⟩:=open_sl (flatR Tm.cells 4 (fun _=>rfl)) Tryz.underlying47 (by kernel_rfl) (fun t=>t.var.size≤maxLen∧t.str.size≤maxLen) open_tm h2
   injection e0 with e0;injection e1 with e1
   subst e0 e1
   exact⟨⟨b,s,ts⟩,⟨_,rfl,k1.ts⟩,hs,k2,k9⟩
end
end Go.Proofs.YtplldnnnhgnbjaaGreatDoor
namespace Go.Proofs.YtplldnnnhgnbjaaGreatDoor
open Go.RowKit Go.Maps
theorem Sl.news{α : Type}{r:Rdg α}{F:Nat→Prop}{w:World}{ad:Addr}{n c:Nat}{xs:List α}(h:Sl r F w (.slice (some ad) n c) xs)(hp : 0<r.sz):∃css:List (List Value),css.length=xs.length∧css.flatten.length=n*r.sz∧(∀i (h:i<xs.length) (h':i<css.length),r.R F w css[i] xs[i])∧∀j u,css.flatten[j]?=some u→w.cell? (ad.add j)=some u:=by
 have hc:=h.cap.1
 obtain⟨A',c',e,h1,h2⟩:=h
 injection e with e1 e2 e3
 obtain⟨css,k1,k2⟩:=pickL (p:=fun i (cs:List Value)=>∃hi:i<xs.length,r.R F w cs xs[i]∧∀j (h:j<cs.length),w.cell? (ad.add (i*r.sz+j))=some cs[j]) xs.length (fun i hi=>by
  obtain⟨ad',cs,q1,-,q3,q4⟩:=h2 i hi
  rw[←e1]at q1
  injection q1 with q1
  subst q1
  exact⟨cs,hi,q3,q4⟩)
 have hall:∀cs∈css,cs.length=r.sz:=fun cs hcs=>by
  obtain⟨i,hi,rfl⟩:=jv hcs
  obtain⟨_,q,-⟩:=k2 i hi
  exact r.len q
 have hl:=flat_len hall
 refine⟨css,k1,by rw[hl,k1,hc],fun i hi hi'=>(k2 i hi').2.1,fun j u hu=>?_⟩
 have hj:j<css.flatten.length:=by
  rcases jB j css.flatten.length with h|h
  ·exact h
  ·rw[zb h]at hu
   cases hu
 have hdm:j / r.sz*r.sz+j % r.sz=j:=by rw[Nat.mul_comm];exact Nat.div_add_mod j r.sz
 have hm:=Nat.mod_lt j hp
 have hq:j / r.sz<css.length:=by
  rw[hl]at hj
  exact Nat.div_lt_of_lt_mul (by rw[Nat.mul_comm];exact hj)
 have h3:=flat_get hall hq hm
 rw[hdm,hu]at h3
 obtain⟨_,q1,q2⟩:=k2 _ hq
 have hlq:=r.len q1
 have h4:=q2 (j % r.sz) (by omega)
 rw[hdm]at h4
 rw[h4,h3,jk (by omega)]
end Go.Proofs.YtplldnnnhgnbjaaGreatDoor
namespace Go.Proofs.YtplldnnnhgnbjaaGreatDoor
open Go.RowKit Go.Maps
theorem prod_nodup{α β : Type}:∀{A:List α} {B:List β},A.Nodup→B.Nodup→(A.flatMap (fun a=>B.map (fun b=>(a,b)))).Nodup
 | [],_,_,_=>List.nodup_nil
 | a::A,B,hA,hB=>by
  rw[jQ,List.nodup_append]
  have h1:=zM.1 hA
  refine⟨?_,prod_nodup h1.2 hB,fun x hx y hy e=>?_⟩
  ·exact List.Pairwise.map _ (fun x y hxy e=>hxy (Prod.mk.inj e).2) hB
  ·subst e
   obtain⟨b,-,rfl⟩:=jE.1 hx
   obtain⟨a',ha',h⟩:=zB.1 hy
   obtain⟨b',-,e⟩:=jE.1 h
   exact h1.1 ((Prod.mk.inj e).1 ▸ ha')
theorem prod_len{α β : Type}:∀{A:List α} {B:List β},(A.flatMap (fun a=>B.map (fun b=>(a,b)))).length=A.length*B.length
 | [],B=>by simp
 | a::A,B=>by
  rw[jQ,jl,jm,prod_len,jD,zN,Nat.one_mul,Nat.add_comm]
theorem mem_prod{α β : Type}{A:List α}{B:List β}{x : α×β}:x∈A.flatMap (fun a=>B.map (fun b=>(a,b)))↔x.1∈A∧x.2∈B:=by
 obtain⟨a,b⟩:=x
 simp only[zB,jE,Prod.mk.injEq]
 constructor
 ·rintro⟨a',h1,b',h2,rfl,rfl⟩
  exact⟨h1,h2⟩
 ·rintro⟨h1,h2⟩
  exact⟨a,h1,b,h2,rfl,rfl⟩
def bothR(r s:Rl):Rl:=⟨r.ats++s.ats,r.cds++s.cds⟩
theorem both_vars{r s:Rl}{v:ByteArray}:v∈varsC (bothR r s)↔v∈varsC r∨v∈varsC s:=by
 simp only[mem_varsC,bothR,jp]
 constructor
 ·rintro⟨h0,⟨a,ha|ha,h⟩|⟨c,hc|hc,h⟩⟩
  ·exact .inl ⟨h0,.inl ⟨a,ha,h⟩⟩
  ·exact .inr ⟨h0,.inl ⟨a,ha,h⟩⟩
  ·exact .inl ⟨h0,.inr ⟨c,hc,h⟩⟩
  ·exact .inr ⟨h0,.inr ⟨c,hc,h⟩⟩
 ·rintro(⟨h0,⟨a,ha,h⟩|⟨c,hc,h⟩⟩|⟨h0,⟨a,ha,h⟩|⟨c,hc,h⟩⟩)
  ·exact⟨h0,.inl ⟨a,.inl ha,h⟩⟩
  ·exact⟨h0,.inr ⟨c,.inl hc,h⟩⟩
  ·exact⟨h0,.inl ⟨a,.inr ha,h⟩⟩
  ·exact⟨h0,.inr ⟨c,.inr hc,h⟩⟩
theorem validE_iff{M:Dm}{r:Rl}:validE M r=0↔(∀a∈r.ats,atomV M a=0)∧(∀v∈varsC r,posV r v=true)∧∀c∈r.cds,condV c=0:=by
 unfold validE
 constructor
 ·intro h
  by_cases h1:firstE (atomV M) r.ats=0
  ·rw[if_pos h1]at h
   by_cases h2:(varsC r).all (posV r)=true
   ·rw[if_pos h2]at h
    exact⟨firstE_zero.1 h1,fun v hv=>jz.1 h2 v hv,firstE_zero.1 h⟩
   ·rw[if_neg h2]at h
    cases h
  ·rw[if_neg h1]at h
   exact absurd h h1
 ·rintro⟨h1,h2,h3⟩
  rw[if_pos (firstE_zero.2 h1),if_pos (jz.2 h2)]
  exact firstE_zero.2 h3
theorem posV_iff{r:Rl}{v:ByteArray}:posV r v=true↔∃a∈r.ats,a.neg=false∧∃t∈a.terms,t.var=v:=by
 unfold posV posT
 rw[jL]
 constructor
 ·rintro⟨t,ht,e⟩
  obtain⟨a,ha,ht⟩:=zB.1 ht
  rcases hn:a.neg with _|_
  ·rw[hn]at ht
   exact⟨a,ha,hn,t,ht,of_decide_eq_true e⟩
  ·rw[hn,if_pos rfl]at ht
   cases ht
 ·rintro⟨a,ha,hn,t,ht,e⟩
  refine⟨t,zB.2 ⟨a,ha,?_⟩,decide_eq_true e⟩
  rw[hn]
  exact ht
theorem posV_vars{r:Rl}{v:ByteArray}(h:posV r v=true)(h0:v≠⟨#[]⟩):v∈varsC r :=
 let ⟨a,ha,_,t,ht,e⟩:=posV_iff.1 h
 mem_varsC.2 ⟨h0,.inl ⟨a,ha,t,ht,e⟩⟩
theorem posV_both{r s:Rl}{v:ByteArray}:posV (bothR r s) v=true↔posV r v=true∨posV s v=true:=by
 simp only[posV_iff,bothR,jp]
 constructor
 ·rintro⟨a,ha|ha,h⟩
  ·exact .inl ⟨a,ha,h⟩
  ·exact .inr ⟨a,ha,h⟩
 ·rintro(⟨a,ha,h⟩|⟨a,ha,h⟩)
  ·exact⟨a,.inl ha,h⟩
  ·exact⟨a,.inr ha,h⟩
theorem both_valid{M:Dm}{r s:Rl}(hd:∀v∈varsC r,v ∉ varsC s):validE M (bothR r s)=0↔validE M r=0∧validE M s=0:=by
 simp only[validE_iff]
 constructor
 ·rintro⟨h1,h2,h3⟩
  refine⟨⟨fun a ha=>h1 a (jJ _ ha),fun v hv=>?_,fun c hc=>h3 c (jJ _ hc)⟩,fun a ha=>h1 a (jR _ ha),fun v hv=>?_,fun c hc=>h3 c (jR _ hc)⟩
  ·rcases posV_both.1 (h2 v (both_vars.2 (.inl hv))) with h|h
   ·exact h
   ·exact absurd (posV_vars h (mem_varsC.1 hv).1) (hd v hv)
  ·rcases posV_both.1 (h2 v (both_vars.2 (.inr hv))) with h|h
   ·exact absurd hv (hd v (posV_vars h (mem_varsC.1 hv).1))
   ·exact h
 ·rintro⟨⟨h1,h2,h3⟩,k1,k2,k3⟩
  refine⟨fun a ha=>(jp.1 ha).elim (h1 a) (k1 a),fun v hv=>?_,fun c hc=>(jp.1 hc).elim (h3 c) (k3 c)⟩
  exact posV_both.2 ((both_vars.1 hv).imp (h2 v) (k2 v))
theorem both_satF{M:Dm}{r s:Rl}{σ : ByteArray→Vl}:satF M (bothR r s) σ↔satF M r σ∧satF M s σ:=by
 constructor
 ·rintro⟨h1,h2⟩
  exact⟨⟨fun a ha=>h1 a (jJ _ ha),fun c hc=>h2 c (jJ _ hc)⟩,fun a ha=>h1 a (jR _ ha),fun c hc=>h2 c (jR _ hc)⟩
 ·rintro⟨⟨h1,h2⟩,k1,k2⟩
  exact⟨fun a ha=>(jp.1 ha).elim (h1 a) (k1 a),fun c hc=>(jp.1 hc).elim (h2 c) (k2 c)⟩
theorem rowF_congr{σ τ : ByteArray→Vl}{ts:List Tm}(h:∀t∈ts,t.var≠⟨#[]⟩→σ t.var=τ t.var):rowF σ ts=rowF τ ts:=by
 unfold rowF
 refine jU (fun t ht=>?_)
 by_cases h0:t.var=⟨#[]⟩
 ·rw[if_pos h0,if_pos h0]
 ·rw[if_neg h0,if_neg h0,h t ht h0]
theorem satF_congr{M:Dm}{r:Rl}{σ τ : ByteArray→Vl}(h:∀v∈varsC r,σ v=τ v)(k:satF M r σ):satF M r τ:=by
 refine⟨fun a ha=>?_,fun c hc=>?_⟩
 ·rw[←rowF_congr (σ:=σ) (τ:=τ) (fun t ht h0=>h _ (mem_varsC.2 ⟨h0,.inl ⟨a,ha,t,ht,rfl⟩⟩))]
  exact k.1 a ha
 ·obtain⟨k1,k2⟩:=k.2 c hc
  rw[h _ (mem_varsC.2 ⟨k1,.inr ⟨c,hc,rfl⟩⟩)]at k2
  exact⟨k1,k2⟩
theorem asg_get{vars:List ByteArray}(hn:vars.Nodup){σ : ByteArray→Vl}{s:ByteArray}(hs:s∈vars):asgN vars (vars.map σ) s=σ s:=(asg_map hn s hs).symm
theorem asg_back{vars:List ByteArray}(hn:vars.Nodup){y:List Vl}(hy:y.length=vars.length):vars.map (asgN vars y)=y:=by
 refine jY (by rw[jm,hy]) (fun i h1 h2=>?_)
 rw[jy]
 rw[jm]at h1
 have hm:vars[i]∈vars:=jg h1
 unfold asgN
 have h9:posN vars vars[i]=i:=by
  exact nd_inj hn (pos_lt hm) h1 (pos_at hm)
 rw[h9,getD_at h2]
def AsgL(M:Dm)(r:Rl)(L:List (List Vl)):Prop:=L.Nodup∧∀z,z∈L↔z.length=(varsC r).length∧satM M (varsC r) r z
theorem AsgL.iff{M:Dm}{r:Rl}{L:List (List Vl)}(h:AsgL M r L)(hv:validE M r=0)(z:List Vl):z∈L↔∃σ,satF M r σ∧z=(varsC r).map σ:=by
 rw[h.2,satM_F (safe_of hv)]
 constructor
 ·rintro⟨h1,h2⟩
  exact⟨_,h2,(asg_back (varsC_nodup r) h1).symm⟩
 ·rintro⟨σ,h1,rfl⟩
  exact⟨jm _,satF_congr (fun v hv=>(asg_get (varsC_nodup r) hv).symm) h1⟩
theorem both_len{M:Dm}{r s:Rl}{L A B:List (List Vl)}(hd:∀v∈varsC r,v ∉ varsC s)(hr:validE M r=0)(hs:validE M s=0)(hA:AsgL M r A)(hB:AsgL M s B)(hL:AsgL M (bothR r s) L):L.length=A.length*B.length:=by
 have hb:validE M (bothR r s)=0:=(both_valid hd).2 ⟨hr,hs⟩
 obtain⟨vb,hvb⟩:∃vb,vb=varsC (bothR r s):=⟨_,rfl⟩
 have hn:vb.Nodup:=by rw[hvb];exact varsC_nodup _
 have hin:∀v,v∈vb↔v∈varsC r∨v∈varsC s:=fun v=>by rw[hvb];exact both_vars
 have hI:∀z,z∈L↔∃σ,satF M (bothR r s) σ∧z=vb.map σ:=fun z=>by rw[hvb];exact hL.iff hb z
 have hlen:∀z∈L,z.length=vb.length:=fun z hz=>by rw[hvb];exact((hL.2 z).1 hz).1
 have hp:(L.map (fun z=>((varsC r).map (asgN vb z),(varsC s).map (asgN vb z)))).Perm (A.flatMap (fun a=>B.map (fun b=>(a,b)))):=by
  refine(List.perm_ext_iff_of_nodup ?_ (prod_nodup hA.1 hB.1)).2 ?_
  ·refine List.pairwise_map.2 (hL.1.imp_of_mem (fun {x y} hx hy hxy e=>hxy ?_))
   obtain⟨e1,e2⟩:=Prod.mk.inj e
   rw[←asg_back hn (hlen x hx),←asg_back hn (hlen y hy)]
   refine jU (fun v hv=>?_)
   rcases(hin v).1 hv with h|h
   ·exact List.map_inj_left.1 e1 v h
   ·exact List.map_inj_left.1 e2 v h
  ·rintro⟨x,y⟩
   rw[mem_prod,jE]
   constructor
   ·rintro⟨z,hz,e⟩
    obtain⟨e1,e2⟩:=Prod.mk.inj e
    obtain⟨σ,h1,rfl⟩:=(hI z).1 hz
    obtain⟨k1,k2⟩:=both_satF.1 h1
    refine⟨(hA.iff hr x).2 ⟨σ,k1,?_⟩,(hB.iff hs y).2 ⟨σ,k2,?_⟩⟩
    ·rw[←e1]
     exact jU (fun v hv=>asg_get hn ((hin v).2 (.inl hv)))
    ·rw[←e2]
     exact jU (fun v hv=>asg_get hn ((hin v).2 (.inr hv)))
   ·rintro⟨hx,hy⟩
    obtain⟨σ,h1,e1⟩:=(hA.iff hr x).1 hx
    obtain⟨τ,h2,e2⟩:=(hB.iff hs y).1 hy
    have j1:∀v∈varsC r,(if v∈varsC r then σ v else τ v)=σ v:=fun v hv=>if_pos hv
    have j2:∀v∈varsC s,(if v∈varsC r then σ v else τ v)=τ v:=fun v hv=>if_neg (fun h=>hd v h hv)
    refine⟨vb.map (fun v=>if v∈varsC r then σ v else τ v),(hI _).2 ⟨_,both_satF.2 ⟨satF_congr (fun v hv=>(j1 v hv).symm) h1,satF_congr (fun v hv=>(j2 v hv).symm) h2⟩,rfl⟩,?_⟩
    refine Prod.ext ?_ ?_
    ·show (varsC r).map _=x
     rw[e1]
     exact jU (fun v hv=>(asg_get hn ((hin v).2 (.inl hv))).trans (j1 v hv))
    ·show (varsC s).map _=y
     rw[e2]
     exact jU (fun v hv=>(asg_get hn ((hin v).2 (.inr hv))).trans (j2 v hv))
 have h9:=hp.length_eq
 rw[jm,prod_len]at h9
 exact h9
theorem posL_both{r s:Rl}:posL (bothR r s)=posL r++posL s:=jK _ _
theorem prodA_pos(M:Dm):∀l:List At,0<prodA M l
 | []=>Nat.one_pos
 | a::l=>Nat.mul_pos (by omega) (prodA_pos M l)
theorem prodA_two(M:Dm)(m:List At):∀l:List At,prodA M (l++m)=prodA M l*prodA M m
 | []=>by show prodA M m=1*prodA M m;rw[Nat.one_mul]
 | a::l=>by
  show max (rowsD M a.rel).length 1*prodA M (l++m)=max (rowsD M a.rel).length 1*prodA M l*prodA M m
  rw[prodA_two M m l,Nat.mul_assoc]
theorem both_prod{M:Dm}{r s:Rl}(h:prodA M (posL (bothR r s))≤1500):prodA M (posL r)≤1500∧prodA M (posL s)≤1500:=by
 rw[posL_both,prodA_two]at h
 have h1:=prodA_pos M (posL r)
 have h2:=prodA_pos M (posL s)
 exact⟨js (Nat.le_mul_of_pos_right _ h2) h,js (Nat.le_mul_of_pos_left _ h1) h⟩
theorem addW_iff{vs:List ByteArray}{s v:ByteArray}:v∈addW vs s↔v∈vs∨v=s:=by
 unfold addW
 by_cases h:s∈vs
 ·rw[if_pos h]
  exact⟨.inl,fun h'=>h'.elim id (fun e=>e ▸ h)⟩
 ·rw[if_neg h,jp,jt]
theorem addW_all{v:ByteArray}:∀{l vs:List ByteArray},v∈l.foldl addW vs↔v∈vs∨v∈l
 | [],vs=>by simp
 | a::l,vs=>by
  rw[zm,addW_all,addW_iff,jC,or_assoc]
theorem vars_ref{r:Rl}{v:ByteArray}(h:v∈varsC r):v∈varsR r:=by
 obtain⟨h0,⟨a,ha,t,ht,e⟩|⟨c,hc,e⟩⟩:=mem_varsC.1 h
 ·exact addW_all.2 (.inl (varsT_iff.2 ⟨t,allT_iff.2 ⟨a,ha,ht⟩,e,h0⟩))
 ·exact addW_all.2 (.inr (jE.2 ⟨c,hc,e⟩))
theorem both_z{r s:Rl}(h:RlZ r)(k:RlZ s):RlZ (bothR r s) :=
 ⟨fun a ha=>(jp.1 ha).elim (h.rel a) (k.rel a),fun a ha=>(jp.1 ha).elim (h.tms a) (k.tms a),fun c hc=>(jp.1 hc).elim (h.var c) (k.var c),fun c hc=>(jp.1 hc).elim (h.str c) (k.str c)⟩
end Go.Proofs.YtplldnnnhgnbjaaGreatDoor
