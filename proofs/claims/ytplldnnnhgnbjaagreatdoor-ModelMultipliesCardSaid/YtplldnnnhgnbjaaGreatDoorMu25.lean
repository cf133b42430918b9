/- packed -/
import Derived.Test.YtplldnnnhgnbjaaGreatDoorMu24
namespace Go.Proofs.YtplldnnnhgnbjaaGreatDoor
open Go.RowKit Go.Maps
section
variable {ι : Type} {α β : Type}
def updI [DecidableEq ι] (f : ι→β) (o : ι) (y : β) : ι→β:=fun j=>if j=o then y else f j
theorem updI_same [DecidableEq ι] (f : ι→β) (o : ι) (y : β):updI f o y o=y:=if_pos rfl
theorem updI_ne [DecidableEq ι] {f : ι→β} {o j : ι} {y : β} (h:j≠o):updI f o y j=f j:=if_neg h
structure Fam(r:Rdg α)(w:World)(base:Nat)(E:TypeId)(G:Nat→Prop)(val : ι→Value)(us : ι→List (List Value))(ns : ι→List α):Prop where
 own:∀o,w.ownsRow base E r.sz (val o) (ns o).length (us o).flatten
 len:∀o,(us o).length=(ns o).length
 rd:∀o i (h:i<(ns o).length) (h':i<(us o).length),r.R G w (us o)[i] (ns o)[i]
 dj:∀o o',o≠o'→Dsj (val o) (val o')
 out:∀o q,(val o).ownBlock=some q→¬G q
variable {r:Rdg α} {w w' wb w9:World} {base:Nat} {E:TypeId} {G S:Nat→Prop} {val : ι→Value} {us : ι→List (List Value)} {ns : ι→List α} {v9:Value} {cs:List Value} {x : α} {o : ι}
theorem Fam.nil(r:Rdg α)(w:World)(base:Nat)(E:TypeId)(G:Nat→Prop):Fam (ι:=ι) r w base E G (fun _=>nilS) (fun _=>[]) (fun _=>[]) :=
 ⟨fun _=>World.ownsRow_nil _ _ _ _,fun _=>rfl,fun _ i h=>by simp at h,fun _ _ _=>Dsj.nil_left _ _ _,fun _ q h=>by simp[Value.ownBlock]at h⟩
theorem Fam.fr(h:Fam r w base E G val us ns)(hf:Fr S w w')(h1:∀o q,(val o).ownBlock=some q→¬S q)(h2:∀q,G q→¬S q):Fam r w' base E G val us ns :=
 ⟨fun o=>own_fr (h.own o) hf (h1 o),h.len,fun o i hi h'=>r.fr (h.rd o i hi h') hf h2,h.dj,h.out⟩
theorem Fam.ext(h:Fam r w base E G val us ns)(he:Ext w w'):Fam r w' base E G val us ns:=h.fr (he.fr (fun _=>False)) (fun _ _ _ h=>h) (fun _ _ h=>h)
theorem Fam.less{G':Nat→Prop}(h:Fam r w base E G val us ns)(hg:∀q,q<w.heap.size→G q→G' q)(ho:∀o q,(val o).ownBlock=some q→¬G' q):Fam r w base E G' val us ns :=
 ⟨h.own,h.len,fun o i hi h'=>r.mono (h.rd o i hi h') hg,h.dj,ho⟩
theorem Fam.push [DecidableEq ι] (h:Fam r w base E G val us ns) (he:Ext w wb) (hr:w9.ownsRow base E r.sz v9 ((ns o).length+1) ((us o).flatten++cs)) (hg:wb.grownBy w9 (val o).ownBlock) (hl:Lands wb (val o) v9) (hx:r.R G wb cs x):Fam r w9 base E (fun q=>G q∧v9.ownBlock≠some q) (updI val o v9) (updI us o (us o++[cs])) (updI ns o (ns o++[x])):=by
 have hlt:∀t k,(val t).ownBlock=some k→k<wb.heap.size:=fun t k hk=>by
  have:=own_lt (h.own t) hk
  have:=he.size
  omega
 have hne:∀k,k<wb.heap.size→G k→v9.ownBlock≠some k:=fun k hk h1 h2=>by
  rcases hl with hl|hl
  ·exact h.out o k (hl ▸ h2) h1
  ·rw[hl]at h2
   injection h2 with h2
   omega
 have hup:∀{ds:List Value} {y : α},r.R G wb ds y→r.R (fun q=>G q∧v9.ownBlock≠some q) w9 ds y:=fun {ds y} hh=>by
  have h1:r.R (fun k=>G k∧k<wb.heap.size) wb ds y:=r.mono hh (fun k hk h1=>And.intro h1 hk)
  have h2:=r.fr h1 (grown_fr hg) (fun k hk e=>h.out o k e hk.1)
  exact r.mono h2 (fun k _ hk=>⟨hk.1,hne k hk.2 hk.1⟩)
 refine⟨fun t=>?_,fun t=>?_,fun t i hi h'=>?_,fun s t hst=>?_,fun t q hq hG=>?_⟩
 ·by_cases ht:t=o
  ·subst ht
   simp only[updI_same]
   rw[jl,List.flatten_append]
   simpa using hr
  ·simp only[updI_ne ht]
   exact own_beside (h.own t) he (h.dj o t (fun e=>ht e.symm)) hg
 ·by_cases ht:t=o
  ·subst ht
   simp only[updI_same,jl,h.len t,jD,zn]
  ·simp only[updI_ne ht]
   exact h.len t
 ·by_cases ht:t=o
  ·subst ht
   simp only[updI_same]at hi h' ⊢
   rcases jB i (ns t).length with hlt|hge
   ·rw[jx hlt,jx (by rw[h.len];exact hlt)]
    exact hup (r.ext (h.rd t i hlt (by rw[h.len];exact hlt)) he)
   ·have e:i=(ns t).length:=by simp at hi;omega
    subst e
    rw[jw (jq _),jw (by rw[h.len];exact jq _)]
    simp only[h.len,zC,ja]
    exact hup hx
  ·simp only[updI_ne ht]at hi h' ⊢
   exact hup (r.ext (h.rd t i hi h') he)
 ·by_cases h1:s=o
  ·subst h1
   rw[updI_same,updI_ne (fun e=>hst e.symm)]
   exact(h.dj s t hst).push (hlt t) hl
  ·rw[updI_ne h1]
   by_cases h2:t=o
   ·subst h2
    rw[updI_same]
    exact((h.dj t s (fun e=>h1 e.symm)).push (hlt s) hl).symm
   ·rw[updI_ne h2]
    exact h.dj s t hst
 ·by_cases ht:t=o
  ·subst ht
   rw[updI_same]at hq
   exact hG.2 hq
  ·rw[updI_ne ht]at hq
   exact h.out t q hq hG.1
theorem own_rdg{w:World}{base n:Nat}{E:TypeId}{v:Value}{us:List (List Value)}{xs:List α}{K:Nat→Prop}(hp : 0<r.sz)(ho:w.ownsRow base E r.sz v n us.flatten)(hl:us.length=xs.length)(hr:∀i (h:i<xs.length) (h':i<us.length),r.R K w us[i] xs[i])(hK:∀k,v.ownBlock=some k→K k):Sl r K w v xs:=by
 have hall:∀cs∈us,cs.length=r.sz:=fun cs hcs=>by
  obtain⟨i,hi,rfl⟩:=jv hcs
  exact r.len (hr i (by omega) hi)
 have hn:n=xs.length:=by
  have h1:=ho.1
  rw[flat_len hall,hl]at h1
  exact(Nat.mul_right_cancel hp h1).symm
 subst hn
 obtain⟨A,c,rfl,hc,hcl⟩:=Cl.of_own ho
 refine⟨A,c,rfl,hc,fun i hi=>?_⟩
 have hi':i<us.length:=by omega
 have hlen:us[i].length=r.sz:=hall _ (jg hi')
 have hg:∀j,j<us[i].length→∃ad,A=some ad∧K ad.block∧w.cell? (ad.add (i*r.sz+j))=us[i][j]?:=fun j hj=>by
  have h1:=flat_get hall hi' (j:=j) (by omega)
  rw[jk hj]at h1 ⊢
  obtain⟨ad,e,h2,h3⟩:=hcl.at' h1
  exact⟨ad,e,hK _ h2.1,h3⟩
 obtain⟨ad,rfl,hb,-⟩:=hg 0 (by omega)
 refine⟨ad,us[i],rfl,hb,hr i hi hi',fun j hj=>?_⟩
 obtain⟨ad',e,-,h2⟩:=hg j hj
 injection e with e
 subst e
 rw[h2,jk hj]
theorem Fam.sl{K:Nat→Prop}(h:Fam r w base E G val us ns)(hp : 0<r.sz)(o : ι)(hG:∀q,G q→K q)(hb:∀q,base≤q→K q):Sl r K w (val o) (ns o) :=
 own_rdg hp (h.own o) (h.len o) (fun i hi h'=>r.mono (h.rd o i hi h') (fun q _ hq=>hG q hq)) (fun q hq=>hb q (own_ge (h.own o) hq))
end
def numP(vars:List ByteArray)(i:Nat):ByteArray→Option Value:=fun s=>if s=⟨#[]⟩ then some (.int .i64 (-1)) else if s∈vars.take i then some (.int .i64 (posN vars s:Int)) else none
theorem numP_zero(vars:List ByteArray):updV (fun _=>none) ⟨#[]⟩ (some (.int .i64 (-1)))=numP vars 0:=by
 funext s
 unfold updV numP
 by_cases h:s=⟨#[]⟩
 ·rw[if_pos h,if_pos h]
 ·rw[if_neg h,if_neg h,if_neg (by simp)]
theorem numP_all(vars:List ByteArray):numP vars vars.length=numF vars:=by
 funext s
 unfold numP numF
 rw[jV]
theorem pos_nd{l:List ByteArray}(hn:l.Nodup){k:Nat}(hk:k<l.length):posN l l[k]=k:=nd_inj hn (pos_lt (jg hk)) hk (pos_at (jg hk))
theorem numP_add{vars:List ByteArray}(hn:vars.Nodup)(hne:⟨#[]⟩ ∉ vars){i:Nat}(hi:i<vars.length):updV (numP vars i) vars[i] (some (.int .i64 (i:Int)))=numP vars (i+1):=by
 have h0:vars[i]≠⟨#[]⟩:=fun e=>hne (e ▸ jg hi)
 funext s
 unfold updV numP
 rw[jj hi]
 by_cases h:s=vars[i]
 ·subst h
  rw[if_pos rfl,if_neg h0,if_pos (jR _ (jt.2 rfl)),pos_nd hn hi]
 ·rw[if_neg h]
  have:s∈vars.take i++[vars[i]]↔s∈vars.take i:=by rw[jp,jt];simp only[h,or_false]
  simp only[this]
section
variable {vars:List ByteArray} {M:Dm} {cds:List Cd}
def smOf(vars:List ByteArray)(M:Dm)(cds:List Cd)(B:List Nat)(a:At)(nots:List Ng):Sm :=
 ⟨(rowsD M a.rel).filter (mtB vars a.terms cds (nsOf vars B a.terms)),(nsOf vars B a.terms).key,(nsOf vars B a.terms).bound,(nsOf vars B a.terms).fresh,(nsOf vars B a.terms).frm,nots⟩
def smL(vars:List ByteArray)(M:Dm)(cds:List Cd):List At→List Nat→List Sm
 | [],_=>[]
 | a::l,B=>smOf vars M cds B a []::smL vars M cds l (B++(nsOf vars B a.terms).fresh)
theorem smL_len:∀(l:List At) (B:List Nat),(smL vars M cds l B).length=l.length
 | [],_=>rfl
 | a::l,B=>by rw[smL,jD,smL_len l,jD]
theorem smL_snoc(a:At):∀(l:List At) (B:List Nat),smL vars M cds (l++[a]) B=smL vars M cds l B++[smOf vars M cds (bndL vars l B) a []]
 | [],_=>rfl
 | b::l,B=>by
  rw[zw,smL,smL_snoc a l,smL,zw]
  rfl
theorem bdL_snoc(a:At):∀(l:List At) (B:List Nat) (k:Nat) (bd:Nat→Nat),bdL vars (l++[a]) B k bd=fun v=>if v∈(nsOf vars (bndL vars l B) a.terms).fresh then k+l.length+1 else bdL vars l B k bd v
 | [],_,_,_=>rfl
 | b::l,B,k,bd=>by
  rw[zw,bdL,bdL_snoc a l]
  funext v
  rw[jD,show k+1+l.length+1=k+(l.length+1)+1 by omega]
  rfl
def bdP(vars:List ByteArray)(l:List At):Nat→Nat:=bdL vars l [] 0 (fun _=>0)
theorem bdP_snoc(l:List At)(a:At):bdP vars (l++[a])=fun v=>if v∈(nsOf vars (bndL vars l []) a.terms).fresh then l.length+1 else bdP vars l v:=by
 unfold bdP
 rw[bdL_snoc]
 funext v
 rw[jW]
theorem bdP_mem(l:List At)(v:Nat):v∈bndL vars l []↔0<bdP vars l v:=((bdL_ok (vars:=vars) l [] 0 (fun _=>0) (fun v=>by simp)).1 v).1
def bdC(n:Nat)(f:Nat→Nat):List Int:=(List.range n).map (fun v=>(f v:Int))
theorem bdC_len(n:Nat)(f:Nat→Nat):(bdC n f).length=n:=by simp[bdC]
theorem bdC_at{n:Nat}{f:Nat→Nat}{v:Nat}(h:v<(bdC n f).length):(bdC n f)[v]=(f v:Int):=by simp[bdC]
theorem bdC_set{n:Nat}{f:Nat→Nat}{v k:Nat}:((bdC n f).map I64).set v (.int .i64 (k:Int))=(bdC n (fun u=>if u=v then k else f u)).map I64:=by
 refine List.ext_getElem? (fun i=>?_)
 unfold bdC
 rw[List.getElem?_set]
 simp only[zG,jm,List.length_range]
 by_cases h:v=i
 ·subst h
  rw[if_pos rfl]
  by_cases hv:v<n
  ·rw[if_pos hv,jk (by simpa using hv)]
   simp[I64]
  ·rw[if_neg hv,zb (by simp;omega)]
   rfl
 ·rw[if_neg h]
  rcases jB i n with hi|hi
  ·rw[jk (by simpa using hi)]
   simp only[zK,Option.map_some]
   rw[if_neg (fun e=>h e.symm)]
  ·rw[zb (by simpa using hi)]
   rfl
theorem bdC_zero(n:Nat):(bdC n (fun _=>0)).map I64=List.replicate n (.int .i64 0):=by
 refine List.ext_getElem? (fun i=>?_)
 unfold bdC
 simp only[zG,List.getElem?_replicate]
 rcases jB i n with hi|hi
 ·rw[jk (by simpa using hi),if_pos hi]
  rfl
 ·rw[zb (by simpa using hi),if_neg (by omega)]
  rfl
def ngOf(vars:List ByteArray)(M:Dm)(a:At):Ng:=⟨((M a.rel).map (fun x=>x.rel.ar)).getD 0,rowsD M a.rel,numsN vars a.terms,a.terms.map Tm.vl⟩
def idO:Option Nat→Nat
 | none=>0
 | some i=>i+1
def ngP(vars:List ByteArray)(M:Dm)(r:Rl)(i:Nat)(o:Option Nat):List Ng:=(((r.ats.take i).filter (fun a=>a.neg && decide (lastA vars r a=idO o)))).map (ngOf vars M)
theorem ngP_zero(r:Rl):ngP vars M r 0=fun _=>[]:=by funext o;simp[ngP]
theorem ngP_pos{r:Rl}{i:Nat}(hi:i<r.ats.length)(h:r.ats[i].neg=false):ngP vars M r (i+1)=ngP vars M r i:=by
 funext o
 unfold ngP
 rw[jj hi,jK]
 simp[h]
theorem ngP_neg{r:Rl}{i:Nat}(hi:i<r.ats.length)(h:r.ats[i].neg=true){o:Option Nat}(ho:lastA vars r r.ats[i]=idO o):ngP vars M r (i+1)=updI (ngP vars M r i) o (ngP vars M r i o++[ngOf vars M r.ats[i]]):=by
 funext p
 unfold updI
 by_cases hp:p=o
 ·subst hp
  rw[if_pos rfl]
  unfold ngP
  rw[jj hi,jK,jI]
  simp[h,ho]
 ·rw[if_neg hp]
  unfold ngP
  rw[jj hi,jK]
  have:¬lastA vars r r.ats[i]=idO p:=fun e=>hp (by
   rw[ho]at e
   cases p <;> cases o <;> simp[idO]at e ⊢
   omega)
  simp[this]
theorem ngP_all(r:Rl)(o:Option Nat):ngP vars M r r.ats.length o=(negK vars r (idO o)).map (ngOf vars M):=by
 unfold ngP negK negL
 rw[jV,List.filter_filter]
 congr 1
 exact List.filter_congr (fun a _=>by rw[Bool.and_comm])
def smF(vars:List ByteArray)(M:Dm)(r:Rl):List Sm:=(smL vars M r.cds (posL r) []).zipIdx.map (fun p=>{ p.1 with nots:=(negK vars r (p.2+1)).map (ngOf vars M) })
def stpM(s:Sm):Stp:=⟨s.rows,s.key,s.bound,s.fresh,s.frm,fun y=>s.nots.any (fun n=>hasR n.rows (imgR n.vars n.cs y))⟩
theorem img_row{ts:List Tm}{y:List Vl}(hc:∀t∈ts,t.var≠⟨#[]⟩→t.var∈vars):imgR (numsN vars ts) (ts.map Tm.vl) y=rowOf vars y ts:=by
 unfold imgR numsN rowOf
 rw[List.zipWith_map_left,List.zipWith_map_right]
 induction ts with
 | nil=>rfl
 | cons t l ih =>
  rw[List.zipWith_cons_cons,zf,ih (fun u hu=>hc u (jr _ hu))]
  congr 1
  by_cases h0:t.var=⟨#[]⟩
  ·have:numN vars t.var = -1:=if_pos h0
   rw[this,if_neg (by decide),if_pos h0]
  ·rw[num_var h0 (hc t (by simp) h0),if_pos (by omega),if_neg h0,jO]
theorem bad_any{r:Rl}(hs:SafeR vars r)(k:Nat)(y:List Vl):((negK vars r k).map (ngOf vars M)).any (fun n=>hasR n.rows (imgR n.vars n.cs y))=badK M vars r k y:=by
 unfold badK
 rw[List.any_map,Bool.eq_iff_iff,jL,jL]
 have key:∀a∈negK vars r k,((fun n:Ng=>hasR n.rows (imgR n.vars n.cs y)) ∘ ngOf vars M) a=hasR (rowsD M a.rel) (rowOf vars y a.terms):=fun a ha=>by
  have h1:=(jA.1 ha).1
  have h2:=(jA.1 h1).1
  show hasR (rowsD M a.rel) (imgR (numsN vars a.terms) (a.terms.map Tm.vl) y)=_
  rw[img_row (hs.at' a h2)]
 exact⟨fun ⟨a,ha,h⟩=>⟨a,ha,by rw[←key a ha];exact h⟩,fun ⟨a,ha,h⟩=>⟨a,ha,by rw[key a ha];exact h⟩⟩
theorem steps_eq{r:Rl}(hs:SafeR vars r):∀(l:List At) (B:List Nat) (k:Nat),((smL vars M r.cds l B).zipIdx k).map (fun p=>stpM { p.1 with nots:=(negK vars r (p.2+1)).map (ngOf vars M) })=stepsL vars M r.cds (badK M vars r) l B k
 | [],_,_=>rfl
 | a::l,B,k=>by
  rw[smL,List.zipIdx_cons,zf,steps_eq hs l,stepsL]
  congr 1
  unfold stpM stpOf smOf
  simp only
  congr 1
  funext y
  exact bad_any hs (k+1) y
theorem smF_plan{r:Rl}(hs:SafeR vars r):(smF vars M r).map stpM=planL M vars r:=by
 unfold smF planL
 rw[List.map_map]
 exact steps_eq hs (posL r) [] 0
end
