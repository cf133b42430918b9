/- packed -/
import Derived.Test.YtplldnnnhgnbjaaGreatDoorMv23
namespace Go.Proofs.YtplldnnnhgnbjaaGreatDoor
open Go.RowKit Go.Maps
section
variable {ι : Type} {α β : Type}
def gL [DecidableEq ι] (f : ι→β) (o : ι) (y : β) : ι→β:=fun j=>if j=o then y else f j
theorem du [DecidableEq ι] (f : ι→β) (o : ι) (y : β):gL f o y o=y:=if_pos rfl
theorem dR [DecidableEq ι] {f : ι→β} {o j : ι} {y : β} (h:j≠o):gL f o y j=f j:=if_neg h
structure Fam(r:Rdg α)(w:World)(base:Nat)(E:TypeId)(G:Nat→Prop)(val : ι→Value)(us : ι→List (List Value))(ns : ι→List α):Prop where
 own:∀o,w.ownsRow base E r.sz (val o) (ns o).length (us o).flatten
 len:∀o,(us o).length=(ns o).length
 rd:∀o i (h:i<(ns o).length) (h':i<(us o).length),r.R G w (us o)[i] (ns o)[i]
 dj:∀o o',o≠o'→Dsj (val o) (val o')
 out:∀o q,(val o).ownBlock=some q→¬G q
variable {r:Rdg α} {w w' wb w9:World} {base:Nat} {E:TypeId} {G S:Nat→Prop} {val : ι→Value} {us : ι→List (List Value)} {ns : ι→List α} {v9:Value} {cs:List Value} {x : α} {o : ι}
theorem Fam.nil(r:Rdg α)(w:World)(base:Nat)(E:TypeId)(G:Nat→Prop):Fam (ι:=ι) r w base E G (fun _=>aB) (fun _=>[]) (fun _=>[]) :=
 ⟨fun _=>World.ownsRow_nil _ _ _ _,fun _=>rfl,fun _ i h=>by simp at h,fun _ _ _=>Dsj.nil_left _ _ _,fun _ q h=>by simp[Value.ownBlock]at h⟩
theorem Fam.fr(h:Fam r w base E G val us ns)(hf:Fr S w w')(h1:∀o q,(val o).ownBlock=some q→¬S q)(h2:∀q,G q→¬S q):Fam r w' base E G val us ns :=
 ⟨fun o=>bo (h.own o) hf (h1 o),h.len,fun o i hi h'=>r.fr (h.rd o i hi h') hf h2,h.dj,h.out⟩
theorem Fam.ext(h:Fam r w base E G val us ns)(he:Ext w w'):Fam r w' base E G val us ns:=h.fr (he.fr (fun _=>False)) (fun _ _ _ h=>h) (fun _ _ h=>h)
theorem Fam.less{G':Nat→Prop}(h:Fam r w base E G val us ns)(hg:∀q,q<w.heap.size→G q→G' q)(ho:∀o q,(val o).ownBlock=some q→¬G' q):Fam r w base E G' val us ns :=
 ⟨h.own,h.len,fun o i hi h'=>r.mono (h.rd o i hi h') hg,h.dj,ho⟩
theorem Fam.push [DecidableEq ι] (h:Fam r w base E G val us ns) (he:Ext w wb) (hr:w9.ownsRow base E r.sz v9 ((ns o).length+1) ((us o).flatten++cs)) (hg:wb.grownBy w9 (val o).ownBlock) (hl:df wb (val o) v9) (hx:r.R G wb cs x):Fam r w9 base E (fun q=>G q∧v9.ownBlock≠some q) (gL val o v9) (gL us o (us o++[cs])) (gL ns o (ns o++[x])):=by
 have se:∀t k,(val t).ownBlock=some k→k<wb.heap.size:=fun t k hk=>by
  have:=aV (h.own t) hk
  have:=he.size
  omega
 have si:∀k,k<wb.heap.size→G k→v9.ownBlock≠some k:=fun k hk h1 h2=>by
  rcases hl with hl|hl
  ·exact h.out o k (hl ▸ h2) h1
  ·rw[hl]at h2
   injection h2 with h2
   omega
 have sh:∀{ds:List Value} {y : α},r.R G wb ds y→r.R (fun q=>G q∧v9.ownBlock≠some q) w9 ds y:=fun {ds y} hh=>by
  have h1:r.R (fun k=>G k∧k<wb.heap.size) wb ds y:=r.mono hh (fun k hk h1=>And.intro h1 hk)
  have h2:=r.fr h1 (am hg) (fun k hk e=>h.out o k e hk.1)
  exact r.mono h2 (fun k _ hk=>⟨hk.1,si k hk.2 hk.1⟩)
 refine⟨fun t=>?_,fun t=>?_,fun t i hi h'=>?_,fun s t sg=>?_,fun t q hq hG=>?_⟩
 ·by_cases ht:t=o
  ·subst ht
   simp only[du]
   rw[jm,List.flatten_append]
   simpa using hr
  ·simp only[dR ht]
   exact bw (h.own t) he (h.dj o t (fun e=>ht e.symm)) hg
 ·by_cases ht:t=o
  ·subst ht
   simp only[du,jm,h.len t,jD,jQ]
  ·simp only[dR ht]
   exact h.len t
 ·by_cases ht:t=o
  ·subst ht
   simp only[du]at hi h' ⊢
   rcases jz i (ns t).length with se|sj
   ·rw[jw se,jw (by rw[h.len];exact se)]
    exact sh (r.ext (h.rd t i se (by rw[h.len];exact se)) he)
   ·have e:i=(ns t).length:=by simp at hi;omega
    subst e
    rw[jv (jo _),jv (by rw[h.len];exact jo _)]
    simp only[h.len,zm,ja]
    exact sh hx
  ·simp only[dR ht]at hi h' ⊢
   exact sh (r.ext (h.rd t i hi h') he)
 ·by_cases h1:s=o
  ·subst h1
   rw[du,dR (fun e=>sg e.symm)]
   exact(h.dj s t sg).push (se t) hl
  ·rw[dR h1]
   by_cases h2:t=o
   ·subst h2
    rw[du]
    exact((h.dj t s (fun e=>h1 e.symm)).push (se s) hl).symm
   ·rw[dR h2]
    exact h.dj s t sg
 ·by_cases ht:t=o
  ·subst ht
   rw[du]at hq
   exact hG.2 hq
  ·rw[dR ht]at hq
   exact h.out t q hq hG.1
theorem own_rdg{w:World}{base n:Nat}{E:TypeId}{v:Value}{us:List (List Value)}{xs:List α}{K:Nat→Prop}(hp : 0<r.sz)(ho:w.ownsRow base E r.sz v n us.flatten)(hl:us.length=xs.length)(hr:∀i (h:i<xs.length) (h':i<us.length),r.R K w us[i] xs[i])(hK:∀k,v.ownBlock=some k→K k):Sl r K w v xs:=by
 have se:∀cs∈us,cs.length=r.sz:=fun cs si=>by
  obtain⟨i,hi,rfl⟩:=jx si
  exact r.len (hr i (by omega) hi)
 have hn:n=xs.length:=by
  have h1:=ho.1
  rw[gZ se,hl]at h1
  exact(Nat.mul_right_cancel hp h1).symm
 subst hn
 obtain⟨A,c,rfl,hc,sh⟩:=Cl.of_own ho
 refine⟨A,c,rfl,hc,fun i hi=>?_⟩
 have sg:i<us.length:=by omega
 have sj:us[i].length=r.sz:=se _ (jf sg)
 have hg:∀j,j<us[i].length→∃ad,A=some ad∧K ad.block∧w.cell? (ad.add (i*r.sz+j))=us[i][j]?:=fun j hj=>by
  have h1:=dW se sg (j:=j) (by omega)
  rw[jl hj]at h1 ⊢
  obtain⟨ad,e,h2,h3⟩:=sh.at' h1
  exact⟨ad,e,hK _ h2.1,h3⟩
 obtain⟨ad,rfl,hb,-⟩:=hg 0 (by omega)
 refine⟨ad,us[i],rfl,hb,hr i hi sg,fun j hj=>?_⟩
 obtain⟨sp,e,-,h2⟩:=hg j hj
 injection e with e
 subst e
 rw[h2,jl hj]
theorem Fam.sl{K:Nat→Prop}(h:Fam r w base E G val us ns)(hp : 0<r.sz)(o : ι)(hG:∀q,G q→K q)(hb:∀q,base≤q→K q):Sl r K w (val o) (ns o) :=
 own_rdg hp (h.own o) (h.len o) (fun i hi h'=>r.mono (h.rd o i hi h') (fun q _ hq=>hG q hq)) (fun q hq=>hb q (aw (h.own o) hq))
end
def p8(vars:List ByteArray)(i:Nat):ByteArray→Option Value:=fun s=>if s=⟨#[]⟩ then some (.int .i64 (-1)) else if s∈vars.take i then some (.int .i64 (posN vars s:Int)) else none
theorem numP_zero(vars:List ByteArray):cI (fun _=>none) ⟨#[]⟩ (some (.int .i64 (-1)))=p8 vars 0:=by
 funext s
 unfold cI p8
 by_cases h:s=⟨#[]⟩
 ·rw[if_pos h,if_pos h]
 ·rw[if_neg h,if_neg h,if_neg (by simp)]
theorem numP_all(vars:List ByteArray):p8 vars vars.length=numF vars:=by
 funext s
 unfold p8 numF
 rw[jT]
theorem pos_nd{l:List ByteArray}(hn:l.Nodup){k:Nat}(hk:k<l.length):posN l l[k]=k:=lQ hn (bR (jf hk)) hk (lT (jf hk))
theorem numP_add{vars:List ByteArray}(hn:vars.Nodup)(se:⟨#[]⟩ ∉ vars){i:Nat}(hi:i<vars.length):cI (p8 vars i) vars[i] (some (.int .i64 (i:Int)))=p8 vars (i+1):=by
 have h0:vars[i]≠⟨#[]⟩:=fun e=>se (e ▸ jf hi)
 funext s
 unfold cI p8
 rw[jj hi]
 by_cases h:s=vars[i]
 ·subst h
  rw[if_pos rfl,if_neg h0,if_pos (zq _ (jq.2 rfl)),pos_nd hn hi]
 ·rw[if_neg h]
  have:s∈vars.take i++[vars[i]]↔s∈vars.take i:=by rw[ju,jq];simp only[h,or_false]
  simp only[this]
section
variable {vars:List ByteArray} {M:Dm} {cds:List Cd}
def rK(vars:List ByteArray)(M:Dm)(cds:List Cd)(B:List Nat)(a:At)(nots:List Ng):Sm :=
 ⟨(aS M a.rel).filter (mtB vars a.terms cds (aR vars B a.terms)),(aR vars B a.terms).key,(aR vars B a.terms).bound,(aR vars B a.terms).fresh,(aR vars B a.terms).frm,nots⟩
def smL(vars:List ByteArray)(M:Dm)(cds:List Cd):List At→List Nat→List Sm
 | [],_=>[]
 | a::l,B=>rK vars M cds B a []::smL vars M cds l (B++(aR vars B a.terms).fresh)
theorem mO:∀(l:List At) (B:List Nat),(smL vars M cds l B).length=l.length
 | [],_=>rfl
 | a::l,B=>by rw[smL,jD,mO l,jD]
theorem rJ(a:At):∀(l:List At) (B:List Nat),smL vars M cds (l++[a]) B=smL vars M cds l B++[rK vars M cds (ee vars l B) a []]
 | [],_=>rfl
 | b::l,B=>by
  rw[zw,smL,rJ a l,smL,zw]
  rfl
theorem qx(a:At):∀(l:List At) (B:List Nat) (k:Nat) (bd:Nat→Nat),bdL vars (l++[a]) B k bd=fun v=>if v∈(aR vars (ee vars l B) a.terms).fresh then k+l.length+1 else bdL vars l B k bd v
 | [],_,_,_=>rfl
 | b::l,B,k,bd=>by
  rw[zw,bdL,qx a l]
  funext v
  rw[jD,show k+1+l.length+1=k+(l.length+1)+1 by omega]
  rfl
def bdP(vars:List ByteArray)(l:List At):Nat→Nat:=bdL vars l [] 0 (fun _=>0)
theorem bdP_snoc(l:List At)(a:At):bdP vars (l++[a])=fun v=>if v∈(aR vars (ee vars l []) a.terms).fresh then l.length+1 else bdP vars l v:=by
 unfold bdP
 rw[qx]
 funext v
 rw[jY]
theorem bdP_mem(l:List At)(v:Nat):v∈ee vars l []↔0<bdP vars l v:=((pI (vars:=vars) l [] 0 (fun _=>0) (fun v=>by simp)).1 v).1
def bdC(n:Nat)(f:Nat→Nat):List Int:=(List.range n).map (fun v=>(f v:Int))
theorem mG(n:Nat)(f:Nat→Nat):(bdC n f).length=n:=by simp[bdC]
theorem bdC_at{n:Nat}{f:Nat→Nat}{v:Nat}(h:v<(bdC n f).length):(bdC n f)[v]=(f v:Int):=by simp[bdC]
theorem bdC_set{n:Nat}{f:Nat→Nat}{v k:Nat}:((bdC n f).map I64).set v (.int .i64 (k:Int))=(bdC n (fun u=>if u=v then k else f u)).map I64:=by
 refine List.ext_getElem? (fun i=>?_)
 unfold bdC
 rw[List.getElem?_set]
 simp only[List.getElem?_map,jk,List.length_range]
 by_cases h:v=i
 ·subst h
  rw[if_pos rfl]
  by_cases hv:v<n
  ·rw[if_pos hv,jl (by simpa using hv)]
   simp[I64]
  ·rw[if_neg hv,zo (by simp;omega)]
   rfl
 ·rw[if_neg h]
  rcases jz i n with hi|hi
  ·rw[jl (by simpa using hi)]
   simp only[zK,Option.map_some]
   rw[if_neg (fun e=>h e.symm)]
  ·rw[zo (by simpa using hi)]
   rfl
theorem bdC_zero(n:Nat):(bdC n (fun _=>0)).map I64=List.replicate n (.int .i64 0):=by
 refine List.ext_getElem? (fun i=>?_)
 unfold bdC
 simp only[List.getElem?_map,List.getElem?_replicate]
 rcases jz i n with hi|hi
 ·rw[jl (by simpa using hi),if_pos hi]
  rfl
 ·rw[zo (by simpa using hi),if_neg (by omega)]
  rfl
def gi(vars:List ByteArray)(M:Dm)(a:At):Ng:=⟨((M a.rel).map (fun x=>x.rel.ar)).getD 0,aS M a.rel,bg vars a.terms,a.terms.map Tm.vl⟩
def idO:Option Nat→Nat
 | none=>0
 | some i=>i+1
def ngP(vars:List ByteArray)(M:Dm)(r:Rl)(i:Nat)(o:Option Nat):List Ng:=(((r.ats.take i).filter (fun a=>a.neg && decide (eZ vars r a=idO o)))).map (gi vars M)
theorem ngP_zero(r:Rl):ngP vars M r 0=fun _=>[]:=by funext o;simp[ngP]
theorem ngP_pos{r:Rl}{i:Nat}(hi:i<r.ats.length)(h:r.ats[i].neg=false):ngP vars M r (i+1)=ngP vars M r i:=by
 funext o
 unfold ngP
 rw[jj hi,jK]
 simp[h]
theorem ngP_neg{r:Rl}{i:Nat}(hi:i<r.ats.length)(h:r.ats[i].neg=true){o:Option Nat}(ho:eZ vars r r.ats[i]=idO o):ngP vars M r (i+1)=gL (ngP vars M r i) o (ngP vars M r i o++[gi vars M r.ats[i]]):=by
 funext p
 unfold gL
 by_cases hp:p=o
 ·subst hp
  rw[if_pos rfl]
  unfold ngP
  rw[jj hi,jK,jH]
  simp[h,ho]
 ·rw[if_neg hp]
  unfold ngP
  rw[jj hi,jK]
  have:¬eZ vars r r.ats[i]=idO p:=fun e=>hp (by
   rw[ho]at e
   cases p <;> cases o <;> simp[idO]at e ⊢
   omega)
  simp[this]
theorem ngP_all(r:Rl)(o:Option Nat):ngP vars M r r.ats.length o=(iM vars r (idO o)).map (gi vars M):=by
 unfold ngP iM negL
 rw[jT,List.filter_filter]
 congr 1
 exact List.filter_congr (fun a _=>by rw[Bool.and_comm])
def smF(vars:List ByteArray)(M:Dm)(r:Rl):List Sm:=(smL vars M r.cds (bL r) []).zipIdx.map (fun p=>{ p.1 with nots:=(iM vars r (p.2+1)).map (gi vars M) })
def stpM(s:Sm):Stp:=⟨s.rows,s.key,s.bound,s.fresh,s.frm,fun y=>s.nots.any (fun n=>da n.rows (fj n.vars n.cs y))⟩
theorem img_row{ts:List Tm}{y:List Vl}(hc:∀t∈ts,t.var≠⟨#[]⟩→t.var∈vars):fj (bg vars ts) (ts.map Tm.vl) y=cP vars y ts:=by
 unfold fj bg cP
 rw[List.zipWith_map_left,List.zipWith_map_right]
 induction ts with
 | nil=>rfl
 | cons t l ih =>
  rw[List.zipWith_cons_cons,jU,ih (fun u hu=>hc u (js _ hu))]
  congr 1
  by_cases h0:t.var=⟨#[]⟩
  ·have:dl vars t.var = -1:=if_pos h0
   rw[this,if_neg (by decide),if_pos h0]
  ·rw[cE h0 (hc t (by simp) h0),if_pos (by omega),if_neg h0,jL]
theorem bad_any{r:Rl}(hs:eF vars r)(k:Nat)(y:List Vl):((iM vars r k).map (gi vars M)).any (fun n=>da n.rows (fj n.vars n.cs y))=iK M vars r k y:=by
 unfold iK
 rw[List.any_map,Bool.eq_iff_iff,jM,jM]
 have key:∀a∈iM vars r k,((fun n:Ng=>da n.rows (fj n.vars n.cs y)) ∘ gi vars M) a=da (aS M a.rel) (cP vars y a.terms):=fun a ha=>by
  have h1:=(jC.1 ha).1
  have h2:=(jC.1 h1).1
  show da (aS M a.rel) (fj (bg vars a.terms) (a.terms.map Tm.vl) y)=_
  rw[img_row (hs.at' a h2)]
 exact⟨fun ⟨a,ha,h⟩=>⟨a,ha,by rw[←key a ha];exact h⟩,fun ⟨a,ha,h⟩=>⟨a,ha,by rw[key a ha];exact h⟩⟩
theorem rP{r:Rl}(hs:eF vars r):∀(l:List At) (B:List Nat) (k:Nat),((smL vars M r.cds l B).zipIdx k).map (fun p=>stpM { p.1 with nots:=(iM vars r (p.2+1)).map (gi vars M) })=gu vars M r.cds (iK M vars r) l B k
 | [],_,_=>rfl
 | a::l,B,k=>by
  rw[smL,List.zipIdx_cons,jU,rP hs l,gu]
  congr 1
  unfold stpM mA rK
  simp only
  congr 1
  funext y
  exact bad_any hs (k+1) y
theorem rI{r:Rl}(hs:eF vars r):(smF vars M r).map stpM=nP M vars r:=by
 unfold smF nP
 rw[List.map_map]
 exact rP hs (bL r) [] 0
end
