/- packed -/
import Derived.Test.YtplldnnnhgnbjaaGreatDoorMv15
set_option maxRecDepth 20000
set_option maxHeartbeats 3200000
namespace Go.Proofs.YtplldnnnhgnbjaaGreatDoor
open Go.RowKit Go.Maps
theorem qY{w:World}{A:Option Addr}{c:Nat}{f:Value} :
  Calls Tryz.prog 188 #[.slice A 0 c,.int .i64 0,.int .i64 0,f] w (fun e w'=>e=.returned (.tuple #[])∧w=w'):=by
 go_enter Tryz.func188,Tryz.ntmps188
 go_wp2_with fail
 go_loopw [8] (fun t wr=>t=.int .i64 1∧w=wr) (fun _ _=>0)
 case atStart=>exact⟨by trivial,by trivial⟩
 case round =>
  obtain⟨rfl,rfl⟩:=hrel
  go_wp2_with fail
  exact bodyPost_end (by simp[results,Tryz.results188,go_sem]) rfl ⟨rfl,rfl⟩
theorem pdq_none{w:World}{A:Option Addr}{c:Nat}{l:Int}{f:Value} :
  Calls Tryz.prog 122 #[.slice A 0 c,.int .i64 0,.int .i64 0,.int .i64 l,f] w (fun e w'=>e=.returned (.tuple #[])∧w=w'):=by
 go_enter Tryz.func122,Tryz.ntmps122
 go_wp2_with fail
 go_loopw [1,2] (fun a b wr=>a=.int .i64 0∧b=.int .i64 0∧w=wr) (fun _ _ _=>0)
 case atStart=>exact⟨by trivial,by trivial,by trivial⟩
 case round =>
  obtain⟨rfl,rfl,rfl⟩:=hrel
  go_wp2_with fail
  refine qY.mono ?_
  rintro e w' ⟨rfl,rfl⟩
  go_wp2_with fail
  exact bodyPost_ret (v:=.tuple #[]) (by simp[results,Tryz.results122,go_sem]) rfl ⟨rfl,rfl⟩
theorem pq{w:World}{A:Option Addr}{c:Nat}{f:Value} :
  Calls Tryz.prog 53 #[.slice A 0 c,f] w (fun e w'=>e=.returned (.tuple #[])∧w=w'):=by
 go_enter Tryz.func53,Tryz.ntmps53
 go_wp2_with fail
 refine(Tryz.bits_Len 0 w (by decide) (by decide)).mono ?_
 rintro e w' ⟨rfl,rfl⟩
 go_wp2_with fail
 refine pdq_none.mono ?_
 rintro e w' ⟨rfl,rfl⟩
 go_wp2_with fail
 exact bodyPost_end (by simp[results,Tryz.results53,go_sem]) rfl ⟨rfl,rfl⟩
end Go.Proofs.YtplldnnnhgnbjaaGreatDoor
namespace Go.Proofs.YtplldnnnhgnbjaaGreatDoor
open Go.RowKit Go.Maps
structure Stp where
 rows:List (List Vl)
 key:List Nat
 bound:List Nat
 fresh:List Nat
 frm:List Nat
 bad:List Vl→Bool
def aJ(y:List Vl)(l:List Nat):List Vl:=l.map (fun i=>y.getD i zv)
def fT(s:Stp)(y:List Vl):List (List Vl):=s.rows.filter (fun c=>decide (aJ c s.key=aJ y s.bound))
def cz(y:List Vl)(c:List Vl):List (Nat×Nat)→List Vl
 | []=>y
 | p::l=>cz (y.set p.1 (c.getD p.2 zv)) c l
def eH(s:Stp)(f:List Vl→List (List Vl)×List Vl):List (List Vl)→List (List Vl)×List Vl→List (List Vl)×List Vl
 | [],acc=>acc
 | c::l,acc=>eH s f l (if s.bad (cz acc.2 c (s.fresh.zip s.frm))=true then (acc.1,cz acc.2 c (s.fresh.zip s.frm)) else (acc.1++(f (cz acc.2 c (s.fresh.zip s.frm))).1,(f (cz acc.2 c (s.fresh.zip s.frm))).2))
def cC:List Stp→List Vl→List (List Vl)×List Vl
 | [],y=>([y],y)
 | s::rest,y=>eH s (cC rest) (fT s y) ([],y)
def agr(B:List Nat)(y z:List Vl):Prop:=∀i∈B,y.getD i zv=z.getD i zv
theorem agr.refl(B:List Nat)(y:List Vl):agr B y y:=fun _ _=>rfl
theorem agr.trans{B:List Nat}{x y z:List Vl}(h:agr B x y)(k:agr B y z):agr B x z:=fun i hi=>(h i hi).trans (k i hi)
theorem agr.sub{B C:List Nat}{x y:List Vl}(h:agr B x y)(hs:∀i∈C,i∈B):agr C x y:=fun i hi=>h i (hs i hi)
theorem ls(c:List Vl):∀(l:List (Nat×Nat)) (y:List Vl),(cz y c l).length=y.length
 | [],y=>rfl
 | p::l,y=>by rw[cz,ls c l,zc]
theorem qO(y:List Vl)(i j:Nat)(v:Vl)(hj:j<y.length):(y.set i v).getD j zv=if i=j then v else y.getD j zv:=by
 rw[jI,jI,List.getElem?_set]
 by_cases h:i=j
 ·subst h
  rw[if_pos rfl,if_pos hj,if_pos rfl]
  rfl
 ·rw[if_neg h,if_neg h]
theorem n4(c:List Vl):∀(l:List (Nat×Nat)) (y:List Vl) (j:Nat),j<y.length→(∀p∈l,p.1≠j)→(cz y c l).getD j zv=y.getD j zv
 | [],y,j,_,_=>rfl
 | p::l,y,j,hj,h=>by
  rw[cz,n4 c l _ j (by rw[zc];exact hj) (fun q hq=>h q (js _ hq)),qO _ _ _ _ hj,if_neg (h p (by simp))]
theorem setF_at(c:List Vl):∀(l:List (Nat×Nat)) (y:List Vl) (p:Nat×Nat),p∈l→p.1<y.length→(l.map Prod.fst).Nodup→(cz y c l).getD p.1 zv=c.getD p.2 zv
 | [],_,p,hp,_,_=>by simp at hp
 | q::l,y,p,hp,hl,hn=>by
  rw[jU,List.nodup_cons]at hn
  rw[cz]
  rcases jB.1 hp with rfl|hp
  ·rw[n4 c l _ _ (by rw[zc];exact hl) (fun r hr e=>hn.1 (jG.2 ⟨r,hr,e⟩)),qO _ _ _ _ hl,if_pos rfl]
  ·exact setF_at c l _ p hp (by rw[zc];exact hl) hn.2
theorem zip_fst:∀(l m:List Nat),l.length=m.length→(l.zip m).map Prod.fst=l
 | [],[],_=>rfl
 | a::l,b::m,h=>by rw[List.zip_cons_cons,jU,zip_fst l m (by simpa using h)]
 | [],b::m,h=>by simp at h
 | a::l,[],h=>by simp at h
structure StOk(n:Nat)(B:List Nat)(s:Stp):Prop where
 len:s.fresh.length=s.frm.length
 nd:s.fresh.Nodup
 new:∀i∈s.fresh,i ∉ B∧i<n
 bd:∀i∈s.bound,i∈B
 rows:s.rows.Nodup
 det:∀c∈s.rows,∀d∈s.rows,aJ c s.key=aJ d s.key→aJ c s.frm=aJ d s.frm→c=d
 bad:∀y z,agr (B++s.fresh) y z→s.bad y=s.bad z
def pr(s:Stp)(z:List Vl):Prop:=(∃c∈s.rows,aJ c s.key=aJ z s.bound∧aJ z s.fresh=aJ c s.frm)∧s.bad z=false
theorem lR{B l:List Nat}{y z:List Vl}(h:agr B y z)(hl:∀i∈l,i∈B):aJ y l=aJ z l:=zH (fun i hi=>h i (hl i hi))
theorem setF_fresh{n:Nat}{B:List Nat}{s:Stp}(ho:StOk n B s){y c:List Vl}(hy:y.length=n):aJ (cz y c (s.fresh.zip s.frm)) s.fresh=aJ c s.frm:=by
 refine zf (by simp[aJ,ho.len]) (fun k h1 h2=>?_)
 have hk:k<s.fresh.length:=by simpa [aJ] using h1
 have se:k<s.frm.length:=by rw[←ho.len];exact hk
 simp only[aJ,jy]
 have hm:(s.fresh[k],s.frm[k])∈s.fresh.zip s.frm:=by
  have:=jf (l:=s.fresh.zip s.frm) (n:=k) (by rw[zu];omega)
  rwa [zB]at this
 exact setF_at c _ y (s.fresh[k],s.frm[k]) hm (by rw[hy];exact(ho.new _ (jf hk)).2) (by rw[zip_fst _ _ ho.len];exact ho.nd)
theorem setF_keep{n:Nat}{B:List Nat}{s:Stp}(ho:StOk n B s){y c:List Vl}(hy:y.length=n)(hB:∀i∈B,i<n):agr B (cz y c (s.fresh.zip s.frm)) y:=fun i hi=>by
 refine n4 c _ y i (by rw[hy];exact hB i hi) (fun p hp e=>?_)
 have h1:=(List.of_mem_zip hp).1
 rw[e]at h1
 exact(ho.new i h1).1 hi
def StsOk(n:Nat):List Nat→List Stp→Prop
 | B,[]=>∀i,i<n→i∈B
 | B,s::l=>StOk n B s∧StsOk n (B++s.fresh) l
theorem sa{n:Nat}:∀(l:List Stp) (B:List Nat) (y:List Vl),StsOk n B l→(∀i∈B,i<n)→y.length=n →
  ((cC l y).2.length=n∧agr B (cC l y).2 y)∧(cC l y).1.Nodup∧∀z,z∈(cC l y).1↔z.length=n∧agr B z y∧∀s∈l,pr s z
 | [],B,y,ho,_,hy=>by
  refine⟨⟨hy,agr.refl _ _⟩,by simp[cC],fun z=>?_⟩
  simp only[cC,jq,zJ,false_imp_iff,implies_true,and_true]
  constructor
  ·rintro rfl
   exact⟨hy,agr.refl _ _⟩
  ·rintro⟨h1,h2⟩
   refine zf (by omega) (fun k hk sC=>?_)
   have h3:=h2 k (ho k (by omega))
   rw[jI,jl hk,jI,jl sC]at h3
   exact h3
 | s::l,B,y,ho,hB,hy=>by
  obtain⟨hs,hl⟩:=ho
  have sr:∀i∈B++s.fresh,i<n:=fun i hi=>by
   rcases ju.1 hi with h|h
   ·exact hB i h
   ·exact(hs.new i h).2
  have ih:=fun (x:List Vl) (hx:x.length=n)=>sa l (B++s.fresh) x hl sr hx
  -- the loop over candidates
  have key:∀(cs:List (List Vl)) (se:List (List Vl)×List Vl),cs.Nodup→(∀c∈cs,c∈s.rows∧aJ c s.key=aJ y s.bound)→se.2.length=n→agr B se.2 y→se.1.Nodup→(∀z∈se.1,∀c∈cs,aJ z s.fresh≠aJ c s.frm) →
    ((eH s (cC l) cs se).2.length=n∧agr B (eH s (cC l) cs se).2 y)∧(eH s (cC l) cs se).1.Nodup∧∀z,z∈(eH s (cC l) cs se).1↔z∈se.1∨∃c∈cs,z.length=n∧agr B z y∧aJ z s.fresh=aJ c s.frm∧s.bad z=false∧∀t∈l,pr t z:=by
   intro cs
   induction cs with
   | nil =>
    intro se _ _ h1 h2 h3 _
    exact⟨⟨h1,h2⟩,h3,fun z=>by simp[eH]⟩
   | cons c cs ihc =>
    intro se hn hc h1 h2 h3 h4
    rw[List.nodup_cons]at hn
    obtain⟨sx,sy⟩:=hc c (by simp)
    have sp:(cz se.2 c (s.fresh.zip s.frm)).length=n:=by rw[ls];exact h1
    have sg:agr B (cz se.2 c (s.fresh.zip s.frm)) y:=(setF_keep hs h1 hB).trans h2
    have sq:=setF_fresh hs (y:=se.2) (c:=c) h1
    have si:∀d∈cs,aJ c s.frm≠aJ d s.frm:=fun d hd e=>by
     obtain⟨sA,sB⟩:=hc d (js _ hd)
     exact hn.1 (by rw[hs.det c sx d sA (sy.trans sB.symm) e];exact hd)
    have sh:∀z,(z.length=n∧agr (B++s.fresh) z (cz se.2 c (s.fresh.zip s.frm)))↔(z.length=n∧agr B z y∧aJ z s.fresh=aJ c s.frm):=fun z=>by
     constructor
     ·rintro⟨k1,k2⟩
      exact⟨k1,(k2.sub (fun i hi=>jP _ hi)).trans sg,by rw[lR k2 (fun i hi=>zq _ hi),sq]⟩
     ·rintro⟨k1,k2,k3⟩
      refine⟨k1,fun i hi=>?_⟩
      rcases ju.1 hi with h|h
      ·exact(k2 i h).trans (sg i h).symm
      ·rw[←sq]at k3
       unfold aJ at k3
       exact List.map_inj_left.1 k3 i h
    rw[eH]
    by_cases hb:s.bad (cz se.2 c (s.fresh.zip s.frm))=true
    ·rw[if_pos hb]
     obtain⟨i1,i2,i3⟩:=ihc (se.1,cz se.2 c (s.fresh.zip s.frm)) hn.2 (fun d hd=>hc d (js _ hd)) sp sg h3 (fun z hz d hd=>h4 z hz d (js _ hd))
     refine⟨i1,i2,fun z=>?_⟩
     rw[i3 z]
     constructor
     ·rintro(h|⟨d,hd,h⟩)
      ·exact .inl h
      ·exact .inr ⟨d,js _ hd,h⟩
     ·rintro(h|⟨d,hd,k1,k2,k3,k4,k5⟩)
      ·exact .inl h
      ·rcases jB.1 hd with rfl|hd
       ·have h6:=(sh z).2 ⟨k1,k2,k3⟩
        rw[hs.bad _ _ h6.2,hb]at k4
        cases k4
       ·exact .inr ⟨d,hd,k1,k2,k3,k4,k5⟩
    ·rw[if_neg hb]
     obtain⟨⟨j1,j2⟩,j3,j4⟩:=ih _ sp
     have sj:∀z∈(cC l (cz se.2 c (s.fresh.zip s.frm))).1,aJ z s.fresh=aJ c s.frm:=fun z hz=>by
      obtain⟨k1,k2,-⟩:=(j4 z).1 hz
      exact((sh z).1 ⟨k1,k2⟩).2.2
     obtain⟨i1,i2,i3⟩:=ihc (se.1++(cC l (cz se.2 c (s.fresh.zip s.frm))).1,(cC l (cz se.2 c (s.fresh.zip s.frm))).2) hn.2 (fun d hd=>hc d (js _ hd)) j1 ((j2.sub (fun i hi=>jP _ hi)).trans sg)
      (by
       rw[zF]
       refine⟨h3,j3,fun a ha b su e=>?_⟩
       subst e
       exact h4 a ha c (by simp) (sj a su))
      (fun z hz d hd=>by
       rcases ju.1 hz with h|h
       ·exact h4 z h d (js _ hd)
       ·rw[sj z h]
        exact si d hd)
     refine⟨i1,i2,fun z=>?_⟩
     rw[i3 z,ju,j4 z]
     have sw:agr (B++s.fresh) z (cz se.2 c (s.fresh.zip s.frm))→s.bad z=false:=fun h=>by
      rw[hs.bad _ _ h]
      simpa using hb
     constructor
     ·rintro((h|⟨k1,k2,k3⟩)|⟨d,hd,h⟩)
      ·exact .inl h
      ·have h6:=(sh z).1 ⟨k1,k2⟩
       exact .inr ⟨c,by simp,h6.1,h6.2.1,h6.2.2,sw k2,k3⟩
      ·exact .inr ⟨d,js _ hd,h⟩
     ·rintro(h|⟨d,hd,k1,k2,k3,k4,k5⟩)
      ·exact .inl (.inl h)
      ·rcases jB.1 hd with rfl|hd
       ·have h6:=(sh z).2 ⟨k1,k2,k3⟩
        exact .inl (.inr ⟨h6.1,h6.2,k5⟩)
       ·exact .inr ⟨d,hd,k1,k2,k3,k4,k5⟩
  obtain⟨i1,i2,i3⟩:=key (fT s y) ([],y) (hs.rows.sublist List.filter_sublist) (fun c hc=>by
   obtain⟨k1,k2⟩:=jC.1 hc
   exact⟨k1,of_decide_eq_true k2⟩) hy (agr.refl _ _) zC (fun z hz=>by simp at hz)
  refine⟨i1,i2,fun z=>?_⟩
  rw[show cC (s::l) y=eH s (cC l) (fT s y) ([],y) from rfl,i3 z]
  simp only[zJ,false_or,List.forall_mem_cons]
  constructor
  ·rintro⟨c,hc,k1,k2,k3,k4,k5⟩
   obtain⟨m1,m2⟩:=jC.1 hc
   refine⟨k1,k2,⟨⟨c,m1,?_,k3⟩,k4⟩,k5⟩
   rw[of_decide_eq_true m2]
   exact(lR k2 hs.bd).symm
  ·rintro⟨k1,k2,⟨⟨c,m1,m2,m3⟩,k4⟩,k5⟩
   refine⟨c,jC.2 ⟨m1,decide_eq_true ?_⟩,k1,k2,m3,k4,k5⟩
   rw[m2]
   exact lR k2 hs.bd
end Go.Proofs.YtplldnnnhgnbjaaGreatDoor
namespace Go.Proofs.YtplldnnnhgnbjaaGreatDoor
open Go.RowKit Go.Maps
def qR(op c:Int):Bool:=if op=0 then c == 0 else if op=1 then c != 0 else if op=2 then decide (c<0) else if op=3 then decide (c≤0) else if op=4 then decide (0<c) else decide (0≤c)
def okV(a:Vl):Bool:=dY a.kind a.int a.str
def lF(a:Vl)(op:Int)(b:Vl)(w:World)(e:Ending)(w':World):Prop :=
 Ext w w'∧((0≤op∧op≤5∧okV a=true∧okV b=true∧e=.returned (.tuple #[.bool (qR op (cT a b)),.int .i64 0]))∨(∃c,c≠0∧(op<0∨5<op∨okV a=false∨okV b=false)∧e=.returned (.tuple #[.bool false,.int .i64 c])))
abbrev rX (a:Vl):Value:=.agg #[.int .i64 a.kind,.int .i64 a.int,.string a.str]
theorem holds_any{w:World}{a b:Vl}{op:Int}(ha:a.str.size≤maxLen)(hb:b.str.size≤maxLen) :
  Calls Tryz.prog 270 #[rX a,.int .i64 op,rX b] w (lF a op b w):=by
 have HV:=zN (fun (V:World)=>me a b V)
 have HA:=zN (fun (V:World)=>cG a.kind a.int a.str V ha)
 have HB:=zN (fun (V:World)=>cG b.kind b.int b.str V hb)
 obtain⟨z,hz⟩:=sd (cT a b)
 obtain⟨oa,sp⟩:=sd (okV a)
 obtain⟨ob,sq⟩:=sd (okV b)
 have si:oa=dY a.kind a.int a.str:=sp
 have sj:ob=dY b.kind b.int b.str:=sq
 have HQ:=zN (fun (V:World) (e:Ending) (h:Ext w V∧((0≤op∧op≤5∧oa=true∧ob=true∧e=.returned (.tuple #[.bool (qR op z),.int .i64 0]))∨(∃c,c≠0∧(op<0∨5<op∨oa=false∨ob=false)∧e=.returned (.tuple #[.bool false,.int .i64 c]))))=>(show lF a op b w e V by
  unfold lF
  rw[←hz,←sp,←sq]
  exact h))
 rw[←hz]at HV
 rw[←si]at HA
 rw[←sj]at HB
 clear hz sp sq si sj ha hb
 obtain⟨ak,ai,sh⟩:=a
 obtain⟨bk,bi,bs⟩:=b
 unfold rX
 simp only at HV HA HB ⊢
 have k2:=bH w 51 51 [.int .i64 ak,.int .i64 ai,.string sh] [.int .i64 bk,.int .i64 bi,.string bs]
 have hx:Ext w ((w.alloc (.cells #[.int .i64 ak,.int .i64 ai,.string sh] 51)).alloc (.cells #[.int .i64 bk,.int .i64 bi,.string bs] 51)):=((Ext.refl w).alloc _).alloc _
 go_enter Tryz.func270,Tryz.ntmps270
 go_upto_region 1 with fail
 change Bk ((w.alloc (.cells #[.int .i64 ak,.int .i64 ai,.string sh] 51)).alloc (.cells #[.int .i64 bk,.int .i64 bi,.string bs] 51)) _ _ _∧Bk ((w.alloc (.cells #[.int .i64 ak,.int .i64 ai,.string sh] 51)).alloc (.cells #[.int .i64 bk,.int .i64 bi,.string bs] 51)) _ _ _ at k2
 generalize ((w.alloc (.cells #[.int .i64 ak,.int .i64 ai,.string sh] 51)).alloc (.cells #[.int .i64 bk,.int .i64 bi,.string bs] 51))=w1 at *
 obtain⟨ka,kb⟩:=k2
 have a0:=ka.c0;have a1:=ka.c1;have a2:=ka.c2
 have b0:=kb.c0;have b1:=kb.c1;have b2:=kb.c2
 have HX:=zN hx
 clear ka kb hx
 by_cases h0:op<0
 ·clear a0 a1 a2 b0 b1 b2
  go_wp2_with fail
  go_ret2
  exact HQ.out _ _ ⟨HX.out,.inr ⟨2,by decide,.inl h0,rfl⟩⟩
 by_cases h5 : 5<op
 ·clear a0 a1 a2 b0 b1 b2
  go_wp2_with fail
  go_ret2
  exact HQ.out _ _ ⟨HX.out,.inr ⟨2,by decide,.inr (.inl h5),rfl⟩⟩
 go_wp2_with fail
 refine(HA.out _).mono ?_
 rintro e w2 ⟨y,rfl,se,rfl⟩
 replace a0:=se.cell a0;replace a1:=se.cell a1;replace a2:=se.cell a2;replace b0:=se.cell b0;replace b1:=se.cell b1;replace b2:=se.cell b2
 have sr:=zN (HX.out.trans se)
 clear se
 rcases oa with _|_
 ·clear a0 a1 a2 b0 b1 b2
  go_wp2_with fail
  go_ret2
  exact HQ.out _ _ ⟨sr.out,.inr ⟨4,by decide,.inr (.inr (.inl (by trivial))),rfl⟩⟩
 go_wp2_with fail
 refine(HB.out _).mono ?_
 rintro e w3 ⟨y,rfl,sg,rfl⟩
 replace a0:=sg.cell a0;replace a1:=sg.cell a1;replace a2:=sg.cell a2;replace b0:=sg.cell b0;replace b1:=sg.cell b1;replace b2:=sg.cell b2
 have su:=zN (sr.out.trans sg)
 clear sg
 rcases ob with _|_
 ·clear a0 a1 a2 b0 b1 b2
  go_wp2_with fail
  go_ret2
  exact HQ.out _ _ ⟨su.out,.inr ⟨4,by decide,.inr (.inr (.inr (by trivial))),rfl⟩⟩
 go_wp2_with fail
 refine(HV.out _).mono ?_
 rintro e w4 ⟨rfl,hg⟩
 have sw:=zN (su.out.trans hg.ext)
 clear hg a0 a1 a2 b0 b1 b2
 have sx:op=0∨op=1∨op=2∨op=3∨op=4∨op=5:=by omega
 clear h0 h5
 rcases sx with rfl|rfl|rfl|rfl|rfl|rfl
 all_goals
  go_wp2_with fail
  go_ret2
  exact HQ.out _ _ ⟨sw.out,.inl ⟨by decide,by decide,by trivial,by trivial,rfl⟩⟩
end Go.Proofs.YtplldnnnhgnbjaaGreatDoor
