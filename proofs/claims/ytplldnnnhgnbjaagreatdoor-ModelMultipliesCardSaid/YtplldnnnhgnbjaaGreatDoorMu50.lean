/- packed -/
import Derived.Test.YtplldnnnhgnbjaaGreatDoorMu49
import Derived.Test.YtplldnnnhgnbjaaGreatDoorMu48
namespace Go.Proofs.YtplldnnnhgnbjaaGreatDoor
open Go.RowKit Go.Maps
def q0:Qy:=⟨[],0,⟨#[]⟩,[],[]⟩
structure MulIn(w:World)(S U A1 C1 A2 C2:Option Addr)(ns cs nu cu d1 e1 d2 e2:Nat)(ss:List Sc)(us:List Up)(r1 r2:Rl):Prop where
 law:LawIn U1 U1 U1 w S U none none none ns cs nu cu 0 0 0 ss us q0
 a1:Sl rdAt U1 w (.slice A1 r1.ats.length d1) r1.ats
 c1:Sl rdCd U1 w (.slice C1 r1.cds.length e1) r1.cds
 a2:Sl rdAt U1 w (.slice A2 r2.ats.length d2) r2.ats
 c2:Sl rdCd U1 w (.slice C2 r2.cds.length e2) r2.cds
 z1:RlN r1
 z2:RlN r2
theorem MulIn.ext{w w':World}{S U A1 C1 A2 C2:Option Addr}{ns cs nu cu d1 e1 d2 e2:Nat}{ss:List Sc}{us:List Up}{r1 r2:Rl}(h:MulIn w S U A1 C1 A2 C2 ns cs nu cu d1 e1 d2 e2 ss us r1 r2)(he:Ext w w'):MulIn w' S U A1 C1 A2 C2 ns cs nu cu d1 e1 d2 e2 ss us r1 r2 :=
 ⟨h.law.ext he,h.a1.ext he,h.c1.ext he,h.a2.ext he,h.c2.ext he,h.z1,h.z2⟩
theorem Sl.newsA{α : Type}{r:Rdg α}{F:Nat→Prop}{w:World}{A:Option Addr}{n c:Nat}{xs:List α}(h:Sl r F w (.slice A n c) xs)(hp : 0<r.sz):∃css:List (List Value),css.length=xs.length∧css.flatten.length=n*r.sz∧(∀i (h:i<xs.length) (h':i<css.length),r.R F w css[i] xs[i])∧∀j u,css.flatten[j]?=some u→∃ad,A=some ad∧w.cell? (ad.add j)=some u:=by
 rcases A with _|ad
 ·have hc:=h.cap.1
  obtain⟨A',c',e,h1,h2⟩:=h
  injection e with e1 e2 e3
  have hn:xs.length=0:=by
   rcases zH xs.length with h0|h0
   ·exact h0
   ·obtain⟨ad,cs,q1,-⟩:=h2 0 h0
    rw[←e1]at q1
    cases q1
  obtain rfl:xs=[]:=jS hn
  refine⟨[],rfl,?_,fun i hi=>by simp at hi,fun j u hu=>by simp at hu⟩
  rw[hc]
  simp
 ·obtain⟨css,k1,k2,k3,k4⟩:=h.news hp
  exact⟨css,k1,k2,k3,fun j u hu=>⟨ad,rfl,k4 j u hu⟩⟩
theorem two_sl{α : Type}{r:Rdg α}{F G:Nat→Prop}{w1 W:World}{n:Nat}{E:TypeId}{v:Value}{xs ys:List α}{css dss:List (List Value)}(hp : 0<r.sz)(hx:css.length=xs.length)(rx:∀i (h:i<xs.length) (h':i<css.length),r.R F w1 css[i] xs[i])(hy:dss.length=ys.length)(ry:∀i (h:i<ys.length) (h':i<dss.length),r.R G w1 dss[i] ys[i])(he:Ext w1 W)(ho:W.ownsRow w1.heap.size E r.sz v n (css.flatten++dss.flatten)):Sl r (fun _=>True) W v (xs++ys):=by
 refine(show RwG r (fun k=>k<w1.heap.size) W w1.heap.size E v n (xs++ys) (css++dss) from ⟨by simp[hx,hy],by rw[List.flatten_append];exact ho,fun i hi hi'=>?_,fun k hk=>⟨fun e=>by have:=own_ge ho e;omega,jM hk he.size⟩⟩).sl hp (fun _ _=>trivial) (fun _ _=>trivial)
 rcases jB i xs.length with h|h
 ·rw[jx h,jx (by omega)]
  exact r.ext (r.mono (rx i h (by omega)) (fun k hk _=>hk)) he
 ·rw[jl]at hi hi'
  rw[jw h,jw (by omega)]
  have e:i-css.length=i-xs.length:=by rw[hx]
  simp only[e]
  exact r.ext (r.mono (ry (i-xs.length) (by omega) (by omega)) (fun k hk _=>hk)) he
theorem one_rl(W:World){F G:Nat→Prop}{u v:Value}{r:Rl}(hA:Ats F W u r.ats)(hC:Sl rdCd G W v r.cds):Sl rdRl (fun _=>True) (W.alloc (.cells #[u,v] 46)) (.slice (some ⟨W.heap.size,0,none⟩) 1 1) [r]:=by
 have kb:=Bk.new W 46 [u,v]
 refine⟨_,_,rfl,jq _,fun i hi=>?_⟩
 have hi0:i=0:=by simpa using hi
 subst hi0
 refine⟨_,_,rfl,trivial,⟨u,v,rfl,(hA.ext ((Ext.refl W).alloc _)).mono (fun _ _ _=>trivial),(hC.ext ((Ext.refl W).alloc _)).mono (by decide) (fun _ _ _=>trivial)⟩,fun j hj=>?_⟩
 have h3:j<2:=hj
 rw[add_zero',show 0*rdRl.sz+j=j by omega]
 exact kb.cell h3
theorem at_one{F:Nat→Prop}{w:World}{cs:List Value}{a:At}(h:rdAt.R F w cs a):∀u∈cs,u.oneCell'=true:=by
 obtain⟨u,rfl,h1⟩:=h
 obtain⟨_,_,rfl,-⟩:=h1
 intro x hx
 simp only[jC,zz,or_false]at hx
 rcases hx with rfl|rfl|rfl <;> rfl
theorem cd_one{F:Nat→Prop}{w:World}{cs:List Value}{a:Cd}(h:rdCd.R F w cs a):∀u∈cs,u.oneCell'=true:=by
 obtain rfl:=h
 intro x hx
 simp only[Cd.cells,jC,zz,or_false]at hx
 rcases hx with rfl|rfl|rfl|rfl|rfl <;> rfl
theorem AssignsPost.form{M:Dm}{r:Rl}{w:World}{e:Ending}{w':World}(h:AssignsPost M r w e w'):Ext w w'∧∃(A:Option Addr) (n c:Nat),e=.returned (.tuple #[.slice A n c,.int .i64 (validE M r)])∧n≤1500∧(validE M r=0→∃L,n=L.length∧AsgL M r L):=by
 obtain⟨he,⟨h0,rfl⟩|⟨h0,A,c,L,rfl,h1,h2,h3⟩⟩:=h
 ·exact⟨he,none,0,0,rfl,by omega,fun h=>absurd h h0⟩
 ·exact⟨he,A,_,c,by rw[h0],h1,fun _=>⟨L,rfl,h2,h3⟩⟩
theorem both_lenv{r s:Rl}(h1:(varsR r).length≤6)(h2:(varsR s).length≤6):(varsC r).length≤6∧(varsC s).length≤6∧(varsC (bothR r s)).length≤12:=by
 have k1:=len_sub (varsC_nodup r) (fun v hv=>vars_ref hv)
 have k2:=len_sub (varsC_nodup s) (fun v hv=>vars_ref hv)
 have k3:=len_sub (varsC_nodup (bothR r s)) (m:=varsC r++varsC s) (fun v hv=>jp.2 (both_vars.1 hv))
 rw[jl]at k3
 omega
