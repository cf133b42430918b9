/- packed -/
import Derived.Test.YtplldnnnhgnbjaaGreatDoorProg
import Derived.Test.YtplldnnnhgnbjaaGreatDoorMv01
import Derived.BigQuiet
import Derived.Deep.AppendLies
import Derived.Deep.CutBlock
import Derived.Deep.DeepCutAuto
import Derived.Deep.QuietTactic
import Derived.Deep.RegionHeld3
import Derived.Deep.RegionLaw
import Derived.Deep.Upon
import Derived.KernelRfl
import Derived.Laws.BytesString
import Derived.Laws.EntriesVeiled
import Derived.Lib.AppendStr
import Derived.Lib.Hide
import Derived.Lib.ItoaLen
import Derived.Lib.SliceRun
import Derived.Maps.OwnOps
import Derived.Maps.OwnSet
import Derived.Maps.Views
import Derived.OwnWalk
import Derived.Shelf.Slices.Clone
import Derived.WalkKit
import Derived.WalkLawsBesides
import Derived.WalkSpells
set_option maxRecDepth 20000
set_option maxHeartbeats 800000
namespace Go.Proofs.YtplldnnnhgnbjaaGreatDoor
open Go.RowKit Go.Maps
structure Fr(S:Nat→Prop)(w w':World):Prop where
 os:w'.os=w.os
 tape:w'.tape=w.tape
 output:w'.output=w.output
 size:w.heap.size≤w'.heap.size
 block:∀k,k<w.heap.size→¬S k→w'.heap[k]?=w.heap[k]?
def Ext(w w':World):Prop:=Below w.heap.size w w'
theorem Ext.refl(w:World):Ext w w:=Below.refl _ _
theorem Ext.size{w w':World}(h:Ext w w'):w.heap.size≤w'.heap.size:=Below.size h
theorem Ext.trans{a b c:World}(h:Ext a b)(k:Ext b c):Ext a c:=Below.trans h (Below.mono k h.size)
theorem Ext.drew{a w:World}(h:Ext a w):Ext a w.drew:=Below.drew h
theorem Ext.drewN{a w:World}(h:Ext a w)(n:Nat):Ext a (w.drewN n):=⟨h.os,h.tape,h.output,h.size,h.block⟩
theorem Ext.alloc{a w:World}(h:Ext a w)(o:Obj):Ext a (w.alloc o):=Below.alloc h h.size o
theorem Ext.setCell{a w:World}(h:Ext a w){p:Addr}(hp:a.heap.size≤p.block)(u:Value):Ext a (w.setCell p u):=Below.setCell h hp u
theorem Ext.heap{w w':World}(h:Ext w w'){k:Nat}(hk:k<w.heap.size):w'.heap[k]?=w.heap[k]?:=Below.block h k hk
theorem Ext.fr{w w':World}(h:Ext w w')(S:Nat→Prop):Fr S w w':=⟨h.os,h.tape,h.output,h.size,fun _ hk _=>h.heap hk⟩
theorem Fr.refl(S:Nat→Prop)(w:World):Fr S w w:=(Ext.refl w).fr S
theorem Fr.mono{S T:Nat→Prop}{w w':World}(h:Fr S w w')(hs:∀k,k<w.heap.size→S k→T k):Fr T w w':=⟨h.os,h.tape,h.output,h.size,fun k hk hn=>h.block k hk (fun e=>hn (hs k hk e))⟩
theorem Fr.trans{S:Nat→Prop}{a b c:World}(h:Fr S a b)(k:Fr S b c):Fr S a c :=
 ⟨k.os.trans h.os,k.tape.trans h.tape,k.output.trans h.output,jr h.size k.size,fun i hi hn=>(k.block i (jE hi h.size) hn).trans (h.block i hi hn)⟩
theorem Fr.comp{S T:Nat→Prop}{a b c:World}(h:Fr S a b)(k:Fr T b c)(hs:∀k,T k→S k∨a.heap.size≤k):Fr S a c :=
 ⟨k.os.trans h.os,k.tape.trans h.tape,k.output.trans h.output,jr h.size k.size,fun i hi hn=>(k.block i (jE hi h.size) (fun e=>by rcases hs i e with h1|h1;exact hn h1;omega)).trans (h.block i hi hn)⟩
theorem Fr.ext{S:Nat→Prop}{a b c:World}(h:Fr S a b)(k:Ext b c):Fr S a c:=h.trans (k.fr S)
theorem Fr.new{S:Nat→Prop}{a w w':World}(ha:Ext a w)(h:Fr S w w')(hS:∀k,S k→a.heap.size≤k):Ext a w' :=
 ⟨h.os.trans ha.os,h.tape.trans ha.tape,h.output.trans ha.output,jr ha.size h.size,
  fun k hk=>(h.block k (jE hk ha.size) (fun e=>by have:=hS k e;omega)).trans (ha.heap hk)⟩
theorem Fr.grown{S:Nat→Prop}{a w w':World}{row:Option Nat}(h:Fr S a w)(hg:w.grownBy w' row)(hr:∀k,row=some k→S k∨a.heap.size≤k):Fr S a w' :=
 ⟨hg.os.trans h.os,hg.tape.trans h.tape,hg.output.trans h.output,jr h.size hg.size,fun k hk hn =>
  (hg.block k (jE hk h.size) (fun e=>by rcases hr k e.symm with h1|h1;exact hn h1;omega)).trans (h.block k hk hn)⟩
theorem Fr.setCell{S:Nat→Prop}{a w:World}(h:Fr S a w){p:Addr}(hp:S p.block∨a.heap.size≤p.block)(u:Value):Fr S a (w.setCell p u) :=
 ⟨h.os,h.tape,h.output,by simpa [World.setCell] using h.size,fun i hi hn=>(Below.heap_setCell w p u i (by
  rintro rfl
  rcases hp with e|e
  ·exact hn e
  ·omega)).trans (h.block i hi hn)⟩
theorem Ext.grown{a w w':World}{row:Option Nat}(h:Ext a w)(hg:w.grownBy w' row)(hr:∀k,row=some k→a.heap.size≤k):Ext a w':=Below.grown h hg h.size hr
theorem am{w w':World}{row:Option Nat}(hg:w.grownBy w' row):Fr (fun k=>row=some k) w w':=⟨hg.os,hg.tape,hg.output,hg.size,fun k hk hn=>hg.block k hk (fun e=>hn e.symm)⟩
theorem eh{w:World}{p:Addr}{v:Value}(h:w.cell? p=some v):p.block<w.heap.size:=by
 rcases jz p.block w.heap.size with sg|se
 ·exact sg
 ·simp[World.cell?,zI se]at h
theorem Ext.cell{w w':World}(h:Ext w w'){p:Addr}{v:Value}(hc:w.cell? p=some v):w'.cell? p=some v:=(Below.cell h (eh hc)).trans hc
theorem Fr.cell{S:Nat→Prop}{w w':World}(h:Fr S w w'){p:Addr}{v:Value}(hc:w.cell? p=some v)(hp:¬S p.block):w'.cell? p=some v :=
 (World.cell?_of_block (h.block _ (eh hc) hp)).trans hc
theorem aT(a:Addr)(n:Nat):(a.add n).block=a.block:=by unfold Addr.add;split <;> rfl
theorem add_add(a:Addr)(i j:Nat):(a.add i).add j=a.add (i+j):=by
 unfold Addr.add
 by_cases hi:i=0 <;> by_cases hj:j=0 <;> simp[hi,hj,Nat.add_assoc]
theorem add_own(g i:Nat):(⟨g,0,none⟩:Addr).add i=⟨g,i,none⟩:=by rcases i with _|i <;> simp[Addr.add]
def Bk(w:World)(g:Nat)(t:TypeId)(xs:List Value):Prop:=w.heap[g]?=some (.cells xs.toArray t (0,0))
theorem Bk.lt{w:World}{g:Nat}{t:TypeId}{xs:List Value}(h:Bk w g t xs):g<w.heap.size:=by
 rcases jz g w.heap.size with h1|h1
 ·exact h1
 ·unfold Bk at h;rw[zI h1]at h;cases h
theorem Bk.cell{w:World}{g:Nat}{t:TypeId}{xs:List Value}(h:Bk w g t xs){i:Nat}(hi:i<xs.length):w.cell? ⟨g,i,none⟩=some xs[i]:=by
 unfold Bk at h;simp[World.cell?,h,hi]
theorem Bk.c0{w:World}{g:Nat}{t:TypeId}{a0:Value}{l:List Value}(h:Bk w g t (a0::l)):w.cell? ⟨g,0,none⟩=some a0:=h.cell (i:=0) (by simp)
theorem Bk.c1{w:World}{g:Nat}{t:TypeId}{a0 a1:Value}{l:List Value}(h:Bk w g t (a0::a1::l)):w.cell? ⟨g,1,none⟩=some a1:=h.cell (i:=1) (by simp)
theorem Bk.c2{w:World}{g:Nat}{t:TypeId}{a0 a1 a2:Value}{l:List Value}(h:Bk w g t (a0::a1::a2::l)):w.cell? ⟨g,2,none⟩=some a2:=h.cell (i:=2) (by simp)
theorem Bk.c3{w:World}{g:Nat}{t:TypeId}{a0 a1 a2 a3:Value}{l:List Value}(h:Bk w g t (a0::a1::a2::a3::l)):w.cell? ⟨g,3,none⟩=some a3:=h.cell (i:=3) (by simp)
theorem Bk.c4{w:World}{g:Nat}{t:TypeId}{a0 a1 a2 a3 a4:Value}{l:List Value}(h:Bk w g t (a0::a1::a2::a3::a4::l)):w.cell? ⟨g,4,none⟩=some a4:=h.cell (i:=4) (by simp)
theorem Bk.c5{w:World}{g:Nat}{t:TypeId}{a0 a1 a2 a3 a4 a5:Value}{l:List Value}(h:Bk w g t (a0::a1::a2::a3::a4::a5::l)):w.cell? ⟨g,5,none⟩=some a5:=h.cell (i:=5) (by simp)
theorem Bk.c6{w:World}{g:Nat}{t:TypeId}{a0 a1 a2 a3 a4 a5 a6:Value}{l:List Value}(h:Bk w g t (a0::a1::a2::a3::a4::a5::a6::l)):w.cell? ⟨g,6,none⟩=some a6:=h.cell (i:=6) (by simp)
theorem Bk.c7{w:World}{g:Nat}{t:TypeId}{a0 a1 a2 a3 a4 a5 a6 a7:Value}{l:List Value}(h:Bk w g t (a0::a1::a2::a3::a4::a5::a6::a7::l)):w.cell? ⟨g,7,none⟩=some a7:=h.cell (i:=7) (by simp)
theorem Bk.free{w:World}{g:Nat}{t:TypeId}{xs:List Value}(h:Bk w g t xs)(i:Nat):w.frozen? ⟨g,i,none⟩=false:=by
 unfold Bk at h;simp[World.frozen?,h]
theorem Bk.set{w:World}{g:Nat}{t:TypeId}{xs:List Value}(h:Bk w g t xs)(i:Nat)(u:Value):Bk (w.setCell ⟨g,i,none⟩ u) g t (xs.set i u):=by
 unfold Bk at h ⊢;simp[World.setCell,zM,h]
theorem Bk.ext{w w':World}{g:Nat}{t:TypeId}{xs:List Value}(h:Bk w g t xs)(he:Ext w w'):Bk w' g t xs:=(he.heap h.lt).trans h
theorem Bk.fr{S:Nat→Prop}{w w':World}{g:Nat}{t:TypeId}{xs:List Value}(h:Bk w g t xs)(hf:Fr S w w')(hg:¬S g):Bk w' g t xs:=(hf.block g h.lt hg).trans h
theorem Bk.alloc{w:World}{g:Nat}{t:TypeId}{xs:List Value}(h:Bk w g t xs)(o:Obj):Bk (w.alloc o) g t xs:=h.ext ((Ext.refl w).alloc o)
theorem Bk.new(w:World)(t:TypeId)(xs:List Value):Bk (w.alloc (.cells xs.toArray t)) w.heap.size t xs:=by
 show (w.heap.push _)[w.heap.size]?=_
 simp
theorem Bk.ne{w:World}{g h:Nat}{t u:TypeId}{xs:List Value}{o:Array Value}(hb:Bk w g t xs)(hc:w.heap[h]?=some (.cells o u (0,0)))(se:t≠u):g≠h:=fun e=>by
 subst e
 have:=hb.symm.trans hc
 injection this with this;injection this with _ this;exact se this
def Ret(S:Value→World→Prop)(w:World)(e:Ending)(w':World):Prop:=∃v,e=.returned v∧Ext w w'∧S v w'
theorem Ret.mk{S:Value→World→Prop}{w w':World}{v:Value}(he:Ext w w')(hs:S v w'):Ret S w (.returned v) w':=⟨v,rfl,he,hs⟩
def Cl(F:Nat→Prop)(w:World)(A:Option Addr)(xs:List Value):Prop :=
 xs=[]∨∃ad,A=some ad∧F ad.block∧∀j (h:j<xs.length),w.cell? (ad.add j)=some xs[j]
theorem Cl.ext{F:Nat→Prop}{w w':World}{A:Option Addr}{xs:List Value}(h:Cl F w A xs)(he:Ext w w'):Cl F w' A xs:=by
 rcases h with h|⟨ad,h1,h2,h3⟩
 ·exact .inl h
 ·exact .inr ⟨ad,h1,h2,fun j hj=>he.cell (h3 j hj)⟩
theorem Cl.fr{S F:Nat→Prop}{w w':World}{A:Option Addr}{xs:List Value}(h:Cl F w A xs)(hf:Fr S w w')(hs:∀k,F k→¬S k):Cl F w' A xs:=by
 rcases h with h|⟨ad,h1,h2,h3⟩
 ·exact .inl h
 ·exact .inr ⟨ad,h1,h2,fun j hj=>hf.cell (h3 j hj) (by rw[aT];exact hs _ h2)⟩
theorem Cl.mono{F G:Nat→Prop}{w:World}{A:Option Addr}{xs:List Value}(h:Cl F w A xs)(hs:∀k,k<w.heap.size→F k→G k):Cl G w A xs:=by
 rcases h with h|⟨ad,h1,h2,h3⟩
 ·exact .inl h
 ·rcases xs with _|⟨x,xs⟩
  ·exact .inl rfl
  ·refine .inr ⟨ad,h1,hs _ ?_ h2,h3⟩
   have:=eh (h3 0 (by simp))
   rwa [aT]at this
theorem Cl.at'{F:Nat→Prop}{w:World}{A:Option Addr}{xs:List Value}(h:Cl F w A xs){j:Nat}{x:Value}(hj:xs[j]?=some x):∃ad,A=some ad∧F ad.block∧w.cell? (ad.add j)=some x:=by
 rcases h with rfl|⟨ad,h1,h2,h3⟩
 ·simp at hj
 ·obtain⟨hl,e⟩:=zj.1 hj
  exact⟨ad,h1,h2,by rw[h3 j hl,e]⟩
theorem Cl.of_own{w:World}{base size n:Nat}{e:TypeId}{v:Value}{xs:List Value}(h:w.ownsRow base e size v n xs):∃A c,v=.slice A n c∧n≤c∧Cl (fun k=>v.ownBlock=some k∧base≤k) w A xs:=by
 obtain⟨hl,h⟩:=h
 rcases h with ⟨rfl,rfl⟩|⟨g,cap,se,rfl,hb,hc,hn,hm,hs,hx⟩
 ·exact⟨none,0,rfl,jo _,.inl (by simpa using hl)⟩
 ·refine⟨_,_,rfl,hn,.inr ⟨_,rfl,⟨rfl,hb⟩,fun j hj=>?_⟩⟩
  subst hx
  rw[add_own]
  have sg:j<se.size:=by simp at hj;omega
  simp[World.cell?,hc,sg]
theorem af{w:World}{base size n:Nat}{e:TypeId}{v:Value}{xs:List Value}(h:w.ownsRow base e size v n xs):∃A c,v=.slice A n c:=by
 obtain⟨A,c,h,_⟩:=Cl.of_own h;exact⟨A,c,h⟩
structure Tm where
 var:ByteArray
 kind:Int
 int:Int
 str:ByteArray
deriving DecidableEq
def Tm.cells(t:Tm):List Value:=[.string t.var,.int .i64 t.kind,.int .i64 t.int,.string t.str]
def dM(ts:List Tm):List Value:=ts.flatMap Tm.cells
theorem eP:∀{ts:List Tm} {i:Nat} (hi:i<ts.length) (j:Nat),j<4→(dM ts)[4*i+j]?=(ts[i].cells)[j]?
 | t::ts,0,_,j,hj=>by
  simp only[dM,jS,Nat.mul_zero,jY,ja]
  rw[zi (by simpa [Tm.cells] using hj)]
 | t::ts,i+1,hi,j,hj=>by
  have ih:=eP (ts:=ts) (i:=i) (by simpa using hi) j hj
  simp only[dM,jS,je]at ih ⊢
  rw[zg (by simp[Tm.cells];omega)]
  rw[←ih]
  congr 1
  simp[Tm.cells];omega
def Ts(F:Nat→Prop)(w:World)(v:Value)(ts:List Tm):Prop:=∃A c,v=.slice A ts.length c∧ts.length≤c∧Cl F w A (dM ts)
theorem Ts.ext{F:Nat→Prop}{w w':World}{v:Value}{ts:List Tm}(h:Ts F w v ts)(he:Ext w w'):Ts F w' v ts:=let ⟨A,c,h1,h2,h3⟩:=h;⟨A,c,h1,h2,h3.ext he⟩
theorem Ts.fr{S F:Nat→Prop}{w w':World}{v:Value}{ts:List Tm}(h:Ts F w v ts)(hf:Fr S w w')(hs:∀k,F k→¬S k):Ts F w' v ts:=let ⟨A,c,h1,h2,h3⟩:=h;⟨A,c,h1,h2,h3.fr hf hs⟩
theorem Ts.mono{F G:Nat→Prop}{w:World}{v:Value}{ts:List Tm}(h:Ts F w v ts)(hs:∀k,k<w.heap.size→F k→G k):Ts G w v ts:=let ⟨A,c,h1,h2,h3⟩:=h;⟨A,c,h1,h2,h3.mono hs⟩
theorem eo(a:Addr)(n j:Nat):a.add (n+(j+1))=⟨(a.add n).block,(a.add n).off+(j+1),none⟩:=by
 rw[←add_add]
 generalize a.add n=p
 simp[Addr.add]
theorem Cl.term{F:Nat→Prop}{w:World}{A:Option Addr}{ts:List Tm}(h:Cl F w A (dM ts)){i:Nat}(hi:i<ts.length):∃ad,A=some ad∧F ad.block∧w.cell? (ad.add (i*4))=some (.string ts[i].var)∧w.cell? ⟨(ad.add (i*4)).block,(ad.add (i*4)).off+1,none⟩=some (.int .i64 ts[i].kind)∧w.cell? ⟨(ad.add (i*4)).block,(ad.add (i*4)).off+2,none⟩=some (.int .i64 ts[i].int)∧w.cell? ⟨(ad.add (i*4)).block,(ad.add (i*4)).off+3,none⟩=some (.string ts[i].str):=by
 obtain⟨ad,h1,h2,c0⟩:=h.at' ((eP hi 0 (by omega)).trans rfl)
 obtain⟨se,e1,_,c1⟩:=h.at' ((eP hi 1 (by omega)).trans rfl)
 obtain⟨sg,e2,_,c2⟩:=h.at' ((eP hi 2 (by omega)).trans rfl)
 obtain⟨sh,e3,_,c3⟩:=h.at' ((eP hi 3 (by omega)).trans rfl)
 subst h1
 injection e1 with e1;injection e2 with e2;injection e3 with e3
 subst e1 e2 e3
 rw[show 4*i+0=i*4 by omega]at c0
 rw[show 4*i+1=i*4+(0+1) by omega,eo]at c1
 rw[show 4*i+2=i*4+(1+1) by omega,eo]at c2
 rw[show 4*i+3=i*4+(2+1) by omega,eo]at c3
 exact⟨ad,rfl,h2,c0,c1,c2,c3⟩
def df(w:World)(v v':Value):Prop:=v'.ownBlock=v.ownBlock∨v'.ownBlock=some w.heap.size
theorem fp{P:Program}(w:World)(base:Nat)(t ty e:TypeId)(i:TypeInfo)(z:Value)(size bytes:Nat)(ht:P.underlying t=some (.slice e))(hi:P.info? e=some i)(hz:i.zero=some z)(sj:i.size=size)(sy:i.bytes=bytes)(sD:z.cells.size=size)(sC : 0<size)(v:Value)(n:Nat)(xs:List Value)(sh:w.ownsRow base e size v n xs)(a:Addr)(m c:Nat)(news:List Value)(hl:news.length=m*size)(sg:∀j u,news[j]?=some u→w.cell? (a.add j)=some u)(h1:∀u∈news,u.oneCell'=true)(sx:n+m≤maxLen)(se:(n+m)*bytes≤140737488355328)(sp:base≤w.heap.size) :
  ∃v' w',(Builtin.append_ #[t,t] ty #[v,.slice (some a) m c]).run P w=.ok v' w'∧w'.ownsRow base e size v' (n+m) (xs++news)∧w.grownBy w' v.ownBlock∧df w v v':=by
 obtain⟨v',w',hr,h2,h3,h4⟩:=run_append_own (P:=P) w base t ty e i z size bytes ht hi hz sj sy sD sC v n xs sh a m c news hl sg h1 sx se sp
 refine⟨v',w',hr,h2,h3,?_⟩
 subst sj
 subst sy
 have su:n+m≤9223372036854775807:=by simp only[maxLen]at sx;omega
 rcases sh.2 with ⟨rfl,rfl⟩|⟨g,cap,sw,rfl,sE,hg,sG,sF,sB,sA⟩
 ·by_cases hm:m=0
  ·left;rw[h4.2 ⟨rfl,hm⟩]
  ·have si:=run_append_nil (P:=P) w t ty e i z ht hi hz a m c news hl sg (by omega) (by omega) (by have hb:=se;simp only[jY]at hb;omega)
   rw[hr]at si
   injection si with e1 _
   subst e1
   right;rfl
 ·by_cases hroom:n+m≤cap
  ·have sr:n*i.size+news.length≤sw.size:=by rw[hl,sB,←Nat.add_mul];exact jW _ hroom
   have si:=run_append_room (P:=P) w t ty e i ht hi g n cap sw hg a m c news hl sg h1 hroom sr
   rw[hr]at si
   injection si with e1 _
   subst e1
   left;rfl
  ·have sq:∀j u,xs[j]?=some u→w.cell? ((⟨g,0,none⟩:Addr).add j)=some u:=sh.cells (g:=g) rfl
   have si:=run_append_grow (P:=P) w t ty e i z ht hi hz ⟨g,0,none⟩ n cap xs sh.1 sq a m c news hl sg (by omega) (by omega) (growslice_fits (by omega) se)
   rw[hr]at si
   injection si with e1 _
   subst e1
   right;rfl
theorem aq{P:Program}{w:World}{ops:Array Oper}{rest:List Oper}{o:Oper}{a:Act}{Q:Exit→Act→World→Prop}(sr:o.guard=none)(s y:Operand)(t:TypeId)(ho:o.op=.call { callee:=.builtin .append,args:=#[s,y],argTypes:=#[t,t] })(base:Nat)(e:TypeId)(i:TypeInfo)(z:Value)(size bytes:Nat)(ht:P.underlying t=some (.slice e))(hi:P.info? e=some i)(hz:i.zero=some z)(si:i.size=size)(sq:i.bytes=bytes)(sw:z.cells.size=size)(su : 0<size)(v:Value)(n:Nat)(xs:List Value)(hs:a.eval s=v)(sj:w.ownsRow base e size v n xs)(ad:Addr)(m c:Nat)(news:List Value)(hx:a.eval y=.slice (some ad) m c)(hl:news.length=m*size)(sh:∀j u,news[j]?=some u→w.cell? (ad.add j)=some u)(h1:∀u∈news,u.oneCell'=true)(sp:n+m≤maxLen)(se:(n+m)*bytes≤140737488355328)(sg:base≤w.heap.size)(h:∀v' w',w'.ownsRow base e size v' (n+m) (xs++news)→w.grownBy w' v.ownBlock→df w v v'→wpList P ops Q rest (a.put o.dst v') w'):wpList P ops Q (o::rest) a w :=
 wpList_plain sr fun K hK=>by
  obtain⟨v',w',hr,h2,h3,h4⟩:=fp (P:=P) w base t o.type e i z size bytes ht hi hz si sq sw su v n xs sj ad m c news hl sh h1 sp se sg
  unfold Oper.wp execOp
  simp only[ho,resolve,invoke,builtin,Sem.run_bind,Sem.run_pure,Result.andThen_ok,List.map_toArray,jU,List.map_nil,hs,hx,hr]
  exact hK _ _ (h v' w' h2 h3 h4)
theorem aE(w:World)(t:TypeId)(xs:List Value):∀j u,xs[j]?=some u→(w.alloc (.cells xs.toArray t)).cell? ((⟨w.heap.size,0,none⟩:Addr).add j)=some u:=by
 intro j u hu
 obtain⟨hj,rfl⟩:=zj.1 hu
 rw[add_own]
 exact(Bk.new w t xs).cell hj
theorem mc(s:ByteArray):s.toList.isEmpty=decide (s=⟨#[]⟩):=by
 by_cases h:s=⟨#[]⟩
 ·subst h;rw[ByteArray.toList_eq];rfl
 ·have:s.toList≠[]:=fun e=>h ((toList_nil_iff_emptyBytes s).1 e)
  rw[decide_eq_false h]
  rcases hs:s.toList with _|⟨a,l⟩
  ·exact absurd hs this
  ·rfl
abbrev I64 (n:Int):Value:=.int .i64 n
def Ins(F:Nat→Prop)(w:World)(v:Value)(zs:List Int):Prop:=∃A c,v=.slice A zs.length c∧zs.length≤c∧Cl F w A (zs.map I64)
theorem Ins.ext{F:Nat→Prop}{w w':World}{v:Value}{zs:List Int}(h:Ins F w v zs)(he:Ext w w'):Ins F w' v zs:=let ⟨A,c,h1,h2,h3⟩:=h;⟨A,c,h1,h2,h3.ext he⟩
theorem Ins.fr{S F:Nat→Prop}{w w':World}{v:Value}{zs:List Int}(h:Ins F w v zs)(hf:Fr S w w')(hs:∀k,F k→¬S k):Ins F w' v zs:=let ⟨A,c,h1,h2,h3⟩:=h;⟨A,c,h1,h2,h3.fr hf hs⟩
theorem Ins.mono{F G:Nat→Prop}{w:World}{v:Value}{zs:List Int}(h:Ins F w v zs)(hs:∀k,k<w.heap.size→F k→G k):Ins G w v zs:=let ⟨A,c,h1,h2,h3⟩:=h;⟨A,c,h1,h2,h3.mono hs⟩
theorem Ins.of_own{w:World}{base n:Nat}{e:TypeId}{v:Value}{zs:List Int}(h:w.ownsRow base e 1 v n (zs.map I64)):Ins (fun k=>v.ownBlock=some k∧base≤k) w v zs:=by
 have hn:n=zs.length:=by have:=h.1;simp at this;omega
 subst hn
 obtain⟨A,c,h1,h2,h3⟩:=Cl.of_own h
 exact⟨A,c,h1,h2,h3⟩
theorem Cl.int{F:Nat→Prop}{w:World}{A:Option Addr}{zs:List Int}(h:Cl F w A (zs.map I64)){i:Nat}(hi:i<zs.length):∃ad,A=some ad∧F ad.block∧w.cell? (ad.add i)=some (.int .i64 zs[i]) :=
 h.at' (by simp[hi])
structure At where
 neg:Bool
 rel:ByteArray
 terms:List Tm
def fQ:List At→List Value→List Value
 | a::xs,v::vs=>.bool a.neg::.string a.rel::v::fQ xs vs
 | _,_=>[]
theorem iZ:∀{xs:List At} {vs:List Value} {i:Nat} (hi:i<xs.length) (hv:i<vs.length),(fQ xs vs)[i*3]?=some (.bool xs[i].neg)∧(fQ xs vs)[i*3+1]?=some (.string xs[i].rel)∧(fQ xs vs)[i*3+2]?=some vs[i]
 | a::xs,v::vs,0,_,_=>⟨rfl,rfl,rfl⟩
 | a::xs,v::vs,i+1,hi,hv=>by
  obtain⟨h1,h2,h3⟩:=iZ (xs:=xs) (vs:=vs) (i:=i) (by simpa using hi) (by simpa using hv)
  rw[show (i+1)*3=i*3+1+1+1 by omega]
  exact⟨h1,h2,h3⟩
def Ats(F:Nat→Prop)(w:World)(v:Value)(xs:List At):Prop :=
 ∃A c vs,v=.slice A xs.length c∧xs.length≤c∧vs.length=xs.length∧Cl F w A (fQ xs vs)∧∀i (h:i<xs.length) (h':i<vs.length),Ts F w vs[i] xs[i].terms
theorem Ats.ext{F:Nat→Prop}{w w':World}{v:Value}{xs:List At}(h:Ats F w v xs)(he:Ext w w'):Ats F w' v xs:=let ⟨A,c,vs,h1,h2,h3,h4,h5⟩:=h;⟨A,c,vs,h1,h2,h3,h4.ext he,fun i h h'=>(h5 i h h').ext he⟩
theorem Ats.fr{S F:Nat→Prop}{w w':World}{v:Value}{xs:List At}(h:Ats F w v xs)(hf:Fr S w w')(hs:∀k,F k→¬S k):Ats F w' v xs:=let ⟨A,c,vs,h1,h2,h3,h4,h5⟩:=h;⟨A,c,vs,h1,h2,h3,h4.fr hf hs,fun i h h'=>(h5 i h h').fr hf hs⟩
theorem Cl.atom{F:Nat→Prop}{w:World}{A:Option Addr}{xs:List At}{vs:List Value}(h:Cl F w A (fQ xs vs)){i:Nat}(hi:i<xs.length)(hv:i<vs.length):∃ad,A=some ad∧F ad.block∧w.cell? (ad.add (i*3))=some (.bool xs[i].neg)∧w.cell? ⟨(ad.add (i*3)).block,(ad.add (i*3)).off+1,none⟩=some (.string xs[i].rel)∧w.cell? ⟨(ad.add (i*3)).block,(ad.add (i*3)).off+2,none⟩=some vs[i]:=by
 obtain⟨g0,g1,g2⟩:=iZ hi hv
 obtain⟨ad,h1,h2,c0⟩:=h.at' g0
 obtain⟨se,e1,_,c1⟩:=h.at' g1
 obtain⟨sg,e2,_,c2⟩:=h.at' g2
 subst h1
 injection e1 with e1;injection e2 with e2
 subst e1 e2
 rw[show i*3+1=i*3+(0+1) by omega,eo]at c1
 rw[show i*3+2=i*3+(1+1) by omega,eo]at c2
 exact⟨ad,rfl,h2,c0,c1,c2⟩
theorem aQ{w:World}{b s n k g:Nat}{e t:TypeId}{v:Value}{xs ys:List Value}(h:w.ownsRow b e s v n xs)(hb:Bk w g t ys)(he:e≠t)(hk:v.ownBlock=some k):k≠g:=by
 rcases h.2 with ⟨rfl,_⟩|⟨g',cap,se,rfl,_,hc,_⟩
 ·simp[Value.ownBlock]at hk
 ·simp[Value.ownBlock]at hk
  subst hk
  exact(hb.ne hc (fun e'=>he e'.symm)).symm
theorem bo{S:Nat→Prop}{w w':World}{b s n:Nat}{e:TypeId}{v:Value}{xs:List Value}(h:w.ownsRow b e s v n xs)(hf:Fr S w w')(hs:∀k,v.ownBlock=some k→¬S k):w'.ownsRow b e s v n xs:=by
 obtain⟨h1,h2⟩:=h
 refine⟨h1,?_⟩
 rcases h2 with h2|⟨g,cap,se,rfl,h3,h4,h5⟩
 ·exact .inl h2
 ·have sg:g<w.heap.size:=by
   rcases jz g w.heap.size with h|h
   ·exact h
   ·rw[zI h]at h4;cases h4
  exact .inr ⟨g,cap,se,rfl,h3,(hf.block g sg (hs g rfl)).trans h4,h5⟩
def aY(xs:List At):List Tm:=xs.flatMap (·.terms)
theorem cK{xs:List At}{i:Nat}(h:i<xs.length):aY (xs.take (i+1))=aY (xs.take i)++xs[i].terms:=by
 unfold aY
 rw[jj h,zz,jS,List.flatMap_nil,zG]
theorem kT{xs:List At}(i:Nat):(aY (xs.take i)).length≤(aY xs).length:=by
 have h:xs=xs.take i++xs.drop i:=(jX i xs).symm
 have e:aY xs=aY (xs.take i)++aY (xs.drop i):=by simp only[aY];rw[←zz,←h]
 rw[e];simp
theorem Ats.at'{F:Nat→Prop}{w:World}{v:Value}{xs:List At}(h:Ats F w v xs):∃A c,v=.slice A xs.length c∧xs.length≤c∧∀i (hi:i<xs.length),∃ad B d,A=some ad∧F ad.block ∧
  w.cell? (ad.add (i*3))=some (.bool xs[i].neg)∧w.cell? ⟨(ad.add (i*3)).block,(ad.add (i*3)).off+1,none⟩=some (.string xs[i].rel)∧w.cell? ⟨(ad.add (i*3)).block,(ad.add (i*3)).off+2,none⟩=some (.slice B xs[i].terms.length d)∧xs[i].terms.length≤d∧Cl F w B (dM xs[i].terms):=by
 obtain⟨A,c,vs,rfl,hc,si,sg,sh⟩:=h
 refine⟨A,c,rfl,hc,fun i hi=>?_⟩
 obtain⟨ad,h1,h2,c0,c1,c2⟩:=sg.atom (i:=i) hi (by omega)
 obtain⟨B,d,e,hd,se⟩:=sh i hi (by omega)
 rw[e]at c2
 exact⟨ad,B,d,h1,h2,c0,c1,c2,hd,se⟩
theorem lw{xs:List At}{i:Nat}(hi:i<xs.length):xs[i].terms.length≤(aY xs).length:=by
 have h1:=kT (xs:=xs) (i+1)
 rw[cK hi,jm]at h1
 omega
theorem gy{s:ByteArray}(h:¬s=⟨#[]⟩):s.toList.isEmpty=false:=by rw[mc,decide_eq_false h]
theorem gw{s:ByteArray}(h:s=⟨#[]⟩):s.toList.isEmpty=true:=by rw[mc,decide_eq_true h]
theorem ek:Keyed Tryz.prog 9:=string_keyed Tryz.underlying9
abbrev Rv (v:Value):Option (DataW Value×List MemPlace):=some (.held v,[])
def aI(w:World)(b n:Nat)(f:ByteArray→Option Value):Prop :=
 ∃D:DataW Value,w.ownsMap Tryz.prog 9 Rv b n D∧Tidy D∧(∀s:ByteArray,∀zd,D.atKey (.string s.data.toList) zd=match f s with|some v=>.held v|none=>zd)∧∀s:ByteArray,Maps.has D (.string s.data.toList)=(f s).isSome
theorem aI.made(w:World):aI (w.alloc (.map #[] 0)) w.heap.size 0 (fun _=>none):=⟨.map [],World.ownsMap_made w _ _ _,tidy_empty,fun _ _=>rfl,fun _=>rfl⟩
theorem aI.lt{w:World}{b n:Nat}{f:ByteArray→Option Value}(h:aI w b n f):b<w.heap.size:=let ⟨_,h,_⟩:=h;h.lt
theorem aI.fr{S:Nat→Prop}{w w':World}{b n:Nat}{f:ByteArray→Option Value}(h:aI w b n f)(hf:Fr S w w')(hb:¬S b):aI w' b n f:=by
 obtain⟨D,⟨es,se,h1,h2⟩,h3⟩:=h
 have sg:b<w.heap.size:=by
  rcases jz b w.heap.size with h|h
  ·exact h
  ·rw[zI h]at h1;cases h1
 exact⟨D,⟨es,se,(hf.block b sg hb).trans h1,h2⟩,h3⟩
theorem aI.ext{w w':World}{b n:Nat}{f:ByteArray→Option Value}(h:aI w b n f)(he:Ext w w'):aI w' b n f:=h.fr (he.fr (fun _=>False)) (fun h=>h)
theorem aI.mono{w:World}{b n m:Nat}{f:ByteArray→Option Value}(h:aI w b n f)(hm:n≤m):aI w b m f:=let ⟨D,h1,h2⟩:=h;⟨D,h1.mono hm,h2⟩
def cI(f:ByteArray→Option Value)(s:ByteArray)(v:Option Value):ByteArray→Option Value:=fun t=>if t=s then v else f t
theorem key_ne{s t:ByteArray}(h:t≠s):(Lit.string t.data.toList)≠.string s.data.toList:=fun e=>by injection e with e;exact h (Go.WideShapes.bytes_inj e)
theorem keyOf_str(s:ByteArray)(hs:s.size≤maxLen):keyOf Tryz.prog 9 (.string s)=some (.string s.data.toList):=Go.WideMaps.keyOf_string_mk Tryz.underlying9 hs
theorem lp{D:DataW Value}{f:ByteArray→Option Value}(ht:Tidy D)(h1:∀s:ByteArray,∀zd,D.atKey (.string s.data.toList) zd=match f s with|some v=>.held v|none=>zd)(h2:∀s:ByteArray,Maps.has D (.string s.data.toList)=(f s).isSome)(s:ByteArray)(v:Value) :
  Tidy (D.put (.string s.data.toList) (.held v))∧(∀t:ByteArray,∀zd,(D.put (.string s.data.toList) (.held v)).atKey (.string t.data.toList) zd=match cI f s (some v) t with|some v=>.held v|none=>zd)∧∀t:ByteArray,Maps.has (D.put (.string s.data.toList) (.held v)) (.string t.data.toList)=(cI f s (some v) t).isSome:=by
 have hk:WideAt.IsKeyLit (Lit.string s.data.toList):=trivial
 refine⟨ht.put hk _,fun t zd=>?_,fun t=>?_⟩
 ·by_cases e:t=s
  ·subst e;rw[atKey_put_same ht.isMap hk];simp[cI]
  ·rw[atKey_put_other (key_ne e),h1 t zd];simp[cI,e]
 ·by_cases e:t=s
  ·subst e;rw[has_put_same ht.isMap hk];simp[cI]
  ·rw[has_put_other (key_ne e),h2 t];simp[cI,e]
theorem ao{w:World}{ops:Array Oper}{rest:List Oper}{o:Oper}{a:Act}{Q:Exit→Act→World→Prop}(hg:o.guard=none)(m x:Operand)(t e:TypeId)(sj:o.op=Op.lookup t m x false)(ht:Tryz.prog.underlying t=some (.map 9 e))(z:Value)(hz:(zeroValue e).run Tryz.prog w=.ok z w)(b n:Nat)(f:ByteArray→Option Value)(hm:a.eval m=.map (some b))(se:aI w b n f)(s:ByteArray)(hx:a.eval x=.string s)(hs:s.size≤maxLen)(u:Value)(hu:(f s).getD z=u)(hK:wpList Tryz.prog ops Q rest (a.put o.dst u) w):wpList Tryz.prog ops Q (o::rest) a w:=by
 refine wpList_plain hg fun K' sh=>?_
 obtain⟨D,hD,-,si,-⟩:=se
 obtain⟨v,ps,sg,hv⟩:=hD.lookup ek ht hz (zd:=.held z) (zp:=[]) rfl (keyOf_str s hs)
 have sp:v=u:=by
  have h1:=si s (.held z)
  rw[h1]at hv
  rcases hf:f s with _|y
  ·rw[hf]at hv hu;simp at hv hu;rw[hv.1,hu]
  ·rw[hf]at hv hu;simp at hv hu;rw[hv.1,hu]
 subst sp
 unfold Oper.wp
 simp[execOp,sj,hm,hx,sg,Result.andThen]
 exact sh _ _ hK
theorem az{w:World}{ops:Array Oper}{rest:List Oper}{o:Oper}{a:Act}{Q:Exit→Act→World→Prop}(hg:o.guard=none)(m x:Operand)(t e:TypeId)(sq:o.op=Op.lookup t m x true)(ht:Tryz.prog.underlying t=some (.map 9 e))(z:Value)(hz:(zeroValue e).run Tryz.prog w=.ok z w)(b n:Nat)(f:ByteArray→Option Value)(hm:a.eval m=.map (some b))(sh:aI w b n f)(s:ByteArray)(hx:a.eval x=.string s)(hs:s.size≤maxLen)(u:Value)(hu:(f s).getD z=u)(ok:Bool)(sp:(f s).isSome=ok)(hK:wpList Tryz.prog ops Q rest (a.put o.dst (.tuple #[u,.bool ok])) w):wpList Tryz.prog ops Q (o::rest) a w:=by
 refine wpList_plain hg fun K' si=>?_
 obtain⟨D,hD,-,sj,sg⟩:=sh
 obtain⟨v,ps,se,hv⟩:=hD.look_ok ek ht hz (zd:=.held z) (zp:=[]) rfl (keyOf_str s hs)
 have sr:v=u:=by
  have h1:=sj s (.held z)
  rw[h1]at hv
  rcases hf:f s with _|y
  ·rw[hf]at hv hu;simp at hv hu;rw[hv.1,hu]
  ·rw[hf]at hv hu;simp at hv hu;rw[hv.1,hu]
 subst sr
 rw[sg s,sp]at se
 unfold Oper.wp
 simp[execOp,sq,hm,hx,se,Result.andThen]
 exact si _ _ hK
theorem aN{w:World}{ops:Array Oper}{rest:List Oper}{o:Oper}{a:Act}{Q:Exit→Act→World→Prop}(hg:o.guard=none)(m x v:Operand)(t e:TypeId)(si:o.op=Op.mapUpdate t m x v)(ht:Tryz.prog.underlying t=some (.map 9 e))(b n:Nat)(f:ByteArray→Option Value)(hm:a.eval m=.map (some b))(sg:aI w b n f)(hn:n<maxLen)(s:ByteArray)(u:Value)(hx:a.eval x=.string s)(hs:s.size≤maxLen)(hv:a.eval v=u)(hK:∀w',aI w' b (n+1) (cI f s (some u))→w.grownBy w' (some b)→wpList Tryz.prog ops Q rest (a.put o.dst undef) w'):wpList Tryz.prog ops Q (o::rest) a w:=by
 obtain⟨D,hD,sj,sh,se⟩:=sg
 obtain⟨p1,p2,p3⟩:=lp sj sh se s u
 exact wpList_mapUpdate_own w hg m x v t si 9 e ek ht Rv b n D hm hD hn (.string s) u (.string s.data.toList) hx hv (keyOf_str s hs) (.held u) [] rfl (fun w' h1 h2=>hK w' ⟨_,h1,p1,p2,p3⟩ h2)
theorem gA{w:World}{ops:Array Oper}{rest:List Oper}{o:Oper}{a:Act}{Q:Exit→Act→World→Prop}(hg:o.guard=none)(m x v:Operand)(t e:TypeId)(sp:o.op=Op.insert t m x v)(ht:Tryz.prog.underlying t=some (.map 9 e))(b n:Nat)(f:ByteArray→Option Value)(hm:a.eval m=.map (some b))(sg:aI w b n f)(hn:n<maxLen)(s:ByteArray)(u:Value)(hx:a.eval x=.string s)(hs:s.size≤maxLen)(hv:a.eval v=u)(hK:∀w',aI w' b (n+1) (cI f s (some u))→w.grownBy w' (some b)→wpList Tryz.prog ops Q rest (a.put o.dst undef) w'):wpList Tryz.prog ops Q (o::rest) a w:=by
 obtain⟨D,hD,sq,sj,se⟩:=sg
 obtain⟨p1,p2,p3⟩:=lp sq sj se s u
 refine wpList_plain hg fun K' si=>?_
 obtain⟨w',sh,r1,r2⟩:=hD.update ek ht hn (keyOf_str s hs) (val:=u) (d:=.held u) (ps:=[]) rfl
 unfold Oper.wp
 simp[execOp,sp,hm,hx,hv,sh,Result.andThen]
 exact si _ _ (hK w' ⟨_,r1,p1,p2,p3⟩ r2)
theorem bI(w:World):(zeroValue 4).run Tryz.prog w=.ok (.bool false) w:=by kernel_rfl
theorem qW:(Tryz.prog.info? 9).map (fun i=>(i.zero,i.size,i.bytes))=some (some (.string ⟨#[]⟩),1,16):=by kernel_rfl
abbrev Sv (s:ByteArray):Value:=.string s
instance memBA (s:ByteArray):(vs:List ByteArray)→Decidable (s∈vs)
 | []=>isFalse (by simp)
 | v::vs=>if h:s=v then isTrue (by simp[h]) else match memBA s vs with
  | isTrue h'=>isTrue (js _ h')
  | isFalse h'=>isFalse (fun e=>by rcases jB.1 e with e|e;exact h e;exact h' e)
def fR(vs:List ByteArray)(s:ByteArray):List ByteArray:=if s=⟨#[]⟩∨s∈vs then vs else vs++[s]
def io(vs:List ByteArray):ByteArray→Option Value:=fun s=>if s=⟨#[]⟩∨s∈vs then some (.bool true) else none
structure qo(w:World)(base b gs gv n:Nat)(vv:Value)(vs:List ByteArray):Prop where
 map:aI w b n (io vs)
 seen:Bk w gs 121 [.map (some b)]
 vars:Bk w gv 24 [vv]
 row:w.ownsRow base 9 1 vv vs.length (vs.map Sv)
theorem qo.ext{w w':World}{base b gs gv n:Nat}{vv:Value}{vs:List ByteArray}(h:qo w base b gs gv n vv vs)(he:Ext w w'):qo w' base b gs gv n vv vs :=
 ⟨h.map.ext he,h.seen.ext he,h.vars.ext he,bo h.row (he.fr (fun _=>False)) (fun _ _ h=>h)⟩
theorem add_old{w:World}{base b gs gv n:Nat}{vv:Value}{vs:List ByteArray}{s:ByteArray}(h:qo w base b gs gv n vv vs)(hs:s.size≤maxLen)(ho:Hid (s=⟨#[]⟩∨s∈vs)) :
  Calls Tryz.prog 112 #[.string s,.pointer (some ⟨gs,0,none⟩),.pointer (some ⟨gv,0,none⟩)] w (fun e w'=>e=.returned (.tuple #[])∧w=w'):=by
 have d0:=h.seen.c0
 have HM:=zN h.map
 clear h
 go_enter Tryz.func112,Tryz.ntmps112
 go_wp2_with (first|(at_lookup;refine ao rfl _ _ 121 4 rfl Tryz.underlying121 (.bool false) (bI _) b n (io vs) rfl HM.out s rfl hs (.bool true) (by rw[io,if_pos ho.out];rfl) ?_))
 exact bodyPost_end (results_none rfl _ _ _) rfl ⟨rfl,rfl⟩
theorem aI.ne{w:World}{b n g:Nat}{f:ByteArray→Option Value}{t:TypeId}{xs:List Value}(h:aI w b n f)(hb:Bk w g t xs):g≠b:=by
 obtain⟨D,⟨es,se,h1,_⟩,_⟩:=h
 rintro rfl
 have:=hb.symm.trans h1
 injection this with this;cases this
theorem aI.ne_own{w:World}{b n base size m k:Nat}{f:ByteArray→Option Value}{e:TypeId}{v:Value}{xs:List Value}(h:aI w b n f)(hr:w.ownsRow base e size v m xs)(hk:v.ownBlock=some k):k≠b:=by
 obtain⟨D,⟨es,se,h1,_⟩,_⟩:=h
 rcases hr.2 with ⟨rfl,_⟩|⟨g,cap,sg,rfl,_,hc,_⟩
 ·simp[Value.ownBlock]at hk
 ·simp[Value.ownBlock]at hk
  subst hk
  rintro rfl
  have:=hc.symm.trans h1
  injection this with this;cases this
theorem seenF_add{vs:List ByteArray}{s:ByteArray}(h:¬(s=⟨#[]⟩∨s∈vs)):cI (io vs) s (some (.bool true))=io (vs++[s]):=by
 funext t
 unfold cI io
 by_cases e:t=s
 ·subst e;rw[if_pos rfl,if_pos (.inr (by simp))]
 ·rw[if_neg e]
  by_cases h2:t=⟨#[]⟩∨t∈vs
  ·rw[if_pos h2,if_pos (h2.imp id (fun h=>by simp[h]))]
  ·rw[if_neg h2,if_neg (fun h3=>h2 (h3.imp id (fun h4=>by simp[e]at h4;exact h4)))]
def pz(base b gs gv n:Nat)(vv:Value)(vs:List ByteArray)(s:ByteArray)(w:World)(e:Ending)(w':World):Prop :=
 ∃vv',e=.returned (.tuple #[])∧qo w' base b gs gv (n+1) vv' (fR vs s)∧Fr (fun k=>k=b∨k=gv∨vv.ownBlock=some k) w w'∧(vv'.ownBlock=vv.ownBlock∨∀k,vv'.ownBlock=some k→w.heap.size≤k)
theorem add_new{w:World}{base b gs gv n:Nat}{vv:Value}{vs:List ByteArray}{s:ByteArray}(h:qo w base b gs gv n vv vs)(sg:base≤w.heap.size)(hn:n≤2097152)(hl:vs.length≤1048576)(hs:s.size≤maxLen)(ho:Hid (¬(s=⟨#[]⟩∨s∈vs))) :
  Calls Tryz.prog 112 #[.string s,.pointer (some ⟨gs,0,none⟩),.pointer (some ⟨gv,0,none⟩)] w (pz base b gs gv n vv vs s w):=by
 obtain⟨A,c,rfl⟩:=af h.row
 have d0:=h.seen.c0
 have HH:=zN h
 obtain⟨m,hm⟩:=sd vs.length
 have sP:=zN hm
 clear h hm
 obtain⟨i0,sC,sG,sH,sI⟩:=info_parts qW
 have si:=zN (And.intro sC (And.intro sG (And.intro sH sI)));clear sC sG sH sI
 go_enter Tryz.func112,Tryz.ntmps112
 go_wp2_with (first
  | (at_lookup;refine ao rfl _ _ 121 4 rfl Tryz.underlying121 (.bool false) (bI _) b n (io vs) rfl HH.out.map s rfl hs (.bool false) (by rw[io,if_neg ho.out];rfl) ?_)
  | (at_mapUpdate;refine aN rfl _ _ _ 121 4 rfl Tryz.underlying121 b n (io vs) rfl HH.out.map (by simp only[maxLen];omega) s (.bool true) rfl hs rfl ?_;intro w1 sE sh;have sw:Bk w1 gv 24 [.slice A vs.length c]:=Bk.fr HH.out.vars (am sh) (fun e=>by injection e with e;exact HH.out.map.ne HH.out.vars e.symm);have a0:=sw.c0;have sx:=zN (bo HH.out.row (am sh) (fun k hk e=>by injection e with e;exact HH.out.map.ne_own HH.out.row hk e.symm));have sK:=zN sE;have sp:=zN sh;have sA:=zN sw;have sO:base≤w1.heap.size:=jr sg sh.size;clear sE sh sw)
  | (at_builtin;refine aq rfl _ _ 24 rfl base 9 i0 (.string ⟨#[]⟩) 1 16 Tryz.underlying24 si.out.1 si.out.2.1 si.out.2.2.1 si.out.2.2.2 rfl (by omega) _ vs.length (vs.map Sv) rfl (sx.out.alloc _) ⟨w1.heap.size,0,none⟩ 1 1 [.string s] rfl rfl (aE w1 _ _) (by simp[Value.oneCell']) (by simp only[maxLen];omega) (by omega) (by simp;omega) ?_;intro v9 w9 su sr sD;obtain⟨A9,c9,rfl⟩:=af su;have sj:Bk w9 gv 24 [.slice A vs.length c]:=Bk.fr (sA.out.alloc _) (am sr) (fun e=>aQ sx.out sA.out (by decide) e rfl);have b0:=sj.c0;have f0:=sj.free 0;have sy:=zN su;have sq:=zN sr;have sJ:=zN sD;have sB:=zN sj;clear su sr sD sj))
 refine bodyPost_end (results_none rfl _ _ _) rfl ⟨.slice A9 (vs.length+1) c9,rfl,?_,?_,?_⟩
 ·have sL:gv≠b:=HH.out.map.ne HH.out.vars
  have sN:gs≠b:=HH.out.map.ne HH.out.seen
  have sM:gs≠gv:=HH.out.seen.ne (o:=[Value.slice A vs.length c].toArray) HH.out.vars (by decide)
  have sF:∀k,(Value.slice A vs.length c).ownBlock=some k→k≠b∧k≠gs:=fun k hk=>⟨HH.out.map.ne_own HH.out.row hk,aQ HH.out.row HH.out.seen (by decide) hk⟩
  have se:Fr (fun k=>k=gv) w9 (w9.setCell ⟨gv,0,none⟩ (.slice A9 (vs.length+1) c9)):=Fr.setCell (S:=fun k=>k=gv) (Fr.refl _ w9) (p:=⟨gv,0,none⟩) (.inl rfl) _
  have e:fR vs s=vs++[s]:=by rw[fR,if_neg ho.out]
  rw[e]
  refine⟨?_,?_,?_,?_⟩
  ·rw[←seenF_add ho.out]
   exact((((sK.out).ext ((Ext.refl w1).alloc _)).fr (am sq.out) (fun e=>(sF b e).1 rfl))).fr se (fun e=>sL e.symm)
  ·exact((((HH.out.seen.fr (am sp.out) (fun e=>by injection e with e;exact sN e.symm)).alloc _).fr (am sq.out) (fun e=>(sF gs e).2 rfl))).fr se sM
  ·exact sB.out.set 0 _
  ·rw[jm,jH]
   exact bo sy.out se (fun k hk e=>by subst e;exact aQ sy.out sB.out (by decide) hk rfl)
 ·exact Fr.setCell (Fr.comp (((am sp.out).mono (T:=fun k=>k=b∨k=gv∨(Value.slice A vs.length c).ownBlock=some k) (fun k _ e=>.inl (by injection e with e;exact e.symm))).ext ((Ext.refl w1).alloc _)) (am sq.out) (fun k hk=>.inl (.inr (.inr hk)))) (.inl (.inr (.inl rfl))) _
 ·rcases sJ.out with h|h
  ·exact .inl h
  ·right;intro k hk;rw[h]at hk;injection hk with hk;subst hk;have:=sp.out.size;simp;omega
theorem add_any{w:World}{base b gs gv n:Nat}{vv:Value}{vs:List ByteArray}{s:ByteArray}(h:qo w base b gs gv n vv vs)(se:base≤w.heap.size)(hn:n≤2097152)(hl:vs.length≤1048576)(hs:s.size≤maxLen) :
  Calls Tryz.prog 112 #[.string s,.pointer (some ⟨gs,0,none⟩),.pointer (some ⟨gv,0,none⟩)] w (pz base b gs gv n vv vs s w):=by
 by_cases ho:s=⟨#[]⟩∨s∈vs
 ·refine(add_old h hs (zN ho)).mono ?_
  rintro e w' ⟨rfl,rfl⟩
  exact⟨vv,rfl,by rw[fR,if_pos ho];exact⟨h.map.mono (by omega),h.seen,h.vars,h.row⟩,Fr.refl _ _,.inl rfl⟩
 ·exact add_new h se hn hl hs (zN ho)
def bD(l:List Tm):List ByteArray:=l.foldl (fun vs t=>fR vs t.var) []
theorem kM(l:List Tm)(t:Tm):bD (l++[t])=fR (bD l) t.var:=by simp[bD]
theorem qq(vs:List ByteArray)(s:ByteArray):(fR vs s).length≤vs.length+1:=by unfold fR;split <;> simp
theorem lg:∀(l:List Tm) (vs:List ByteArray),(l.foldl (fun vs t=>fR vs t.var) vs).length≤vs.length+l.length
 | [],_=>by simp
 | t::l,vs=>by have:=lg l (fR vs t.var);have:=qq vs t.var;simp at *;omega
theorem cY(l:List Tm):(bD l).length≤l.length:=by have:=lg l [];simpa [bD] using this
structure VaI(w wr:World)(b gs gv n:Nat)(vv:Value)(l:List Tm)(bx:List Value):Prop where
 vb:qo wr w.heap.size b gs gv n vv (bD l)
 ext:Ext w wr
 box:Bk wr w.heap.size 46 bx
 cnt:n≤1+l.length
theorem VaI.fore{w wr w':World}{b gs gv n:Nat}{vv:Value}{l:List Tm}{bx:List Value}(h:VaI w wr b gs gv n vv l bx)(he:Ext wr w'):VaI w w' b gs gv n vv l bx:=⟨h.vb.ext he,h.ext.trans he,h.box.ext he,h.cnt⟩
theorem VaI.step{w wr w1 w2:World}{b gs gv n:Nat}{vv:Value}{l:List Tm}{bx:List Value}{t:Tm}{e:Ending}(h:VaI w wr b gs gv n vv l bx)(hb:w.heap.size≤b)(hg:w.heap.size<gv)(he:Ext wr w1)(hp:pz w.heap.size b gs gv n vv (bD l) t.var w1 e w2) :
  ∃se,VaI w w2 b gs gv (n+1) se (l++[t]) bx:=by
 obtain⟨se,-,h1,h2,h3⟩:=hp
 have hr:=(h.fore he).vb.row
 refine⟨se,?_,?_,?_,by have:=h.cnt;simp;omega⟩
 ·rw[kM];exact h1
 ·exact Fr.new (h.ext.trans he) h2 (fun k hk=>by
   rcases hk with hk|hk|hk
   ·omega
   ·omega
   ·exact(hr.lt k hk).1)
 ·refine(h.box.ext he).fr h2 (fun hk=>?_)
  rcases hk with hk|hk|hk
  ·exact(h.fore he).vb.map.ne (h.box.ext he) hk
  ·omega
  ·exact aQ hr (h.box.ext he) (by decide) hk rfl
theorem mB(l:List Tm):(bD l).Nodup:=by
 suffices hs:∀(l:List Tm) (vs:List ByteArray),vs.Nodup→(l.foldl (fun vs t=>fR vs t.var) vs).Nodup from hs l [] List.Pairwise.nil
 intro l
 induction l with
 | nil=>intro vs h;exact h
 | cons t l ih =>
  intro vs h
  refine ih _ ?_
  simp only[fR]
  split
  ·exact h
  ·rename_i hn
   exact zF.2 ⟨h,List.nodup_cons.2 ⟨by simp,List.Pairwise.nil⟩,fun a ha b hb e=>by simp at hb;subst hb;subst e;exact hn (.inr ha)⟩
def Strs(F:Nat→Prop)(w:World)(v:Value)(l:List ByteArray):Prop:=∃A c,v=.slice A l.length c∧l.length≤c∧Cl F w A (l.map Sv)
theorem aw{w:World}{b s n k:Nat}{e:TypeId}{v:Value}{xs:List Value}(h:w.ownsRow b e s v n xs)(hk:v.ownBlock=some k):b≤k:=by
 rcases h.2 with ⟨rfl,rfl⟩|⟨g,cap,se,rfl,hb,-⟩
 ·simp[Value.ownBlock]at hk
 ·simp[Value.ownBlock]at hk;omega
theorem oQ{s:ByteArray}:∀(l:List Tm) (vs:List ByteArray),s∈l.foldl (fun vs t=>fR vs t.var) vs↔s∈vs∨∃t∈l,t.var=s∧s≠⟨#[]⟩
 | [],vs=>by simp
 | t::l,vs=>by
  rw[zr,oQ l (fR vs t.var)]
  have hA:s∈fR vs t.var↔s∈vs∨(t.var=s∧s≠⟨#[]⟩):=by
   unfold fR
   by_cases e:t.var=⟨#[]⟩∨t.var∈vs
   ·rw[if_pos e]
    constructor
    ·exact .inl
    ·rintro(h|⟨h1,h2⟩)
     ·exact h
     ·rcases e with e|e
      ·exact absurd (h1.symm.trans e) h2
      ·rwa [h1]at e
   ·rw[if_neg e,ju,jq]
    constructor
    ·rintro(h|h)
     ·exact .inl h
     ·exact .inr ⟨h.symm,fun e2=>e (.inl (h.symm.trans e2))⟩
    ·rintro(h|⟨h1,_⟩)
     ·exact .inl h
     ·exact .inr h1.symm
  rw[hA]
  clear hA
  constructor
  ·rintro((h|h)|⟨u,hu,h⟩)
   ·exact .inl h
   ·exact .inr ⟨t,by simp,h⟩
   ·exact .inr ⟨u,by simp[hu],h⟩
  ·rintro(h|⟨u,hu,h⟩)
   ·exact .inl (.inl h)
   ·rcases jB.1 hu with rfl|hu
    ·exact .inl (.inr h)
    ·exact .inr ⟨u,hu,h⟩
theorem eE{l:List Tm}{s:ByteArray}:s∈bD l↔∃t∈l,t.var=s∧s≠⟨#[]⟩:=by
 unfold bD;rw[oQ];simp
theorem kP{xs:List At}{t:Tm}:t∈aY xs↔∃a∈xs,t∈a.terms:=by unfold aY;simp
theorem Strs.ext{F:Nat→Prop}{w w':World}{v:Value}{l:List ByteArray}(h:Strs F w v l)(he:Ext w w'):Strs F w' v l:=let ⟨A,c,h1,h2,h3⟩:=h;⟨A,c,h1,h2,h3.ext he⟩
theorem Strs.mono{F G:Nat→Prop}{w:World}{v:Value}{l:List ByteArray}(h:Strs F w v l)(hs:∀k,k<w.heap.size→F k→G k):Strs G w v l:=let ⟨A,c,h1,h2,h3⟩:=h;⟨A,c,h1,h2,h3.mono hs⟩
theorem bO{P:Program}{w:World}{ops:Array Oper}{o:Oper}{a:Act}{K:Act→World→Prop}{Q:Exit→Act→World→Prop}{E:Prop}(sr:o.guard=none)(s y:Operand)(t:TypeId)(ho:o.op=.call { callee:=.builtin .append,args:=#[s,y],argTypes:=#[t,t] })(base:Nat)(e:TypeId)(i:TypeInfo)(z:Value)(size bytes:Nat)(ht:P.underlying t=some (.slice e))(hi:P.info? e=some i)(hz:i.zero=some z)(si:i.size=size)(sq:i.bytes=bytes)(sw:z.cells.size=size)(su : 0<size)(v:Value)(n:Nat)(xs:List Value)(hs:a.eval s=v)(sj:w.ownsRow base e size v n xs)(ad:Addr)(m c:Nat)(news:List Value)(hx:a.eval y=.slice (some ad) m c)(hl:news.length=m*size)(sh:∀j u,news[j]?=some u→w.cell? (ad.add j)=some u)(h1:∀u∈news,u.oneCell'=true)(sp:n+m≤maxLen)(se:(n+m)*bytes≤140737488355328)(sg:base≤w.heap.size)(h:∀v' w',w'.ownsRow base e size v' (n+m) (xs++news)→w.grownBy w' v.ownBlock→df w v v'→K (a.put o.dst v') w') :
  if Region.wanted o (yielded ops a.tmps)=true then Oper.wp P o a w K Q else E:=by
 have hw:Region.wanted o (yielded ops a.tmps)=true:=by simp[Region.wanted,sr]
 rw[if_pos hw]
 obtain⟨v',w',hr,h2,h3,h4⟩:=fp (P:=P) w base t o.type e i z size bytes ht hi hz si sq sw su v n xs sj ad m c news hl sh h1 sp se sg
 unfold Oper.wp execOp
 simp only[ho,resolve,invoke,builtin,Sem.run_bind,Sem.run_pure,Result.andThen_ok,List.map_toArray,jU,List.map_nil,hs,hx,hr]
 exact h v' w' h2 h3 h4
theorem kC(w:World)(row:Option Nat):w.grownBy w row:=⟨rfl,rfl,rfl,jo _,fun _ _ _=>rfl⟩
theorem nV{P:Program}(w:World)(base:Nat)(t ty e:TypeId)(i:TypeInfo)(z:Value)(size bytes:Nat)(ht:P.underlying t=some (.slice e))(hi:P.info? e=some i)(hz:i.zero=some z)(sg:i.size=size)(sw:i.bytes=bytes)(sy:z.cells.size=size)(sq : 0<size)(v:Value)(n:Nat)(xs:List Value)(si:w.ownsRow base e size v n xs)(A:Option Addr)(m c:Nat)(news:List Value)(hl:news.length=m*size)(se:∀j u,news[j]?=some u→∃ad,A=some ad∧w.cell? (ad.add j)=some u)(h1:∀u∈news,u.oneCell'=true)(su:n+m≤maxLen)(sh:(n+m)*bytes≤140737488355328)(sj:base≤w.heap.size) :
  ∃v' w',(Builtin.append_ #[t,t] ty #[v,.slice A m c]).run P w=.ok v' w'∧w'.ownsRow base e size v' (n+m) (xs++news)∧w.grownBy w' v.ownBlock∧df w v v':=by
 rcases A with _|a
 ·have sp:news=[]:=by
   cases news with
   | nil=>rfl
   | cons u l=>obtain⟨ad,e,_⟩:=se 0 u rfl;cases e
  subst sp
  obtain rfl:m=0:=by
   rcases Nat.eq_zero_or_pos m with h|h
   ·exact h
   ·have:=Nat.mul_pos h sq;simp at hl;omega
  refine⟨v,w,?_,by simpa using si,kC _ _,.inl rfl⟩
  subst sg
  rcases si.2 with ⟨rfl,rfl⟩|⟨g,cap,sA,rfl,sB,hg,sx,sC,sD,sr⟩
  ·exact run_append_nothing w t t ty e i ht hi none 0 0 (jo _) _ (Src.ofNil (w:=w) ht c)
  ·exact run_append_nothing w t t ty e i ht hi _ n cap sx _ (Src.ofNil (w:=w) ht c)
 ·exact fp w base t ty e i z size bytes ht hi hz sg sw sy sq v n xs si a m c news hl (fun j u hu=>by obtain⟨ad,e,h⟩:=se j u hu;injection e with e;rw[e];exact h) h1 su sh sj
theorem aH{P:Program}{w:World}{ops:Array Oper}{rest:List Oper}{o:Oper}{a:Act}{Q:Exit→Act→World→Prop}(sr:o.guard=none)(s y:Operand)(t:TypeId)(ho:o.op=.call { callee:=.builtin .append,args:=#[s,y],argTypes:=#[t,t] })(base:Nat)(e:TypeId)(i:TypeInfo)(z:Value)(size bytes:Nat)(ht:P.underlying t=some (.slice e))(hi:P.info? e=some i)(hz:i.zero=some z)(si:i.size=size)(sq:i.bytes=bytes)(sw:z.cells.size=size)(su : 0<size)(v:Value)(n:Nat)(xs:List Value)(hs:a.eval s=v)(sj:w.ownsRow base e size v n xs)(A:Option Addr)(m c:Nat)(news:List Value)(hx:a.eval y=.slice A m c)(hl:news.length=m*size)(sh:∀j u,news[j]?=some u→∃ad,A=some ad∧w.cell? (ad.add j)=some u)(h1:∀u∈news,u.oneCell'=true)(sp:n+m≤maxLen)(se:(n+m)*bytes≤140737488355328)(sg:base≤w.heap.size)(h:∀v' w',w'.ownsRow base e size v' (n+m) (xs++news)→w.grownBy w' v.ownBlock→df w v v'→wpList P ops Q rest (a.put o.dst v') w'):wpList P ops Q (o::rest) a w :=
 wpList_plain sr fun K hK=>by
  obtain⟨v',w',hr,h2,h3,h4⟩:=nV (P:=P) w base t o.type e i z size bytes ht hi hz si sq sw su v n xs sj A m c news hl sh h1 sp se sg
  unfold Oper.wp execOp
  simp only[ho,resolve,invoke,builtin,Sem.run_bind,Sem.run_pure,Result.andThen_ok,List.map_toArray,jU,List.map_nil,hs,hx,hr]
  exact hK _ _ (h v' w' h2 h3 h4)
theorem Cl.news{F:Nat→Prop}{w:World}{A:Option Addr}{xs:List Value}(h:Cl F w A xs):∀j u,xs[j]?=some u→∃ad,A=some ad∧w.cell? (ad.add j)=some u:=fun j u hu=>by
 obtain⟨ad,h1,_,h3⟩:=h.at' hu
 exact⟨ad,h1,h3⟩
theorem Strs.of_own{w:World}{base n:Nat}{e:TypeId}{v:Value}{l:List ByteArray}(h:w.ownsRow base e 1 v n (l.map Sv)):Strs (fun k=>v.ownBlock=some k∧base≤k) w v l:=by
 have hn:n=l.length:=by have:=h.1;simp at this;omega
 subst hn
 obtain⟨A,c,rfl,hc,se⟩:=Cl.of_own h
 exact⟨A,c,rfl,by simpa using hc,se⟩
theorem aD{w w':World}{base size n:Nat}{e:TypeId}{v:Value}{xs:List Value}(h:w.ownsRow base e size v n xs)(he:Ext w w'):w'.ownsRow base e size v n xs:=bo h (he.fr (fun _=>False)) (fun _ _ h=>h)
theorem Ats.at2{F:Nat→Prop}{w:World}{A:Option Addr}{n c:Nat}{xs:List At}(h:Ats F w (.slice A n c) xs):∀i (hi:i<xs.length),∃ad B d,A=some ad∧F ad.block ∧
  w.cell? (ad.add (i*3))=some (.bool xs[i].neg)∧w.cell? ⟨(ad.add (i*3)).block,(ad.add (i*3)).off+1,none⟩=some (.string xs[i].rel)∧w.cell? ⟨(ad.add (i*3)).block,(ad.add (i*3)).off+2,none⟩=some (.slice B xs[i].terms.length d)∧xs[i].terms.length≤d∧Cl F w B (dM xs[i].terms):=by
 obtain⟨A',c',e,-,hh⟩:=h.at'
 injection e with e1 e2 e3
 subst e1
 exact hh
theorem Cl.str{F:Nat→Prop}{w:World}{A:Option Addr}{l:List ByteArray}(h:Cl F w A (l.map Sv)){i:Nat}(hi:i<l.length):∃ad,A=some ad∧F ad.block∧w.cell? (ad.add i)=some (.string l[i]):=h.at' (by simp[hi])
theorem Ats.sl{F:Nat→Prop}{w:World}{v:Value}{xs:List At}(h:Ats F w v xs):∃A c,v=.slice A xs.length c:=let ⟨A,c,_,e,_⟩:=h;⟨A,c,e⟩
theorem aI.look{w:World}{b n:Nat}{f:ByteArray→Option Value}(h:aI w b n f){t e:TypeId}(ht:Tryz.prog.underlying t=some (.map 9 e)){z:Value}(hz:(zeroValue e).run Tryz.prog w=.ok z w){s:ByteArray}(hs:s.size≤maxLen){u:Value}(hu:(f s).getD z=u):(Instr.lookup t (.map (some b)) (.string s) false).run Tryz.prog w=.ok u w:=by
 obtain⟨D,hD,-,sg,-⟩:=h
 obtain⟨v,ps,se,hv⟩:=hD.lookup ek ht hz (zd:=.held z) (zp:=[]) rfl (keyOf_str s hs)
 have sh:v=u:=by
  have h1:=sg s (.held z)
  rw[h1]at hv
  rcases hf:f s with _|y
  ·rw[hf]at hv hu;simp at hv hu;rw[hv.1,hu]
  ·rw[hf]at hv hu;simp at hv hu;rw[hv.1,hu]
 subst sh
 exact se
end Go.Proofs.YtplldnnnhgnbjaaGreatDoor
namespace Go.Proofs.YtplldnnnhgnbjaaGreatDoor
open Go.RowKit Go.Maps
theorem m9{a b:Bool}(h:a=true↔b=true):a=b:=by
 cases a <;> cases b <;> simp_all
theorem Fr.drew{S:Nat→Prop}{a w:World}(h:Fr S a w):Fr S a w.drew:=⟨h.os,h.tape,h.output,h.size,h.block⟩
theorem Fr.alloc{S:Nat→Prop}{a w:World}(h:Fr S a w)(o:Obj):Fr S a (w.alloc o):=h.ext ((Ext.refl w).alloc o)
structure Rdg(α : Type) where
 sz:Nat
 R:(Nat→Prop)→World→List Value→α→Prop
 len:∀{F:Nat→Prop} {w:World} {cs:List Value} {x : α},R F w cs x→cs.length=sz
 fr:∀{F S:Nat→Prop} {w w':World} {cs:List Value} {x : α},R F w cs x→Fr S w w'→(∀k,F k→¬S k)→R F w' cs x
 mono:∀{F G:Nat→Prop} {w:World} {cs:List Value} {x : α},R F w cs x→(∀k,k<w.heap.size→F k→G k)→R G w cs x
theorem Rdg.ext{α : Type}(r:Rdg α){F:Nat→Prop}{w w':World}{cs:List Value}{x : α}(h:r.R F w cs x)(he:Ext w w'):r.R F w' cs x:=r.fr h (he.fr (fun _=>False)) (fun _ _ h=>h)
def d8{α : Type}(cells : α→List Value)(sz:Nat)(h:∀x,(cells x).length=sz):Rdg α where
 sz:=sz
 R:=fun _ _ cs x=>cs=cells x
 len:=fun {_ _ _ x} e=>e ▸ h x
 fr:=fun e _ _=>e
 mono:=fun e _=>e
def Sl{α : Type}(r:Rdg α)(F:Nat→Prop)(w:World)(v:Value)(xs:List α):Prop :=
 ∃A c,v=.slice A xs.length c∧xs.length≤c∧∀i (hi:i<xs.length),∃ad cs,A=some ad∧F ad.block∧r.R F w cs xs[i]∧∀j (h:j<cs.length),w.cell? (ad.add (i*r.sz+j))=some cs[j]
section
variable {α : Type} {r:Rdg α} {F G S:Nat→Prop} {w w':World} {v:Value} {xs:List α}
theorem Sl.fr(h:Sl r F w v xs)(hf:Fr S w w')(hs:∀k,F k→¬S k):Sl r F w' v xs:=by
 obtain⟨A,c,e,hc,h⟩:=h
 refine⟨A,c,e,hc,fun i hi=>?_⟩
 obtain⟨ad,cs,h1,h2,h3,h4⟩:=h i hi
 exact⟨ad,cs,h1,h2,r.fr h3 hf hs,fun j hj=>hf.cell (h4 j hj) (by rw[aT];exact hs _ h2)⟩
theorem Sl.ext(h:Sl r F w v xs)(he:Ext w w'):Sl r F w' v xs:=h.fr (he.fr (fun _=>False)) (fun _ _ h=>h)
theorem Sl.mono(h:Sl r F w v xs)(hp : 0<r.sz)(hs:∀k,k<w.heap.size→F k→G k):Sl r G w v xs:=by
 obtain⟨A,c,e,hc,h⟩:=h
 refine⟨A,c,e,hc,fun i hi=>?_⟩
 obtain⟨ad,cs,h1,h2,h3,h4⟩:=h i hi
 have h5:=eh (h4 0 (by rw[r.len h3];exact hp))
 rw[aT]at h5
 exact⟨ad,cs,h1,hs _ h5 h2,r.mono h3 hs,h4⟩
theorem Sl.sl(h:Sl r F w v xs):∃A c,v=.slice A xs.length c:=let ⟨A,c,e,_⟩:=h;⟨A,c,e⟩
theorem Sl.cap{A:Option Addr}{n c:Nat}(h:Sl r F w (.slice A n c) xs):n=xs.length∧n≤c:=by
 obtain⟨A',c',e,hc,-⟩:=h
 injection e with e1 e2 e3
 omega
theorem Sl.nil(r:Rdg α)(F:Nat→Prop)(w:World):Sl r F w (.slice none 0 0) []:=⟨none,0,rfl,jo _,fun i hi=>by simp at hi⟩
theorem Sl.at{A:Option Addr}{n c:Nat}(h:Sl r F w (.slice A n c) xs){i:Nat}(hi:i<xs.length):∃ad cs,A=some ad∧F ad.block∧r.R F w cs xs[i]∧(∀h : 0<cs.length,w.cell? (ad.add (i*r.sz))=some cs[0])∧∀j (h:j+1<cs.length),w.cell? ⟨(ad.add (i*r.sz)).block,(ad.add (i*r.sz)).off+(j+1),none⟩=some cs[j+1]:=by
 obtain⟨A',c',e,hc,h⟩:=h
 injection e with e1 e2 e3
 subst e1
 obtain⟨ad,cs,h1,h2,h3,h4⟩:=h i hi
 refine⟨ad,cs,h1,h2,h3,fun h0=>by simpa using h4 0 h0,fun j hj=>?_⟩
 rw[←eo]
 exact h4 (j+1) hj
end
structure Rw{α : Type}(r:Rdg α)(w:World)(base:Nat)(E:TypeId)(v:Value)(n:Nat)(xs:List α)(css:List (List Value)):Prop where
 len:css.length=xs.length
 own:w.ownsRow base E r.sz v n css.flatten
 rd:∀i (h:i<xs.length) (h':i<css.length),r.R (fun k=>base≤k∧v.ownBlock≠some k) w css[i] xs[i]
section
variable {α : Type} {r:Rdg α} {S:Nat→Prop} {w w' wb w9:World} {base n:Nat} {E:TypeId} {v v9:Value} {xs:List α} {css:List (List Value)} {cs:List Value} {x : α}
theorem gZ{sz:Nat}:∀{css:List (List Value)},(∀cs∈css,cs.length=sz)→css.flatten.length=css.length*sz
 | [],_=>by simp
 | c::css,h=>by
  rw[List.flatten_cons,jm,gZ (fun d hd=>h d (js _ hd)),h c zx,jD,Nat.add_mul]
  omega
theorem dW{sz:Nat}:∀{css:List (List Value)} {i j:Nat} (_:∀cs∈css,cs.length=sz) (hi:i<css.length),j<sz→css.flatten[i*sz+j]?=css[i][j]?
 | c::css,0,j,h,_,hj=>by
  rw[List.flatten_cons,zi (by rw[h c zx];omega)]
  simp
 | c::css,i+1,j,h,hi,hj=>by
  have hc:=h c zx
  rw[List.flatten_cons,zg (by rw[hc,Nat.add_mul];omega)]
  have e:(i+1)*sz+j-c.length=i*sz+j:=by rw[hc,Nat.add_mul];omega
  rw[e]
  exact dW (fun d hd=>h d (js _ hd)) (by simpa using hi) hj
theorem Rw.all(h:Rw r w base E v n xs css):∀cs∈css,cs.length=r.sz:=fun cs se=>by
 obtain⟨i,hi,rfl⟩:=jx se
 exact r.len (h.rd i (by rw[←h.len];exact hi) hi)
theorem Rw.num(h:Rw r w base E v n xs css)(hp : 0<r.sz):n=xs.length:=by
 have h1:=h.own.1
 rw[gZ h.all,h.len]at h1
 exact(Nat.mul_right_cancel hp h1).symm
theorem Rw.empty(r:Rdg α)(w:World)(base:Nat)(E:TypeId):Rw r w base E (.slice none 0 0) 0 [] []:=⟨rfl,World.ownsRow_nil _ _ _ _,fun i h=>by simp at h⟩
theorem Rw.ext(h:Rw r w base E v n xs css)(he:Ext w w'):Rw r w' base E v n xs css:=⟨h.len,aD h.own he,fun i hi h'=>r.ext (h.rd i hi h') he⟩
theorem Rw.fr(h:Rw r w base E v n xs css)(hf:Fr S w w')(hs:∀k,base≤k→¬S k):Rw r w' base E v n xs css:=⟨h.len,bo h.own hf (fun k hk=>hs k (aw h.own hk)),fun i hi h'=>r.fr (h.rd i hi h') hf (fun k hk=>hs k hk.1)⟩
theorem Rw.sl(h:Rw r w base E v n xs css)(hp : 0<r.sz):Sl r (fun k=>base≤k) w v xs:=by
 have hn:=h.num hp
 have se:=h.all
 obtain⟨hl,ho,hr⟩:=h
 subst hn
 obtain⟨A,c,rfl,hc,sh⟩:=Cl.of_own ho
 refine⟨A,c,rfl,hc,fun i hi=>?_⟩
 have sg:i<css.length:=by omega
 have si:css[i].length=r.sz:=se _ (jf sg)
 have hg:∀j,j<css[i].length→∃ad,A=some ad∧base≤ad.block∧w.cell? (ad.add (i*r.sz+j))=css[i][j]?:=fun j hj=>by
  have h1:=dW se sg (j:=j) (by omega)
  rw[jl hj]at h1 ⊢
  obtain⟨ad,e,h2,h3⟩:=sh.at' h1
  exact⟨ad,e,h2.2,h3⟩
 obtain⟨ad,rfl,hb,-⟩:=hg 0 (by omega)
 refine⟨ad,css[i],rfl,hb,r.mono (hr i hi sg) (fun k _ hk=>hk.1),fun j hj=>?_⟩
 obtain⟨sj,e,-,h2⟩:=hg j hj
 injection e with e
 subst e
 rw[h2,jl hj]
theorem Rw.more(h:Rw r w base E v n xs css)(he:Ext w wb)(ht:r.R (fun k=>base≤k∧v.ownBlock≠some k) wb cs x)(hr:w9.ownsRow base E r.sz v9 (n+1) (css.flatten++cs))(hg:wb.grownBy w9 v.ownBlock)(hl:df wb v v9):Rw r w9 base E v9 (n+1) (xs++[x]) (css++[cs]):=by
 have sg:∀k,k<wb.heap.size→v.ownBlock≠some k→v9.ownBlock≠some k:=fun k hk h1 h2=>by
  rcases hl with hl|hl
  ·exact h1 (hl ▸ h2)
  ·rw[hl]at h2
   injection h2 with h2
   omega
 have se:∀{ds:List Value} {y : α},r.R (fun k=>base≤k∧v.ownBlock≠some k) wb ds y→r.R (fun k=>base≤k∧v9.ownBlock≠some k) w9 ds y:=fun {ds y} hh=>by
  have h1:r.R (fun k=>(base≤k∧v.ownBlock≠some k)∧k<wb.heap.size) wb ds y:=r.mono hh (fun k hk h1=>And.intro h1 hk)
  have h2:=r.fr h1 (am hg) (fun k hk e=>hk.1.2 e)
  exact r.mono h2 (fun k _ hk=>⟨hk.1.1,sg k hk.2 hk.1.2⟩)
 refine⟨by simp[h.len],by rw[List.flatten_append];simpa using hr,fun i hi h'=>?_⟩
 rcases jz i xs.length with hx|hx
 ·rw[jw hx,jw (by rw[h.len];exact hx)]
  exact se (r.ext (h.rd i hx (by rw[h.len];exact hx)) he)
 ·have e:i=xs.length:=by simp at hi;omega
  subst e
  rw[jv (jo _),jv (by rw[h.len];exact jo _)]
  simp only[h.len,zm,ja]
  exact se ht
end
structure Cd where
 var:ByteArray
 op:Int
 kind:Int
 int:Int
 str:ByteArray
structure Ky where
 var:ByteArray
 desc:Bool
structure Rl where
 ats:List At
 cds:List Cd
structure Qy where
 hd:List ByteArray
 ag:Int
 av:ByteArray
 rs:List Rl
 od:List Ky
structure Sc where
 name:ByteArray
 kinds:List Int
def Cd.cells(c:Cd):List Value:=[.string c.var,.int .i64 c.op,.int .i64 c.kind,.int .i64 c.int,.string c.str]
def Ky.cells(k:Ky):List Value:=[.string k.var,.bool k.desc]
def eL:Rdg Cd:=d8 Cd.cells 5 (fun _=>rfl)
def iO:Rdg Ky:=d8 Ky.cells 2 (fun _=>rfl)
def el:Rdg Sc where
 sz:=2
 R:=fun F w cs s=>∃u,cs=[.string s.name,u]∧Ins F w u s.kinds
 len:=fun ⟨_,e,_⟩=>by rw[e];rfl
 fr:=fun ⟨u,e,h⟩ hf hs=>⟨u,e,h.fr hf hs⟩
 mono:=fun ⟨u,e,h⟩ hs=>⟨u,e,h.mono hs⟩
def rz:Rdg Rl where
 sz:=2
 R:=fun F w cs r=>∃u v,cs=[u,v]∧Ats F w u r.ats∧Sl eL F w v r.cds
 len:=fun ⟨_,_,e,_⟩=>by rw[e];rfl
 fr:=fun ⟨u,v,e,h,k⟩ hf hs=>⟨u,v,e,h.fr hf hs,k.fr hf hs⟩
 mono:=fun {F G w cs x} ⟨u,v,e,h,k⟩ hs=>⟨u,v,e,by
  obtain⟨A,c,vs,h1,h2,h3,h4,h5⟩:=h
  exact⟨A,c,vs,h1,h2,h3,h4.mono hs,fun i hi h'=>(h5 i hi h').mono hs⟩,k.mono (by decide) hs⟩
section
variable {F:Nat→Prop} {w:World} {A:Option Addr} {n c:Nat}
theorem Sl.cd{xs:List Cd}(h:Sl eL F w (.slice A n c) xs){i:Nat}(hi:i<xs.length):∃ad,A=some ad∧F ad.block∧w.cell? (ad.add (i*5))=some (.string xs[i].var)∧w.cell? ⟨(ad.add (i*5)).block,(ad.add (i*5)).off+1,none⟩=some (.int .i64 xs[i].op)∧w.cell? ⟨(ad.add (i*5)).block,(ad.add (i*5)).off+2,none⟩=some (.int .i64 xs[i].kind)∧w.cell? ⟨(ad.add (i*5)).block,(ad.add (i*5)).off+3,none⟩=some (.int .i64 xs[i].int)∧w.cell? ⟨(ad.add (i*5)).block,(ad.add (i*5)).off+4,none⟩=some (.string xs[i].str):=by
 obtain⟨ad,cs,h1,h2,h3,h4,h5⟩:=h.at hi
 have e:cs=Cd.cells xs[i]:=h3
 subst e
 exact⟨ad,h1,h2,h4 (by simp[Cd.cells]),h5 0 (by simp[Cd.cells]),h5 1 (by simp[Cd.cells]),h5 2 (by simp[Cd.cells]),h5 3 (by simp[Cd.cells])⟩
theorem Sl.ky{xs:List Ky}(h:Sl iO F w (.slice A n c) xs){i:Nat}(hi:i<xs.length):∃ad,A=some ad∧F ad.block∧w.cell? (ad.add (i*2))=some (.string xs[i].var)∧w.cell? ⟨(ad.add (i*2)).block,(ad.add (i*2)).off+1,none⟩=some (.bool xs[i].desc):=by
 obtain⟨ad,cs,h1,h2,h3,h4,h5⟩:=h.at hi
 have e:cs=Ky.cells xs[i]:=h3
 subst e
 exact⟨ad,h1,h2,h4 (by simp[Ky.cells]),h5 0 (by simp[Ky.cells])⟩
theorem Sl.sc{xs:List Sc}(h:Sl el F w (.slice A n c) xs){i:Nat}(hi:i<xs.length):∃ad B d,A=some ad∧F ad.block∧w.cell? (ad.add (i*2))=some (.string xs[i].name)∧w.cell? ⟨(ad.add (i*2)).block,(ad.add (i*2)).off+1,none⟩=some (.slice B xs[i].kinds.length d)∧Ins F w (.slice B xs[i].kinds.length d) xs[i].kinds:=by
 obtain⟨ad,cs,h1,h2,⟨u,rfl,hu⟩,h4,h5⟩:=h.at hi
 obtain⟨B,d,e,hd,se⟩:=hu
 subst e
 exact⟨ad,B,d,h1,h2,h4 (by simp),h5 0 (by simp),B,d,rfl,hd,se⟩
theorem Sl.rl{xs:List Rl}(h:Sl rz F w (.slice A n c) xs){i:Nat}(hi:i<xs.length):∃ad B d C e,A=some ad∧F ad.block∧w.cell? (ad.add (i*2))=some (.slice B xs[i].ats.length d)∧w.cell? ⟨(ad.add (i*2)).block,(ad.add (i*2)).off+1,none⟩=some (.slice C xs[i].cds.length e)∧Ats F w (.slice B xs[i].ats.length d) xs[i].ats∧Sl eL F w (.slice C xs[i].cds.length e) xs[i].cds:=by
 obtain⟨ad,cs,h1,h2,⟨u,v,rfl,hu,hv⟩,h4,h5⟩:=h.at hi
 obtain⟨B,d,e1⟩:=hu.sl
 obtain⟨C,e,e2⟩:=hv.sl
 subst e1 e2
 exact⟨ad,B,d,C,e,h1,h2,h4 (by simp),h5 0 (by simp),hu,hv⟩
end
end Go.Proofs.YtplldnnnhgnbjaaGreatDoor
namespace Go.Proofs.YtplldnnnhgnbjaaGreatDoor
open Go.RowKit Go.Maps
def aA{α : Type}(f : α→Int):List α→Int
 | []=>0
 | a::l=>if f a=0 then aA f l else f a
section
variable {α : Type} {f g : α→Int} {l:List α}
theorem aF:aA f l=0↔∀a∈l,f a=0:=by
 induction l with
 | nil=>simp[aA]
 | cons a l ih =>
  unfold aA
  by_cases h:f a=0
  ·rw[if_pos h,ih]
   simp[h]
  ·rw[if_neg h]
   simp[h]
theorem bT{i:Nat}(hi:i<l.length)(h0:∀j (_:j<i) (_:j<l.length),f l[j]=0)(h1:f l[i]≠0):aA f l=f l[i]:=by
 induction l generalizing i with
 | nil=>simp at hi
 | cons a l ih =>
  unfold aA
  rcases i with _|i
  ·exact if_neg h1
  ·have ha:f a=0:=h0 0 (by omega) (by simp)
   rw[if_pos ha]
   exact ih (i:=i) (by simpa using hi) (fun j hj hl=>h0 (j+1) (by omega) (by simpa using hl)) h1
theorem ce(h0:∀j (_:j<l.length),f l[j]=0):aA f l=0:=aF.2 (fun a ha=>by
 obtain⟨j,hj,rfl⟩:=jx ha
 exact h0 j hj)
end
def kw(f:Nat→Int)(n:Nat):Int:=aA f (List.range n)
theorem eV{f:Nat→Int}{n:Nat}:kw f n=0↔∀i,i<n→f i=0:=by unfold kw;rw[aF];simp
theorem oN{f:Nat→Int}{n i:Nat}(hi:i<n)(h0:∀j,j<i→f j=0)(h1:f i≠0):kw f n=f i:=by
 unfold kw
 rw[bT (i:=i) (by simpa using hi) (fun j hj hl=>by simpa using h0 j hj) (by simpa using h1)]
 simp
def dz{σ α : Type}(f : σ→α→Except Int σ):List α→σ→Except Int σ
 | [],s=>.ok s
 | a::l,s=>match f s a with
  | .ok s'=>dz f l s'
  | .error e=>.error e
section
variable {σ α : Type} {f : σ→α→Except Int σ}
theorem il:∀(l m:List α) (s : σ),dz f (l++m) s=match dz f l s with|.ok s'=>dz f m s'|.error e=>.error e
 | [],m,s=>rfl
 | a::l,m,s=>by
  have e1:∀(k:List α),dz f (a::k) s=match f s a with|.ok s'=>dz f k s'|.error e=>.error e:=fun k=>rfl
  rw[zw,e1,e1]
  cases f s a with
  | ok s'=>exact il l m s'
  | error e=>rfl
theorem lY{l:List α}{i:Nat}(hi:i<l.length){s s' : σ}(h:dz f (l.take i) s=.ok s'):dz f (l.take (i+1)) s=f s' l[i]:=by
 rw[jj hi,il,h]
 have e1:dz f [l[i]] s'=match f s' l[i] with|.ok s'=>dz f [] s'|.error e=>.error e:=rfl
 show dz f [l[i]] s'=_
 rw[e1]
 cases f s' l[i] <;> rfl
theorem po{l:List α}{i:Nat}(hi:i<l.length){s s' : σ}{e:Int}(h:dz f (l.take i) s=.ok s')(h1:f s' l[i]=.error e):dz f l s=.error e:=by
 have h2:=lY hi h
 rw[h1]at h2
 rw[←jX (i+1) l,il,h2]
end
def letB(c:UInt8):Bool:=decide (97≤c.toNat∧c.toNat≤122∨65≤c.toNat∧c.toNat≤90)
def rW(c:UInt8):Bool:=decide (c.toNat=95∨48≤c.toNat∧c.toNat≤57)
def chB(s:ByteArray)(i:Nat):Bool:=letB (s.data.toList.getD i 0) || (decide (i≠0) && rW (s.data.toList.getD i 0))
def iL(s:ByteArray):Bool:=decide (s≠⟨#[]⟩) && decide (s.size≤16) && (List.range s.size).all (chB s)
def pX:List ByteArray:=[⟨#[99,111,117,110,116]⟩,⟨#[100,101,115,99]⟩,⟨#[109,97,120]⟩,⟨#[109,105,110]⟩,⟨#[110,111,116]⟩,⟨#[111,114,100,101,114]⟩,⟨#[115,117,109]⟩]
def cO(s:ByteArray):Bool:=!(decide (s∈pX)) && iL s
theorem nameB_ne{s:ByteArray}(h:cO s=true):s≠⟨#[]⟩:=by
 unfold cO iL at h
 simp only[Bool.and_eq_true,decide_eq_true_eq]at h
 exact h.2.1.1
def dY(k n:Int)(s:ByteArray):Bool:=if k=1 then decide (s=⟨#[]⟩) else if k=2 then decide (n=0∧s.size≤24) else false
def fe(t:Tm):Int:=if t.var=⟨#[]⟩ then (if dY t.kind t.int t.str=true then 0 else 4) else if cO t.var=true then (if t.kind=0∧t.int=0∧t.str=⟨#[]⟩ then 0 else 1) else 7
def dA(a:At):Int:=if cO a.rel=true then (if a.terms.length≤6 then aA fe a.terms else 12) else 7
def d6(c:Cd):Int:=if cO c.var=true then (if 0≤c.op∧c.op≤5 then (if dY c.kind c.int c.str=true then 0 else 4) else 2) else 7
def bQ(r:Rl):Int:=if r.ats=[] then 10 else if r.ats.length≤8∧r.cds.length≤8 then (if aA dA r.ats=0 then aA d6 r.cds else aA dA r.ats) else 12
def aj(r:Rl):List ByteArray:=r.cds.foldl (fun vs c=>fR vs c.var) (bD (aY r.ats))
def de(xs:List At):List Tm:=xs.flatMap (fun a=>if a.neg=true then [] else a.terms)
def fS(r:Rl)(v:ByteArray):Bool:=decide (v≠⟨#[]⟩) && (de r.ats).any (fun t=>decide (t.var=v))
def cn(nd:List ByteArray)(r:Rl):Int:=if bQ r=0 then (if (aj r).length≤8 then (if (nd++aj r).all (fS r)=true then 0 else 22) else 12) else bQ r
def dr(hd:List ByteArray):Int:=if hd.length≤6 then kw (fun i=>if cO (hd.getD i ⟨#[]⟩)=true then (if hd.getD i ⟨#[]⟩∈hd.take i then 8 else 0) else 7) hd.length else 12
def gD(ag:Int)(av:ByteArray):Int:=if ag=0∨ag=1 then (if av=⟨#[]⟩ then 0 else 1) else if ag=2∨ag=3∨ag=4 then (if cO av=true then 0 else 7) else 2
def dI(hd:List ByteArray)(av:ByteArray):List ByteArray:=if av=⟨#[]⟩ then hd else hd++[av]
def dp(hd:List ByteArray)(od:List Ky):Int:=kw (fun i=>if (od.map Ky.var).getD i ⟨#[]⟩∈hd then (if (od.map Ky.var).getD i ⟨#[]⟩∈(od.map Ky.var).take i then 8 else 0) else 7) od.length
def eU(q:Qy):Int :=
 if q.rs=[] then 10 else if q.rs.length≤3∧(q.rs.length≤1∨q.ag=0) then
  (if dr q.hd=0 then (if gD q.ag q.av=0 then (if aA (cn (dI q.hd q.av)) q.rs=0 then dp q.hd q.od else aA (cn (dI q.hd q.av)) q.rs) else gD q.ag q.av) else dr q.hd) else 12
abbrev Km:=ByteArray→Option Int
def oA(m:Km)(s:ByteArray)(k:Int):Km:=fun t=>if t=s then some k else m t
def cV(m:Km)(p:Tm×Int):Except Int Km :=
 if p.1.var=⟨#[]⟩ then (if p.1.kind=p.2 then .ok m else .error 5)
 else match m p.1.var with
  | some k=>if k=p.2 then .ok m else .error 5
  | none=>.ok (oA m p.1.var p.2)
def cm(ss:List Sc)(s:ByteArray):Option Sc:=ss.find? (fun x=>decide (x.name=s))
def dG(ss:List Sc)(m:Km)(a:At):Except Int Km :=
 match cm ss a.rel with
 | none=>.error 7
 | some s=>if a.terms.length=s.kinds.length then dz cV (a.terms.zip s.kinds) m else .error 6
def aU(ss:List Sc)(r:Rl):Except Int Km:=dz (dG ss) r.ats (fun _=>none)
def gY{σ : Type}:Except Int σ→Int
 | .ok _=>0
 | .error e=>e
def a8(ss:List Sc)(r:Rl):Km:=match aU ss r with|.ok m=>m|.error _=>fun _=>none
def pS(a b:At):Bool:=a.terms.all (fun t=>decide (t.var=⟨#[]⟩) || b.terms.any (fun u=>decide (u.var=t.var)))
def fY(xs:List At)(a:At):Option Nat:=xs.findIdx? (fun b=>!b.neg && pS a b)
def p7(xs:List At)(a:At):Int:=if a.neg=true then (if (fY xs a).isSome=true then 0 else 23) else 0
def fI(m:Km)(c:Cd):Int:=if c.kind=(m c.var).getD 0 then 0 else 5
def bh(m:Km)(r:Rl):Int:=if aA (fI m) r.cds=0 then aA (p7 r.ats) r.ats else aA (fI m) r.cds
def aZ(ss:List Sc)(q:Qy):Int :=
 if eU q=0 then
  (if aA (fun r=>gY (aU ss r)) q.rs=0 then
   (if aA (fun r=>bh (a8 ss r) r) q.rs=0 then
    (if q.rs.all (fun r=>q.hd.all (fun v=>decide ((a8 ss r v).getD 0=(a8 ss (q.rs.headD ⟨[],[]⟩) v).getD 0)))=true then
     (if q.ag=2∧(a8 ss (q.rs.headD ⟨[],[]⟩) q.av).getD 0≠1 then 5 else 0) else 5)
   else aA (fun r=>bh (a8 ss r) r) q.rs)
  else aA (fun r=>gY (aU ss r)) q.rs)
 else eU q
end Go.Proofs.YtplldnnnhgnbjaaGreatDoor
namespace Go.Proofs.YtplldnnnhgnbjaaGreatDoor
open Go.RowKit Go.Maps
theorem cG(k n:Int)(s:ByteArray)(w:World)(hs:s.size≤maxLen) :
  Calls Tryz.prog 182 #[.agg #[.int .i64 k,.int .i64 n,.string s]] w (Ret (fun x _=>x=.bool (dY k n s)) w):=by
 have sh:s.size≤9223372036854775807:=by simpa [maxLen] using hs
 by_cases h1:k=1
 ·have e:dY k n s=s.toList.isEmpty:=by unfold dY;rw[if_pos h1,mc]
  rw[e]
  subst h1
  obtain⟨b,hb⟩:=sd s.toList.isEmpty
  rw[←hb]
  rcases b with _|_
  all_goals
   have hz:=hb.symm
   clear hb e
   go_enter Tryz.func182,Tryz.ntmps182
   go_wp2_with fail
   go_ret
   exact Ret.mk ((Ext.refl w).alloc _) rfl
 ·have se:(k == 1)=false:=beq_false_of_ne h1
  by_cases h2:k=2
  ·have e:dY k n s=decide (n=0∧s.size≤24):=by unfold dY;rw[if_neg h1,if_pos h2]
   rw[e]
   subst h2
   clear h1 se e
   by_cases h3:n=0
   ·subst h3
    by_cases h4:s.size≤24
    ·have h5:(s.size:Int)≤24:=by omega
     rw[show decide ((0:Int)=0∧s.size≤24)=true from decide_eq_true ⟨rfl,h4⟩]
     go_enter Tryz.func182,Tryz.ntmps182
     go_wp2_with fail
     go_ret
     exact Ret.mk ((Ext.refl w).alloc _) rfl
    ·have h5:¬(s.size:Int)≤24:=by omega
     rw[show decide ((0:Int)=0∧s.size≤24)=false from decide_eq_false (fun h=>h4 h.2)]
     go_enter Tryz.func182,Tryz.ntmps182
     go_wp2_with fail
     go_ret
     exact Ret.mk ((Ext.refl w).alloc _) rfl
   ·have h4:(n == 0)=false:=beq_false_of_ne h3
    rw[show decide (n=0∧s.size≤24)=false from decide_eq_false (fun h=>h3 h.1)]
    go_enter Tryz.func182,Tryz.ntmps182
    go_wp2_with fail
    go_ret
    exact Ret.mk ((Ext.refl w).alloc _) rfl
  ·have sg:(k == 2)=false:=beq_false_of_ne h2
   have e:dY k n s=false:=by unfold dY;rw[if_neg h1,if_neg h2]
   rw[e]
   clear e
   go_enter Tryz.func182,Tryz.ntmps182
   go_wp2_with fail
   go_ret
   exact Ret.mk ((Ext.refl w).alloc _) rfl
end Go.Proofs.YtplldnnnhgnbjaaGreatDoor
