/- packed -/
import Derived.Test.YtplldnnnhgnbjaaGreatDoorProg
import Derived.WalkKit
import Derived.WalkSpells
import Derived.WalkLawsBesides
import Derived.Deep.QuietTactic
import Derived.BigQuiet
import Derived.Lib.Hide
import Derived.KernelRfl
import Derived.Deep.DeepCutAuto
import Derived.Deep.CutBlock
import Derived.Shelf.Strings.Builder1
import Derived.Shelf.Strings.Builder2
import Derived.Shelf.Small.Bits
import Derived.Shelf.Small.Strs
import Derived.Shelf.Small.Wraps
import Derived.Shelf.Strings.BuilderF
import Derived.Shelf.Strconv.Itoa0
import Derived.Shelf.Strconv.Itoa1
import Derived.Shelf.LaysM
import Derived.Shelf.Strconv.Itoa2
import Derived.Shelf.Strconv.Itoa3
import Derived.Shelf.Strconv.Clone
import Derived.Shelf.Sort.Plain
import Derived.Shelf.Strconv.AppendUint10
import Derived.Shelf.Strconv.AppendInt10
import Derived.Shelf.Strconv.AppendIntPublic10
import Derived.Shelf.Strings.Prefix
import Derived.Shelf.Bits.Mul64
import Derived.Shelf.Strings.Repeat
import Derived.Shelf.Slices.Turned
import Derived.Ground.Names2Prog
import Derived.Shelf.Slices.Clone
import Derived.Shelf.Slices.In.SortNone
set_option maxHeartbeats 400000
namespace Go.Proofs.YtplldnnnhgnbjaaGreatDoor
theorem sd{α:Sort _}(a:α):∃x,x=a:=⟨a,rfl⟩
abbrev ja:=@List.getElem_cons_zero
abbrev jb:=@List.getElem?_cons_succ
abbrev jc:=@List.getElem?_cons_zero
abbrev jd:=@List.getElem?_toArray
abbrev je:=@List.getElem_cons_succ
abbrev jf:=@List.getElem_mem
abbrev jg:=@List.setIfInBounds_toArray
abbrev jh:=@List.set_cons_zero
abbrev ji:=@List.set_cons_succ
abbrev jj:=@List.take_succ_eq_append_getElem
abbrev jk:=@List.length_map
abbrev jl:=@List.getElem?_eq_getElem
abbrev jm:=@List.length_append
abbrev jn:=@Nat.zero_le
abbrev jo:=@Nat.le_refl
abbrev jp:=@List.take_of_length_le
abbrev jq:=@List.mem_singleton
abbrev jr:=@Nat.le_trans
abbrev js:=@List.mem_cons_of_mem
abbrev jt:=@List.length_take
abbrev ju:=@List.mem_append
abbrev jv:=@List.getElem_append_right
abbrev jw:=@List.getElem_append_left
abbrev jx:=@List.getElem_of_mem
abbrev jy:=@List.getElem_map
abbrev jz:=@Nat.lt_or_ge
abbrev jA:=@List.all_eq_true
abbrev jB:=@List.mem_cons
abbrev jC:=@List.mem_filter
abbrev jD:=@List.length_cons
abbrev jE:=@Nat.lt_of_lt_of_le
abbrev jF:=@List.length_filter_le
abbrev jG:=@List.mem_map
abbrev jH:=@List.map_append
abbrev jI:=@List.getD_eq_getElem?_getD
abbrev jJ:=@List.getElem?_set_ne
abbrev jK:=@List.filter_append
abbrev jL:=@Int.toNat_natCast
abbrev jM:=@List.any_eq_true
abbrev jO:=@Nat.le_succ
abbrev jP:=@List.mem_append_left
abbrev jQ:=@List.length_nil
abbrev jR:=@Array.getElem?_eq_some_iff
abbrev jS:=@List.flatMap_cons
abbrev jT:=@List.take_length
abbrev jU:=@List.map_cons
abbrev jV:=@List.drop_eq_getElem_cons
abbrev jW:=@Nat.mul_le_mul_right
abbrev jX:=@List.take_append_drop
abbrev jY:=@Nat.zero_add
abbrev jZ:=@List.eq_nil_of_length_eq_zero
abbrev za:=@List.length_drop
abbrev zb:=@List.drop_of_length_le
abbrev zc:=@List.length_set
abbrev ze:=@List.nil_append
abbrev zf:=@List.ext_getElem
abbrev zg:=@List.getElem?_append_right
abbrev zh:=@List.append_assoc
abbrev zi:=@List.getElem?_append_left
abbrev zj:=@List.getElem?_eq_some_iff
abbrev zk:=@List.pairwise_iff_getElem
abbrev zl:=@List.getElem?_set_self
abbrev zm:=@Nat.sub_self
abbrev zn:=@List.getElem?_take_of_lt
abbrev zo:=@List.getElem?_eq_none
abbrev zq:=@List.mem_append_right
abbrev zr:=@List.foldl_cons
abbrev zu:=@List.length_zip
abbrev zw:=@List.cons_append
abbrev zx:=@List.mem_cons_self
abbrev zy:=@List.getElem_take
abbrev zz:=@List.flatMap_append
abbrev zA:=@List.mem_take_iff_getElem
abbrev zB:=@List.getElem_zip
abbrev zC:=@List.nodup_nil
abbrev zD:=@List.foldl_append
abbrev zE:=@List.getElem_drop
abbrev zF:=@List.nodup_append
abbrev zG:=@List.append_nil
abbrev zH:=@List.map_congr_left
abbrev zI:=@Array.getElem?_eq_none
abbrev zJ:=@List.not_mem_nil
abbrev zK:=@List.getElem_range
abbrev zL:=@List.pairwise_cons
abbrev zM:=@Array.getElem?_modify
abbrev zN:=@Lib.hid
end Go.Proofs.YtplldnnnhgnbjaaGreatDoor
namespace Go.Proofs.YtplldnnnhgnbjaaGreatDoor.N1
def val:List Nat→Nat
 | []=>0
 | d::ds=>d+4294967296*val ds
def Low(ds:List Nat):Prop:=∀d∈ds,d<4294967296
theorem Low.nil:Low []:=fun _ h=>by simp at h
theorem Low.get{ds:List Nat}(h:Low ds){i:Nat}(hi:i<ds.length):ds[i]<4294967296:=h _ (jf hi)
theorem Low.getD{ds:List Nat}(h:Low ds)(i:Nat):ds.getD i 0<4294967296:=by
 by_cases hi:i<ds.length
 ·simp[List.getD,hi];exact h.get hi
 ·simp[List.getD,hi]
theorem Low.take{ds:List Nat}(h:Low ds)(k:Nat):Low (ds.take k):=fun d hd=>h d (List.mem_of_mem_take hd)
theorem Low.append{a b:List Nat}(ha:Low a)(hb:Low b):Low (a++b):=fun d hd=>by
 rcases ju.1 hd with h|h
 ·exact ha d h
 ·exact hb d h
theorem Low.cons{d:Nat}{ds:List Nat}(hd:d<4294967296)(h:Low ds):Low (d::ds):=fun x hx=>by
 rcases jB.1 hx with rfl|hx
 ·exact hd
 ·exact h x hx
theorem oe(a b:List Nat):val (a++b)=val a+4294967296 ^ a.length*val b:=by
 induction a with
 | nil=>simp[val]
 | cons d ds ih =>
  simp only[zw,val,ih,jD,Nat.pow_succ]
  rw[Nat.mul_add,←Nat.mul_assoc,Nat.mul_comm 4294967296 (4294967296 ^ ds.length)];omega
theorem val_lt{ds:List Nat}(h:Low ds):val ds<4294967296 ^ ds.length:=by
 induction ds with
 | nil=>simp[val]
 | cons d ds ih =>
  have h1:=ih (fun x hx=>h x (js _ hx))
  have h2:d<4294967296:=h d (by simp)
  simp only[val,jD,Nat.pow_succ]
  have : 4294967296*val ds+4294967296≤4294967296*4294967296 ^ ds.length:=by
   have:=Nat.mul_le_mul_left 4294967296 (Nat.succ_le_of_lt h1)
   simpa [Nat.mul_succ] using this
  rw[Nat.mul_comm (4294967296 ^ ds.length)]
  omega
theorem lz(ds:List Nat)(d:Nat):val (ds++[d])=val ds+4294967296 ^ ds.length*d:=by
 simp[oe,val]
theorem dT(ds:List Nat)(k:Nat)(h:k<ds.length):val (ds.take (k+1))=val (ds.take k)+4294967296 ^ k*ds[k]:=by
 rw[jj h,lz,jt,Nat.min_eq_left (Nat.le_of_lt h)]
theorem py(ds:List Nat)(k:Nat):val ds=val (ds.take k)+4294967296 ^ (min k ds.length)*val (ds.drop k):=by
 conv=>lhs;rw[←jX k ds]
 rw[oe,jt]
def tlen(ds:List Nat):Nat→Nat
 | 0=>0
 | n+1=>if ds.getD n 0=0 then tlen ds n else n+1
theorem tlen_pos(ds:List Nat)(k:Nat)(h : 0<k):tlen ds k=if ds.getD (k-1) 0=0 then tlen ds (k-1) else k:=by
 cases k with
 | zero=>omega
 | succ n=>simp[tlen]
theorem qe(ds:List Nat)(k:Nat):tlen ds k≤k:=by
 induction k with
 | zero=>simp[tlen]
 | succ n ih=>simp only[tlen];split <;> omega
theorem iU(ds:List Nat):∀k,k≤ds.length→val (ds.take (tlen ds k))=val (ds.take k)
 | 0,_=>rfl
 | k+1,h=>by
  have hk:k<ds.length:=h
  simp only[tlen]
  split
  ·rename_i hz
   rw[iU ds k (by omega),dT ds k hk]
   have:ds[k]=0:=by simpa [List.getD,hk] using hz
   simp[this]
  ·rfl
def tr(ds:List Nat):List Nat:=ds.take (tlen ds ds.length)
def Top(ds:List Nat):Prop:=∀d,ds.getLast?=some d→d≠0
theorem val_tr(ds:List Nat):val (tr ds)=val ds:=by
 unfold tr;rw[iU ds _ (jo _),jT]
theorem Low.tr{ds:List Nat}(h:Low ds):Low (tr ds):=h.take _
theorem length_tr(ds:List Nat):(tr ds).length=tlen ds ds.length:=by
 unfold tr;rw[jt];exact Nat.min_eq_left (qe _ _)
theorem pw(ds:List Nat):∀k,k≤ds.length→0<tlen ds k→ds.getD (tlen ds k-1) 0≠0
 | 0,_,h=>by simp[tlen]at h
 | k+1,hk,h=>by
  simp only[tlen]at h ⊢
  split
  ·rename_i hz;rw[if_pos hz]at h;exact pw ds k (by omega) h
  ·rename_i hz;simpa using hz
theorem top_tr(ds:List Nat):Top (tr ds):=by
 intro d hd
 by_cases h0:tlen ds ds.length=0
 ·unfold tr at hd;rw[h0]at hd;simp at hd
 ·have h1:=pw ds ds.length (jo _) (by omega)
  have hl:=qe ds ds.length
  unfold tr at hd
  rw[List.getLast?_eq_getElem?,jt,Nat.min_eq_left hl,List.getElem?_take,if_pos (by omega)]at hd
  intro e;subst e
  rw[List.getD,hd]at h1;simp at h1
theorem Top.nil:Top []:=fun d h=>by simp at h
theorem iS{ds:List Nat}(h:Top ds)(hn : 0<ds.length) : 4294967296 ^ (ds.length-1)≤val ds:=by
 have se:ds≠[]:=fun e=>by simp[e]at hn
 obtain⟨l,d,rfl⟩:∃l d,ds=l++[d]:=⟨ds.dropLast,ds.getLast se,(List.dropLast_concat_getLast se).symm⟩
 have hd:d≠0:=h d (by simp)
 rw[lz]
 simp only[jm,jD,jQ,jY,Nat.add_sub_cancel]
 have : 4294967296 ^ l.length*1≤4294967296 ^ l.length*d:=Nat.mul_le_mul_left _ (by omega)
 omega
theorem eQ{ds:List Nat}(h:Top ds):val ds=0↔ds=[]:=by
 constructor
 ·intro hv
  by_cases hn:ds=[]
  ·exact hn
  ·have hl : 0<ds.length:=by
    cases ds with
    | nil=>exact absurd rfl hn
    | cons _ _=>simp
   have:=iS h hl
   have hp : 0<4294967296 ^ (ds.length-1):=Nat.pow_pos (by omega)
   omega
 ·rintro rfl;rfl
theorem iT{a b:List Nat}(ha:Low a)(hb:Top b)(h:a.length<b.length):val a<val b:=by
 have h1:=val_lt ha
 have h2:=iS hb (by omega)
 have h3 : 4294967296 ^ a.length≤4294967296 ^ (b.length-1):=Nat.pow_le_pow_right (by omega) (by omega)
 omega
theorem gz{a b:List Nat}(ha:Low a){i:Nat}(se:i<a.length)(sg:i<b.length)(he:a.drop (i+1)=b.drop (i+1))(hd:a[i]<b[i]):val a<val b:=by
 have h1:=py a (i+1)
 have h2:=py b (i+1)
 rw[Nat.min_eq_left (by omega)]at h1 h2
 rw[dT a i se]at h1
 rw[dT b i sg]at h2
 rw[he]at h1
 have h3:val (a.take i)<4294967296 ^ i:=by
  have:=val_lt (ha.take i);rwa [jt,Nat.min_eq_left (by omega)]at this
 have h4 : 4294967296 ^ i*a[i]+4294967296 ^ i≤4294967296 ^ i*b[i]:=by
  have:=Nat.mul_le_mul_left (4294967296 ^ i) (Nat.succ_le_of_lt hd);simpa [Nat.mul_succ] using this
 omega
def cmpI(a b:Nat):Int:=if a<b then -1 else if b<a then 1 else 0
def mE(a b:Int):Int:=if a<b then -1 else if b<a then 1 else 0
theorem cmpZ_cast(a b:Nat):mE (a:Int) (b:Int)=cmpI a b:=by
 unfold mE cmpI;split <;> split <;> (try split) <;> (try split) <;> first|rfl|omega
theorem pP{a b:Int}(h:a<b):mE a b = -1:=by simp[mE,h]
theorem pO{a b:Int}(h:b<a):mE a b=1:=by
 have:¬a<b:=by omega
 simp[mE,h,this]
theorem cmpZ_eq{a b:Int}(h:a=b):mE a b=0:=by subst h;simp[mE]
theorem pN{a b:Nat}(h:a<b):cmpI a b = -1:=by simp[cmpI,h]
theorem pM{a b:Nat}(h:b<a):cmpI a b=1:=by
 have:¬a<b:=by omega
 simp[cmpI,h,this]
theorem cmpI_eq{a b:Nat}(h:a=b):cmpI a b=0:=by subst h;simp[cmpI]
theorem nE:∀{a b:List Nat},Low a→Low b→Top a→Top b→val a=val b→a=b
 | [],b,_,_,_,hb,h=>by
  have:val b=0:=h.symm
  exact((eQ hb).1 this).symm
 | x::a,[],_,_,ha,_,h=>by
  have:val (x::a)=0:=h
  exact(eQ ha).1 this
 | x::a,y::b,la,lb,ha,hb,h=>by
  have hx:x<4294967296:=la x (by simp)
  have hy:y<4294967296:=lb y (by simp)
  simp only[val]at h
  have sh:x=y:=by omega
  have hv:val a=val b:=by omega
  have se:Top a:=fun d hd=>by
   cases a with
   | nil=>simp at hd
   | cons z a=>exact ha d (by simpa using hd)
  have sg:Top b:=fun d hd=>by
   cases b with
   | nil=>simp at hd
   | cons z b=>exact hb d (by simpa using hd)
  rw[sh,nE (fun d hd=>la d (js _ hd)) (fun d hd=>lb d (js _ hd)) se sg hv]
def digF:Nat→Nat→List Nat
 | 0,_=>[]
 | f+1,n=>if n=0 then [] else n % 4294967296::digF f (n / 4294967296)
def dig(n:Nat):List Nat:=digF n n
theorem fV:∀f n,n≤f→Low (digF f n)∧Top (digF f n)∧val (digF f n)=n
 | 0,n,h=>by
  obtain rfl:n=0:=by omega
  exact⟨Low.nil,Top.nil,rfl⟩
 | f+1,n,h=>by
  by_cases hn:n=0
  ·subst hn;exact⟨by simpa [digF] using Low.nil,by simpa [digF] using Top.nil,rfl⟩
  ·have hq:n / 4294967296≤f:=by omega
   obtain⟨h1,h2,h3⟩:=fV f (n / 4294967296) hq
   simp only[digF,if_neg hn]
   refine⟨Low.cons (Nat.mod_lt _ (by omega)) h1,fun d hd=>?_,by simp only[val,h3];omega⟩
   by_cases hz:digF f (n / 4294967296)=[]
   ·rw[hz]at hd h3
    have se:n / 4294967296=0:=h3.symm
    have sg:d=n % 4294967296:=by simpa using hd.symm
    omega
   ·obtain⟨x,l,hl⟩:=List.exists_cons_of_ne_nil hz
    rw[hl]at hd h2
    exact h2 d (by simpa using hd)
theorem ga(n:Nat):Low (dig n):=(fV n n (jo _)).1
theorem qf(n:Nat):Top (dig n):=(fV n n (jo _)).2.1
theorem dS(n:Nat):val (dig n)=n:=(fV n n (jo _)).2.2
theorem eq_dig{ds:List Nat}(h1:Low ds)(h2:Top ds):ds=dig (val ds):=nE h1 (ga _) h2 (qf _) (dS _).symm
theorem px{ds:List Nat}(h:Low ds):tr ds=dig (val ds):=by
 have:=eq_dig h.tr (top_tr ds);rwa [val_tr]at this
end Go.Proofs.YtplldnnnhgnbjaaGreatDoor.N1
namespace Go.Proofs.YtplldnnnhgnbjaaGreatDoor.N1
open Go.RowKit
def Ext(w w':World):Prop:=Below w.heap.size w w'
theorem Ext.refl(w:World):Ext w w:=Below.refl _ _
theorem Ext.size{w w':World}(h:Ext w w'):w.heap.size≤w'.heap.size:=Below.size h
theorem Ext.drewN{a w:World}(h:Ext a w)(n:Nat):Ext a (w.drewN n):=⟨h.os,h.tape,h.output,h.size,h.block⟩
theorem Ext.alloc{a w:World}(h:Ext a w)(o:Obj):Ext a (w.alloc o):=Below.alloc h h.size o
theorem Ext.setCell{a w:World}(h:Ext a w){p:Addr}(hp:a.heap.size≤p.block)(u:Value):Ext a (w.setCell p u):=Below.setCell h hp u
def Qt(w w':World):Prop:=∃n,w'=w.drewN n
theorem Qt.refl(w:World):Qt w w:=⟨0,rfl⟩
theorem Qt.drewN{a w:World}(h:Qt a w)(n:Nat):Qt a (w.drewN n):=by obtain⟨m,rfl⟩:=h;exact⟨_,World.drewN_drewN _ _ _⟩
theorem Qt.ext{a w:World}(h:Qt a w):Ext a w:=by obtain⟨m,rfl⟩:=h;exact(Ext.refl a).drewN m
theorem eh{w:World}{p:Addr}{v:Value}(h:w.cell? p=some v):p.block<w.heap.size:=by
 rcases jz p.block w.heap.size with sg|se
 ·exact sg
 ·simp[World.cell?,zI se]at h
theorem Ext.cell{w w':World}(h:Ext w w'){p:Addr}{v:Value}(hc:w.cell? p=some v):w'.cell? p=some v :=
 (Below.cell h (eh hc)).trans hc
def Sl(w:World)(v:Value)(xs:List Value):Prop :=
 ∃A cap,v=.slice A xs.length cap∧xs.length≤cap∧(0<xs.length→∃ad,A=some ad∧∀i (h:i<xs.length),w.cell? (ad.add i)=some xs[i])
theorem Sl.ext{w w':World}{v:Value}{xs:List Value}(h:Sl w v xs)(he:Ext w w'):Sl w' v xs:=by
 obtain⟨A,cap,rfl,hc,hx⟩:=h
 refine⟨A,cap,rfl,hc,fun h0=>?_⟩
 obtain⟨ad,rfl,hy⟩:=hx h0
 exact⟨ad,rfl,fun i hi=>he.cell (hy i hi)⟩
abbrev U32 (d:Nat):Value:=.int .u32 (d:Int)
def Dg(w:World)(v:Value)(ds:List Nat):Prop:=Low ds∧ds.length≤35184372088832∧Sl w v (ds.map U32)
theorem Dg.ext{w w':World}{v:Value}{ds:List Nat}(h:Dg w v ds)(he:Ext w w'):Dg w' v ds:=⟨h.1,h.2.1,h.2.2.ext he⟩
theorem Dg.parts{w:World}{v:Value}{ds:List Nat}(h:Dg w v ds) :
  ∃A n cap,v=.slice A n cap∧n=ds.length∧n≤cap∧n≤35184372088832∧Low ds∧∀i,i<n→∃ad,A=some ad∧w.cell? (ad.add i)=some (.int .u32 ((ds.getD i 0:Nat):Int)):=by
 obtain⟨hl,hn,A,cap,rfl,hc,hx⟩:=h
 simp only[jk]at hc hx ⊢
 refine⟨A,ds.length,cap,rfl,rfl,hc,hn,hl,fun i hi=>?_⟩
 obtain⟨ad,rfl,hy⟩:=hx (by omega)
 refine⟨ad,rfl,?_⟩
 rw[hy i hi];simp[List.getD,hi]
theorem Dg.of_parts{w:World}{A:Option Addr}{n cap:Nat}{ds:List Nat}(hn:n=ds.length)(hc:n≤cap)(hb:n≤35184372088832)(hl:Low ds)(hx:∀i,i<n→∃ad,A=some ad∧w.cell? (ad.add i)=some (.int .u32 ((ds.getD i 0:Nat):Int))):Dg w (.slice A n cap) ds:=by
 subst hn
 refine⟨hl,hb,A,cap,by simp,by simpa using hc,fun h0=>?_⟩
 simp only[jk]at h0 ⊢
 obtain⟨ad,rfl,_⟩:=hx 0 h0
 refine⟨ad,rfl,fun i hi=>?_⟩
 obtain⟨se,e,h'⟩:=hx i hi
 injection e with e;subst e
 rw[h'];simp[List.getD,hi]
def Nv(w:World)(v:Value)(n:Nat):Prop:=∃ds,Dg w v ds∧val ds=n
def Nz(w:World)(v:Value)(n:Nat):Prop:=Dg w v (dig n)
theorem Nz.nv{w:World}{v:Value}{n:Nat}(h:Nz w v n):Nv w v n:=⟨_,h,dS n⟩
theorem Nz.ext{w w':World}{v:Value}{n:Nat}(h:Nz w v n)(he:Ext w w'):Nz w' v n:=Dg.ext h he
theorem Nv.ext{w w':World}{v:Value}{n:Nat}(h:Nv w v n)(he:Ext w w'):Nv w' v n:=let ⟨ds,h1,h2⟩:=h;⟨ds,h1.ext he,h2⟩
theorem Nz.nil(w:World):Nz w (.slice none 0 0) 0:=by
 refine Dg.of_parts rfl (jo _) (by omega) (ga 0) (fun i hi=>by omega)
def Bk(w:World)(g:Nat)(t:TypeId)(xs:List Value):Prop:=w.heap[g]?=some (.cells xs.toArray t (0,0))
theorem Bk.cell{w:World}{g:Nat}{t:TypeId}{xs:List Value}(h:Bk w g t xs){i:Nat}(hi:i<xs.length):w.cell? ⟨g,i,none⟩=some xs[i]:=by
 unfold Bk at h;simp[World.cell?,h,hi]
theorem Bk.free{w:World}{g:Nat}{t:TypeId}{xs:List Value}(h:Bk w g t xs)(i:Nat):w.frozen? ⟨g,i,none⟩=false:=by
 unfold Bk at h;simp[World.frozen?,h]
theorem Bk.set{w:World}{g:Nat}{t:TypeId}{xs:List Value}(h:Bk w g t xs)(i:Nat)(u:Value):Bk (w.setCell ⟨g,i,none⟩ u) g t (xs.set i u):=by
 unfold Bk at h ⊢;simp[World.setCell,zM,h]
theorem Bk.new(w:World)(t:TypeId)(xs:List Value):Bk (w.alloc (.cells xs.toArray t)) w.heap.size t xs:=by
 show (w.heap.push _)[w.heap.size]?=_
 simp
theorem ig{P:Program}(t e:TypeId)(z:Value)(b:Nat)(ht:P.underlying t=some (.slice e))(hi:(P.info? e).map (fun i=>(i.zero,i.size,i.bytes))=some (some z,1,b))(hz:z.cells=#[z])(n:Nat)(hb:b*n≤281474976710656)(hn:n≤281474976710656)(w:World) :
  (Instr.makeSlice t (.int .i64 (n:Int)) (.int .i64 (n:Int))).run P w=.ok (.slice (some ⟨w.heap.size,0,none⟩) n n) (w.alloc (.cells (List.replicate n z).toArray e)):=by
 obtain⟨i,hi,h1,h2,h3⟩:=info_parts hi
 have hr:=run_make (P:=P) w t e i z ht hi h1 .i64 .i64 n n (by omega) (by omega) (by rw[h3,←Int.natCast_mul];exact Int.ofNat_le.2 hb) (by omega)
 rw[hr,jL,h2,hz,Nat.mul_one]
 have:madeCells #[z] n=(List.replicate n z).toArray:=by
  unfold madeCells
  apply Array.ext
  ·simp
  ·intro j h1 h2
   simp[Nat.mod_one]
 rw[this]
theorem Bk.dg{w:World}{g:Nat}{t:TypeId}{ds:List Nat}(h:Bk w g t (ds.map U32))(hl:Low ds)(hb:ds.length≤35184372088832){n c:Nat}(hn:n=ds.length)(hc:n≤c):Dg w (.slice (some ⟨g,0,none⟩) n c) ds :=
 Dg.of_parts hn hc (by omega) hl fun i hi=>⟨_,rfl,by
  subst hn
  have se:i<(ds.map U32).length:=by simpa using hi
  have:=h.cell se
  have e:(⟨g,0,none⟩:Addr).add i=⟨g,i,none⟩:=by unfold Addr.add;split <;> simp_all
  rw[e,this];simp[List.getD,hi]⟩
end Go.Proofs.YtplldnnnhgnbjaaGreatDoor.N1
namespace Go.Proofs.YtplldnnnhgnbjaaGreatDoor.N1
open Go.RowKit
def Ret(S:Value→World→Prop)(w:World)(e:Ending)(w':World):Prop:=∃v,e=.returned v∧Ext w w'∧S v w'
theorem Ret.mk{S:Value→World→Prop}{w w':World}{v:Value}(he:Ext w w')(hs:S v w'):Ret S w (.returned v) w':=⟨v,rfl,he,hs⟩
theorem trim_parts(A:Option Addr)(n cap:Nat)(ds:List Nat)(w:World)(sh:n≤cap)(si:n≤35184372088832)(hx:∀i,i<n→∃ad,A=some ad∧w.cell? (ad.add i)=some (.int .u32 ((ds.getD i 0:Nat):Int))) :
  Calls Tryz.prog 76 #[.slice A n cap] w fun e w'=>e=.returned (.slice A (tlen ds n) (tlen ds n))∧w=w':=by
 have HC:=zN hx;clear hx
 go_enter Tryz.func76,Tryz.ntmps76
 go_wp2
 go_loop [3] (fun t=>∃k:Nat,k≤n∧t=.int .i64 k∧tlen ds k=tlen ds n) (fun t=>(intOf t).toNat)
 case atStart=>exact⟨n,jo _,rfl,rfl⟩
 case round =>
  obtain⟨k,hk,rfl,ht⟩:=hrel
  have HT:=zN ht
  clear ht
  by_cases h0 : 0<k
  ·obtain⟨ad,rfl,sg⟩:=HC.out (k-1) (by omega)
   have se:=zN (tlen_pos ds k h0)
   generalize hD:ds.getD (k-1) 0=D at *
   have HD:=zN hD;clear hD
   by_cases hz:D=0
   ·subst hz
    go_wp2
    all_goals go_round
    case rel=>exact⟨k-1,by omega,by go_num,by have:=se.out;have:=HT.out;simp_all⟩
    case measure=>simp[intOf];omega
   ·have sj:((D:Int) == 0)=false:=by simp[hz]
    go_wp2
    go_ret
    have:=se.out
    rw[if_neg hz]at this
    simp[←HT.out,this]
  ·have:k=0:=by omega
   subst this
   go_wp2
   go_ret
   have h2:tlen ds n=0:=HT.out.symm
   simp[h2]
theorem qg{w:World}{v:Value}{ds:List Nat}(h:Dg w v ds) :
  Calls Tryz.prog 76 #[v] w fun e w'=>∃A,e=.returned (.slice A (dig (val ds)).length (dig (val ds)).length)∧Dg w (.slice A (dig (val ds)).length (dig (val ds)).length) (dig (val ds))∧w=w':=by
 obtain⟨A,n,cap,rfl,hn,hc,hb,hl,hx⟩:=h.parts
 refine(trim_parts A n cap ds w hc hb hx).mono ?_
 rintro e w' ⟨rfl,rfl⟩
 subst hn
 have ht:(dig (val ds)).length=tlen ds ds.length:=by rw[←px hl,length_tr]
 have sg:=qe ds ds.length
 refine⟨A,by rw[ht],Dg.of_parts rfl (jo _) (by rw[ht];omega) (ga _) fun i hi=>?_,rfl⟩
 obtain⟨ad,rfl,se⟩:=hx i (by omega)
 refine⟨ad,rfl,?_⟩
 rw[se,←px hl]
 unfold tr
 have h1:i<tlen ds ds.length:=by omega
 simp[List.getD,h1]
theorem mP{w:World}{v:Value}{n:Nat}(h:Nv w v n) :
  Calls Tryz.prog 76 #[v] w fun e w'=>∃A,e=.returned (.slice A (dig n).length (dig n).length)∧Nz w (.slice A (dig n).length (dig n).length) n∧w=w':=by
 obtain⟨ds,hd,rfl⟩:=h
 exact qg hd
theorem qB(a b:Int)(w:World) :
  Calls Tryz.prog 77 #[.int .i64 a,.int .i64 b] w fun e w'=>e=.returned (.int .i64 (mE a b))∧w=w':=by
 by_cases h:a<b
 ·go_enter Tryz.func77,Tryz.ntmps77
  go_wp2
  go_ret
  rw[pP h];exact⟨rfl,rfl⟩
 ·by_cases h2:b<a
  ·go_enter Tryz.func77,Tryz.ntmps77
   go_wp2
   go_ret
   rw[pO h2];exact⟨rfl,rfl⟩
  ·go_enter Tryz.func77,Tryz.ntmps77
   go_wp2
   go_ret
   rw[cmpZ_eq (by omega)];exact⟨rfl,rfl⟩
theorem qC(a b:Int)(w:World) :
  Calls Tryz.prog 78 #[.int .u32 a,.int .u32 b] w fun e w'=>e=.returned (.int .i64 (mE a b))∧w=w':=by
 by_cases h:a<b
 ·go_enter Tryz.func78,Tryz.ntmps78
  go_wp2
  go_ret
  rw[pP h];exact⟨rfl,rfl⟩
 ·by_cases h2:b<a
  ·go_enter Tryz.func78,Tryz.ntmps78
   go_wp2
   go_ret
   rw[pO h2];exact⟨rfl,rfl⟩
  ·go_enter Tryz.func78,Tryz.ntmps78
   go_wp2
   go_ret
   rw[cmpZ_eq (by omega)];exact⟨rfl,rfl⟩
theorem cmpI_top{x y:List Nat}(hx:Low x)(hy:Low y)(tx:Top x)(ty:Top y)(h:¬x.length=y.length) :
  mE (x.length:Int) y.length=cmpI (val x) (val y):=by
 rcases jz x.length y.length with hl|hl
 ·rw[pP (by omega),pN (iT hx ty hl)]
 ·rw[pO (by omega),pM (iT hy tx (by omega))]
theorem cmpI_digit{x y:List Nat}(hx:Low x)(hy:Low y){i:Nat}(se:i<x.length)(sg:i<y.length)(he:x.drop (i+1)=y.drop (i+1))(hd:¬x[i]=y[i]) :
  mE (x[i]:Int) (y[i]:Int)=cmpI (val x) (val y):=by
 rw[cmpZ_cast]
 rcases jz x[i] y[i] with hl|hl
 ·rw[pN hl,pN (gz hx se sg he hl)]
 ·rw[pM (by omega),pM (gz hy sg se he.symm (by omega))]
theorem read_again{P:Program}{f:FuncId}{se:Array Value}{w:World}{a n:Nat}{v:Value}(h:Calls P f se (w.drewN (a+n)) fun e w'=>e=.returned v∧w.drewN (a+n)=w') :
  Calls P f se (w.drewN (a+n)) fun e sg=>e=.returned v∧∃m,sg=w.drewN (a+m):=by
 refine h.mono ?_
 rintro e w' ⟨rfl,rfl⟩
 exact⟨rfl,n,rfl⟩
theorem cmp_nv{w:World}{u v:Value}{a b:Nat}(ha:Nv w u a)(hb:Nv w v b) :
  Calls Tryz.prog 28 #[u,v] w fun e w'=>e=.returned (.int .i64 (cmpI a b))∧Qt w w':=by
 go_enter Tryz.func28,Tryz.ntmps28
 go_wp2_with fail
 refine(mP ha).mono ?_
 rintro e w' ⟨A,rfl,hA,rfl⟩
 go_wp2_with fail
 refine(mP hb).mono ?_
 rintro e w' ⟨B,rfl,hB,rfl⟩
 clear ha hb
 obtain⟨A,n,c,eA,hn,-,sB,-,hA⟩:=Dg.parts hA
 injection eA with e1 e2 e3
 subst e1;subst e3
 clear e2
 obtain⟨B,m,c,eB,hm,-,sA,-,hB⟩:=Dg.parts hB
 injection eB with e1 e2 e3
 subst e1;subst e3
 have HN:=zN hn;have HM:=zN hm
 rw[←hn,←hm]
 clear hn hm e2
 have HA:=zN hA;have HB:=zN hB;clear hA hB
 by_cases hnm:n=m
 ·subst hnm
  have sg:Hid (n=(dig a).length∧n=(dig b).length):=⟨HN.out,HM.out⟩
  go_wp2_with fail
  go_loopw [5] (fun t wr=>∃k j:Nat,k≤n∧t=.int .i64 ((k:Int)-1)∧(dig a).drop k=(dig b).drop k∧wr=w.drewN j) (fun t _=>(intOf t+1).toNat)
  case atStart=>exact⟨n,0,jo _,rfl,by rw[zb (by have:=HN.out;omega),zb (by have:=HM.out;omega)],rfl⟩
  case round =>
   obtain⟨k,j,hk,rfl,se,rfl⟩:=hrel
   have HD:=zN se;clear se
   by_cases h0 : 0<k
   ·obtain⟨ad,rfl,sr⟩:=HA.out (k-1) (by omega)
    obtain⟨bd,rfl,su⟩:=HB.out (k-1) (by omega)
    have sw:(0:Int)≤(k:Int)-1:=by omega
    have sx:(k:Int)-1<(n:Int):=by omega
    have sy:((k:Int)-1).toNat=k-1:=by omega
    generalize hx:(dig a).getD (k-1) 0=x at *
    generalize hy:(dig b).getD (k-1) 0=y at *
    have HX:=zN hx;have HY:=zN hy;clear hx hy
    by_cases hxy:x=y
    ·subst hxy
     go_wp2_with fail
     go_quiet (fail)
     go_wp2_with fail
     go_roundw
     case rel=>exact⟨k-1,j+nq,by omega,by go_num,by
      have e1:k-1<(dig a).length:=by have:=HN.out;omega
      have e2:k-1<(dig b).length:=by have:=HM.out;omega
      rw[jV e1,jV e2,show k-1+1=k by omega,HD.out]
      have h1:=HX.out;have h2:=HY.out
      simp[List.getD,e1]at h1;simp[List.getD,e2]at h2
      rw[h1,h2],by simp⟩
     case measure=>simp[intOf];omega
    ·have sp:((x:Int) != (y:Int))=true:=by simp;omega
     have sq:(x != y)=true:=by simp;omega
     go_wp2_with fail
     go_quiet (fail)
     go_wp2_with fail
     go_quiet ((go_at_call 78;exact read_again (qC _ _ _)))
     go_wp2_with fail
     go_ret
     refine⟨?_,(((Qt.refl w).drewN _).drewN _).drewN _⟩
     have e1:k-1<(dig a).length:=by have:=HN.out;omega
     have e2:k-1<(dig b).length:=by have:=HM.out;omega
     have h1:=HX.out;have h2:=HY.out
     simp[List.getD,e1]at h1;simp[List.getD,e2]at h2
     subst h1;subst h2
     rw[cmpI_digit (ga a) (ga b) e1 e2 (by rw[show k-1+1=k by omega];exact HD.out) hxy,dS,dS];rfl
   ·have hi:¬(1:Int)≤(k:Int):=by omega
    go_wp2_with fail
    go_ret
    refine⟨?_,(Qt.refl w).drewN _⟩
    obtain rfl:k=0:=by omega
    have:dig a=dig b:=HD.out
    have e:a=b:=by rw[←dS a,←dS b,this]
    rw[cmpI_eq e];rfl
 ·have sC:(n != m)=true:=by simp;omega
  have sh:(n == m)=false:=by simp;omega
  have si:((n:Int) == (m:Int))=false:=by simp;omega
  have sj:((n:Int) != (m:Int))=true:=by simp;omega
  go_wp2_with fail
  refine(qB _ _ _).mono ?_
  rintro e w' ⟨rfl,rfl⟩
  go_wp2_with fail
  go_ret
  refine⟨?_,Qt.refl _⟩
  have h1:=HN.out;have h2:=HM.out
  subst h1;subst h2
  rw[cmpI_top (ga a) (ga b) (qf a) (qf b) hnm,dS,dS];rfl
end Go.Proofs.YtplldnnnhgnbjaaGreatDoor.N1
namespace Go.Proofs.YtplldnnnhgnbjaaGreatDoor.N1
open Go.RowKit
theorem info_u32:(Tryz.prog.info? 165).map (fun i=>(i.zero,i.size,i.bytes))=some (some (.int .u32 0),1,4):=by kernel_rfl
theorem val_two(n:Nat):val [n % 4294967296,n / 4294967296]=n:=by simp only[val];omega
theorem low_two{n:Nat}(h:n<18446744073709551616):Low [n % 4294967296,n / 4294967296]:=Low.cons (by omega) (Low.cons (by omega) Low.nil)
theorem of_nz(n:Nat)(hn:n<18446744073709551616)(w:World) :
  Calls Tryz.prog 29 #[.int .u64 (n:Int)] w (Ret (fun v w'=>Nz w' v n) w):=by
 have hd:Dg (w.alloc (Obj.cells #[Value.int IntKind.u32 (↑n % 4294967296),Value.int IntKind.u32 (↑n / 4294967296)] 165)) (Value.slice (some { block:=w.heap.size,off:=0 }) 2 2) [n % 4294967296,n / 4294967296]:=by
  have hb:=Bk.new w 165 ([n % 4294967296,n / 4294967296].map U32)
  exact hb.dg (low_two hn) (by simp) rfl (jo _)
 have HD:=zN hd;clear hd
 go_enter Tryz.func29,Tryz.ntmps29
 go_wp2_with fail
 refine(qg HD.out).mono ?_
 rintro e w' ⟨A,rfl,hA,rfl⟩
 rw[val_two]at hA
 rw[val_two]
 go_wp2_with fail
 go_ret
 exact Ret.mk ((Ext.refl w).alloc _) hA
theorem qt(ds:List Nat)(cy x y s a b k:Nat)(hk:ds.length=k)(h:val ds+4294967296 ^ k*cy=a+b)(hs:s=cy+x+y) :
  val (ds++[s % 4294967296])+4294967296 ^ (k+1)*(s / 4294967296)=(a+4294967296 ^ k*x)+(b+4294967296 ^ k*y):=by
 rw[lz,hk,Nat.pow_succ,Nat.mul_assoc,Nat.add_assoc,←Nat.mul_add,show s % 4294967296+4294967296*(s / 4294967296)=s from Nat.mod_add_div _ _,hs,Nat.mul_add,Nat.mul_add]
 omega
theorem set_snoc{α : Type}(l:List α)(z : α)(m:Nat)(x : α):(l++List.replicate (m+1) z).set l.length x=(l++[x])++List.replicate m z:=by
 rw[List.set_append_right _ _ (jo _),zm,List.replicate_succ,jh,zh];rfl
theorem Bk.snoc{w:World}{g:Nat}{t:TypeId}{ds:List Nat}{k n s:Nat}(h:Bk w g t (ds.map U32++List.replicate (n-k) (.int .u32 0)))(hk:ds.length=k)(hn:k<n){x:Int}(hx:x=(s:Int)) :
  Bk (w.setCell ⟨g,k,none⟩ (.int .u32 x)) g t ((ds++[s]).map U32++List.replicate (n-(k+1)) (.int .u32 0)):=by
 subst hk;subst hx
 have h1:=h.set ds.length (.int .u32 (s:Int))
 rw[show n-ds.length=n-(ds.length+1)+1 by omega]at h1
 have h2:=set_snoc (ds.map U32) (Value.int .u32 0) (n-(ds.length+1)) (.int .u32 (s:Int))
 rw[jk]at h2
 rw[h2]at h1
 simpa [U32] using h1
theorem fq(ds:List Nat)(k d:Nat)(hk:k<ds.length)(hd:ds.getD k 0=d):val (ds.take (k+1))=val (ds.take k)+4294967296 ^ k*d:=by
 rw[dT ds k hk];simp[List.getD,hk]at hd;rw[hd]
theorem oz(ds:List Nat)(k:Nat)(hk:ds.length≤k):val (ds.take (k+1))=val (ds.take k)+4294967296 ^ k*0:=by
 rw[jp hk,jp (by omega)];simp
theorem add_nv{w:World}{u v:Value}{a b:Nat}(ha:Nv w u a)(hb:Nv w v b)(sD:(dig a).length≤1000000)(sE:(dig b).length≤1000000) :
  Calls Tryz.prog 27 #[u,v] w (Ret (fun x w'=>Nz w' x (a+b)) w):=by
 go_enter Tryz.func27,Tryz.ntmps27
 go_wp2_with fail
 refine(mP ha).mono ?_
 rintro e w' ⟨A,rfl,hA,rfl⟩
 go_wp2_with fail
 refine(mP hb).mono ?_
 rintro e w' ⟨B,rfl,hB,rfl⟩
 clear ha hb
 go_upto_if 16 with fail
 go_cut [0,1] (fun p q wx=>∃X Y x y,p=.slice X (dig x).length (dig x).length∧q=.slice Y (dig y).length (dig y).length∧Nz w p x∧Nz w q y∧x+y=a+b∧(dig y).length≤(dig x).length∧(dig x).length≤1000000∧w=wx)
 case first =>
  by_cases hlt:(dig a).length<(dig b).length
  ·go_wp2_with fail
   go_meet
   exact⟨B,A,b,a,rfl,rfl,hB,hA,by omega,by omega,sE,rfl⟩
  ·go_wp2_with fail
   go_meet
   exact⟨A,B,a,b,rfl,rfl,hA,hB,rfl,by omega,sD,rfl⟩
 case rest =>
  obtain⟨X,Y,x,y,rfl,rfl,hX,hY,sp,sF,sR,rfl⟩:=hcut
  clear hA hB sD sE A B
  have HS:=zN sp;clear sp
  obtain⟨X,n,c,eX,hn,-,sV,sG,hX⟩:=Dg.parts hX
  injection eX with e1 e2 e3
  subst e1;subst e3;clear e2
  obtain⟨Y,m,c,eY,hm,-,sU,sH,hY⟩:=Dg.parts hY
  injection eY with e1 e2 e3
  subst e1;subst e3;clear e2
  rw[←hn]at sF sR ⊢
  rw[←hm]at sF ⊢
  have HN:=zN hn;have HM:=zN hm;clear hn hm
  have HX:=zN hX;have HY:=zN hY;clear hX hY
  have sK:=zN sG;have sL:=zN sH;clear sG sH
  have sQ:=fun W=>ig (P:=Tryz.prog) 76 165 (.int .u32 0) 4 Tryz.underlying76 info_u32 rfl (n+1) (by omega) (by omega) W
  rw[show ((n+1:Nat):Int)=(n:Int)+1 from rfl]at sQ
  go_wp2_with fail
  go_loopw [6,25] (fun t i wr=>∃(k cy:Nat) (ds:List Nat),k≤n∧i=.int .i64 k∧t=.int .u64 cy∧cy≤1∧ds.length=k∧Low ds∧Bk wr w.heap.size 165 (ds.map U32++List.replicate (n+1-k) (.int .u32 0))∧val ds+4294967296 ^ k*cy=val ((dig x).take k)+val ((dig y).take k)∧Ext w wr)
   (fun _ i _=>n-(intOf i).toNat)
  case atStart =>
   refine⟨0,0,[],jn _,rfl,rfl,jn _,rfl,Low.nil,Bk.new w _ _,by simp[val],(Ext.refl w).alloc _⟩
  case round =>
   obtain⟨k,cy,ds,hk,rfl,rfl,sA,sC,su,sh,sq,sg⟩:=hrel
   have HV:=zN sq;clear sq
   have se:=zN sC;clear sC
   by_cases hlt:k<n
   ·obtain⟨ax,rfl,sN⟩:=HX.out k hlt
    have sO:=sg.cell sN
    have si:=sh.cell (i:=k) (by simp;have:=se.out;omega)
    have sj:=sh.free k
    have sS:=(sK.out).getD k
    generalize hX1:(dig x).getD k 0=dx at *
    have sx:=zN hX1;clear hX1
    have sr:=zN sh;clear sh
    by_cases hltm:k<m
    ·obtain⟨ay,rfl,sA⟩:=HY.out k hltm
     have sP:=sg.cell sA
     have sT:=(sL.out).getD k
     generalize hY1:(dig y).getD k 0=dy at *
     have sM:=zN hY1;clear hY1
     go_wp2_with fail
     go_roundw
     case rel =>
      refine⟨k+1,(cy+dx+dy) / 4294967296,ds++[(cy+dx+dy) % 4294967296],by omega,by go_num,by go_num,by omega,by simp[se.out],su.append (Low.cons (by omega) Low.nil),sr.out.snoc se.out (by omega) (by go_num),?_,sg.setCell (jo _) _⟩
      rw[qt ds cy dx dy _ _ _ k se.out HV.out rfl,fq (dig x) k dx (by have:=HN.out;omega) sx.out,fq (dig y) k dy (by have:=HM.out;omega) sM.out]
     case measure=>simp[intOf];omega
    ·go_wp2_with fail
     go_roundw
     case rel =>
      refine⟨k+1,(cy+dx+0) / 4294967296,ds++[(cy+dx+0) % 4294967296],by omega,by go_num,by go_num,by omega,by simp[se.out],su.append (Low.cons (by omega) Low.nil),sr.out.snoc se.out (by omega) (by go_num),?_,sg.setCell (jo _) _⟩
      rw[qt ds cy dx 0 _ _ _ k se.out HV.out rfl,fq (dig x) k dx (by have:=HN.out;omega) sx.out,oz (dig y) k (by have:=HM.out;omega)]
     case measure=>simp[intOf];omega
   ·have:k=n:=by omega
    subst this
    have si:=sh.cell (i:=k) (by simp;have:=se.out;omega)
    have sj:=sh.free k
    have sr:=zN sh;clear sh
    have sy:Bk (wr.setCell ⟨w.heap.size,k,none⟩ (.int .u32 (cy:Int))) w.heap.size 165 ((ds++[cy]).map U32):=by
     have:=sr.out.snoc (s:=cy) se.out (by omega) rfl
     simpa using this
    have sB:=sy.dg (n:=k+1) (c:=k+1) (su.append (Low.cons (by omega) Low.nil)) (by simp;have:=se.out;omega) (by simp[se.out]) (jo _)
    have sI:val (ds++[cy])=a+b:=by
     rw[lz,se.out,HV.out,jp (by have:=HN.out;omega),jp (by have:=HM.out;omega),dS,dS];exact HS.out
    have sJ:=zN sB;have sw:=zN sI;clear sB sI sy
    go_wp2_with fail
    refine(qg sJ.out).mono ?_
    rintro e w' ⟨A,rfl,hA,rfl⟩
    rw[sw.out]at hA
    rw[sw.out]
    go_wp2_with fail
    go_ret
    exact Ret.mk (sg.setCell (jo _) _) hA
end Go.Proofs.YtplldnnnhgnbjaaGreatDoor.N1
namespace Go.Proofs
open Go.Shelf
def Tryz.lays125_ren:Go.Shelf.Ren:=⟨fun|125=>123|128=>196|129=>197|n=>n,fun|46=>166|3=>3|51=>165|53=>87|4=>4|5=>5|9=>9|n=>n,fun|n=>n⟩
theorem Tryz.lays125:Go.Proofs.Lays.n125 Tryz.prog Tryz.lays125_ren:={
 mixed:=by kernel_rfl
 f125:=Tryz.func123.trans (congrArg some (by kernel_rfl))
 f128:=Tryz.func196.trans (congrArg some (by kernel_rfl))
 f129:=Tryz.func197.trans (congrArg some (by kernel_rfl))
 t3:=Tryz.underlying3
 a3:=Tryz.isAgg3
 z3:=Tryz.sizeOf3
 v3:=Tryz.zeroValue3
 t4:=Tryz.underlying4
 a4:=Tryz.isAgg4
 z4:=Tryz.sizeOf4
 v4:=Tryz.zeroValue4
 t5:=Tryz.underlying5
 a5:=Tryz.isAgg5
 z5:=Tryz.sizeOf5
 v5:=Tryz.zeroValue5
 t9:=Tryz.underlying9
 a9:=Tryz.isAgg9
 z9:=Tryz.sizeOf9
 v9:=Tryz.zeroValue9
 t46:=Tryz.underlying166
 a46:=Tryz.isAgg166
 z46:=Tryz.sizeOf166
 v46:=Tryz.zeroValue166
 t51:=Tryz.underlying165
 a51:=Tryz.isAgg165
 z51:=Tryz.sizeOf165
 v51:=Tryz.zeroValue165
 t53:=Tryz.underlying87
 a53:=Tryz.isAgg87
 z53:=Tryz.sizeOf87
 v53:=Tryz.zeroValue87 }
theorem Tryz.bits_Len(x:Int)(w:World)(h0 : 0≤x)(h1:x≤18446744073709551615) :
  Calls Tryz.prog 123 #[.int .u64 x] w fun e w'=>e=.returned (.int .i64 (Lib.bitLen x.toNat))∧w'=w:=Any.bits_Len Tryz.lays125 x w h0 h1
def Tryz.lays213_ren:Go.Shelf.Ren:=⟨fun|213=>247|265=>276|n=>n,fun|9=>9|3=>3|n=>n,fun|n=>n⟩
def Tryz.lays106_ren:Go.Shelf.Ren:=⟨fun|106=>199|213=>247|265=>276|n=>n,fun|9=>9|3=>3|n=>n,fun|n=>n⟩
theorem Tryz.lays106:Go.Proofs.Lays.n106 Tryz.prog Tryz.lays106_ren:={
 mixed:=by kernel_rfl
 f106:=Tryz.func199.trans (congrArg some (by kernel_rfl))
 f213:=Tryz.func247.trans (congrArg some (by kernel_rfl))
 f265:=Tryz.func276.trans (congrArg some (by kernel_rfl))
 t3:=Tryz.underlying3
 a3:=Tryz.isAgg3
 z3:=Tryz.sizeOf3
 v3:=Tryz.zeroValue3
 t9:=Tryz.underlying9
 a9:=Tryz.isAgg9
 z9:=Tryz.sizeOf9
 v9:=Tryz.zeroValue9 }
open Go.RowKit in
theorem Tryz.strings_Compare(a b:ByteArray)(w:World) :
  Calls Tryz.prog 199 #[.string a,.string b] w fun e w'=>e=.returned (.int .i64 (Lib.compareBytes a.data.toList b.data.toList))∧w'=w:=Any.strings_Compare Tryz.lays106 a b w
def Tryz.lays215_ren:Go.Shelf.Ren:=⟨fun|215=>154|n=>n,fun|3=>3|4=>4|n=>n,fun|n=>n⟩
def Tryz.lays122_ren:Go.Shelf.Ren:=⟨fun|122=>77|215=>154|n=>n,fun|3=>3|4=>4|n=>n,fun|n=>n⟩
theorem Tryz.lays122:Go.Proofs.Lays.n122 Tryz.prog Tryz.lays122_ren:={
 mixed:=by kernel_rfl
 f122:=Tryz.func77.trans (congrArg some (by kernel_rfl))
 f215:=Tryz.func154.trans (congrArg some (by kernel_rfl))
 t3:=Tryz.underlying3
 a3:=Tryz.isAgg3
 z3:=Tryz.sizeOf3
 v3:=Tryz.zeroValue3
 t4:=Tryz.underlying4
 a4:=Tryz.isAgg4
 z4:=Tryz.sizeOf4
 v4:=Tryz.zeroValue4 }
open Go.RowKit in
theorem Tryz.cmp_Compare_int(x y:Int)(w:World) :
  Calls Tryz.prog 77 #[.int .i64 x,.int .i64 y] w fun e w'=>e=.returned (.int .i64 (Lib.compareInt x y))∧w'=w:=Any.cmp_Compare_int Tryz.lays122 x y w
def Tryz.laysM246_ren:Go.Shelf.Ren:=⟨fun|246=>268|283=>271|284=>272|285=>273|286=>274|129=>197|317=>296|318=>297|319=>298|320=>299|337=>305|338=>306|n=>n,fun|2=>2|3=>3|9=>9|4=>4|171=>369|0=>0|53=>87|37=>230|5=>5|173=>371|212=>390|51=>165|20=>20|213=>391|46=>166|232=>395|233=>396|n=>n,fun|17=>1|18=>2|19=>3|n=>n⟩
def Tryz.laysM316_ren:Go.Shelf.Ren:=⟨fun|316=>214|n=>n,fun|9=>9|3=>3|4=>4|37=>230|0=>0|127=>355|5=>5|n=>n,fun|n=>n⟩
theorem Tryz.laysM316:Go.Proofs.LaysM.n316 Tryz.prog Tryz.laysM316_ren:={
 mixed:=by kernel_rfl
 f316:=Tryz.func214.trans (congrArg some (by kernel_rfl))
 t0:=Tryz.underlying0
 a0:=Tryz.isAgg0
 z0:=Tryz.sizeOf0
 v0:=Tryz.zeroValue0
 t3:=Tryz.underlying3
 a3:=Tryz.isAgg3
 z3:=Tryz.sizeOf3
 v3:=Tryz.zeroValue3
 t4:=Tryz.underlying4
 a4:=Tryz.isAgg4
 z4:=Tryz.sizeOf4
 v4:=Tryz.zeroValue4
 t9:=Tryz.underlying9
 a9:=Tryz.isAgg9
 z9:=Tryz.sizeOf9
 v9:=Tryz.zeroValue9
 t37:=Tryz.underlying230
 a37:=Tryz.isAgg230
 z37:=Tryz.sizeOf230
 v37:=Tryz.zeroValue230
 t127:=Tryz.underlying355
 a127:=Tryz.isAgg355
 z127:=Tryz.sizeOf355
 v127:=Tryz.zeroValue355
 t5:=Tryz.underlying5
 a5:=Tryz.isAgg5
 z5:=Tryz.sizeOf5
 v5:=Tryz.zeroValue5
 i0:=by kernel_rfl
 i3:=by kernel_rfl
 i4:=by kernel_rfl
 i5:=by kernel_rfl
 i9:=by kernel_rfl
 i37:=by kernel_rfl
 i127:=by kernel_rfl }
open Go.RowKit in
theorem Tryz.stringslite_Clone(s:ByteArray)(w:World)(se:s.size≤281474976710656) :
  Calls Tryz.prog 214 #[.string s] w fun e w'=>e=.returned (.string s)∧Below w.heap.size w w':=Any.stringslite_Clone Tryz.laysM316 s w se
def Tryz.laysM249_ren:Go.Shelf.Ren:=⟨fun|249=>187|288=>240|283=>271|284=>272|285=>273|286=>274|129=>197|317=>296|318=>297|319=>298|320=>299|337=>305|338=>306|n=>n,fun|37=>230|2=>2|3=>3|53=>87|4=>4|9=>9|171=>369|0=>0|173=>371|212=>390|51=>165|5=>5|20=>20|213=>391|46=>166|232=>395|233=>396|n=>n,fun|17=>1|18=>2|19=>3|n=>n⟩
def Tryz.laysM176_ren:Go.Shelf.Ren:=⟨fun|176=>121|249=>187|288=>240|283=>271|284=>272|285=>273|286=>274|129=>197|317=>296|318=>297|319=>298|320=>299|337=>305|338=>306|n=>n,fun|37=>230|2=>2|3=>3|53=>87|4=>4|9=>9|171=>369|0=>0|173=>371|212=>390|51=>165|5=>5|20=>20|213=>391|46=>166|232=>395|233=>396|n=>n,fun|17=>1|18=>2|19=>3|n=>n⟩
theorem Tryz.laysM176:Go.Proofs.LaysM.n176 Tryz.prog Tryz.laysM176_ren:={
 mixed:=by kernel_rfl
 f129:=Tryz.func197.trans (congrArg some (by kernel_rfl))
 f176:=Tryz.func121.trans (congrArg some (by kernel_rfl))
 f249:=Tryz.func187.trans (congrArg some (by kernel_rfl))
 f283:=Tryz.func271.trans (congrArg some (by kernel_rfl))
 f284:=Tryz.func272.trans (congrArg some (by kernel_rfl))
 f285:=Tryz.func273.trans (congrArg some (by kernel_rfl))
 f286:=Tryz.func274.trans (congrArg some (by kernel_rfl))
 f288:=Tryz.func240.trans (congrArg some (by kernel_rfl))
 f317:=Tryz.func296.trans (congrArg some (by kernel_rfl))
 f318:=Tryz.func297.trans (congrArg some (by kernel_rfl))
 f319:=Tryz.func298.trans (congrArg some (by kernel_rfl))
 f320:=Tryz.func299.trans (congrArg some (by kernel_rfl))
 f337:=Tryz.func305.trans (congrArg some (by kernel_rfl))
 f338:=Tryz.func306.trans (congrArg some (by kernel_rfl))
 t0:=Tryz.underlying0
 a0:=Tryz.isAgg0
 z0:=Tryz.sizeOf0
 v0:=Tryz.zeroValue0
 t2:=Tryz.underlying2
 a2:=Tryz.isAgg2
 z2:=Tryz.sizeOf2
 v2:=Tryz.zeroValue2
 t3:=Tryz.underlying3
 a3:=Tryz.isAgg3
 z3:=Tryz.sizeOf3
 v3:=Tryz.zeroValue3
 t4:=Tryz.underlying4
 a4:=Tryz.isAgg4
 z4:=Tryz.sizeOf4
 v4:=Tryz.zeroValue4
 t5:=Tryz.underlying5
 a5:=Tryz.isAgg5
 z5:=Tryz.sizeOf5
 v5:=Tryz.zeroValue5
 t9:=Tryz.underlying9
 a9:=Tryz.isAgg9
 z9:=Tryz.sizeOf9
 v9:=Tryz.zeroValue9
 t20:=Tryz.underlying20
 a20:=Tryz.isAgg20
 z20:=Tryz.sizeOf20
 v20:=Tryz.zeroValue20
 t37:=Tryz.underlying230
 a37:=Tryz.isAgg230
 z37:=Tryz.sizeOf230
 v37:=Tryz.zeroValue230
 t46:=Tryz.underlying166
 a46:=Tryz.isAgg166
 z46:=Tryz.sizeOf166
 v46:=Tryz.zeroValue166
 t51:=Tryz.underlying165
 a51:=Tryz.isAgg165
 z51:=Tryz.sizeOf165
 v51:=Tryz.zeroValue165
 t53:=Tryz.underlying87
 a53:=Tryz.isAgg87
 z53:=Tryz.sizeOf87
 v53:=Tryz.zeroValue87
 t171:=Tryz.underlying369
 a171:=Tryz.isAgg369
 z171:=Tryz.sizeOf369
 v171:=Tryz.zeroValue369
 t173:=Tryz.underlying371
 a173:=Tryz.isAgg371
 z173:=Tryz.sizeOf371
 v173:=Tryz.zeroValue371
 t212:=Tryz.underlying390
 a212:=Tryz.isAgg390
 z212:=Tryz.sizeOf390
 v212:=Tryz.zeroValue390
 t213:=Tryz.underlying391
 a213:=Tryz.isAgg391
 z213:=Tryz.sizeOf391
 t232:=Tryz.underlying395
 a232:=Tryz.isAgg395
 z232:=Tryz.sizeOf395
 v232:=Tryz.zeroValue395
 t233:=Tryz.underlying396
 a233:=Tryz.isAgg396
 z233:=Tryz.sizeOf396
 v233:=Tryz.zeroValue396
 g17:=by kernel_rfl
 g18:=by kernel_rfl
 g19:=by kernel_rfl
 i0:=by kernel_rfl
 i2:=by kernel_rfl
 i3:=by kernel_rfl
 i4:=by kernel_rfl
 i5:=by kernel_rfl
 i9:=by kernel_rfl
 i20:=by kernel_rfl
 i37:=by kernel_rfl
 i46:=by kernel_rfl
 i51:=by kernel_rfl
 i53:=by kernel_rfl
 i171:=by kernel_rfl
 i173:=by kernel_rfl
 i212:=by kernel_rfl
 i232:=by kernel_rfl
 i233:=by kernel_rfl
 m17:=by kernel_rfl
 m18:=by kernel_rfl
 m19:=by kernel_rfl }
open Go.RowKit Go.Sort Go.Lib in
theorem Tryz.strconv_AppendInt_10(B n:Nat)(i:Int)(h0 : -9223372036854775808≤i)(h1:i≤9223372036854775807)(sv:Value)(xs:List Value)(w:World)(sg:w.ownsRow B 5 1 sv n xs)(si:B≤w.heap.size)(se:n+21≤140737488355328)(sh:Lib.TabBelow Tryz.prog B w "internal/strconv.uint64pow10" .u64 Lib.pow10Tab) :
  Calls Tryz.prog 121 #[sv,.int .i64 i,.int .i64 10] w fun e w'=>∃v',e=.returned v'∧w'.ownsRow B 5 1 v' (n+(Lib.itoa i).length) (xs++Lib.byteCells (Lib.itoa i))∧Below B w w'∧Lib.OthersKept 5 none w w':=Any.strconv_AppendInt_10 Tryz.laysM176 B n i h0 h1 sv xs w sg si se sh
end Go.Proofs
