/- packed -/
import Derived.Test.YtplldnnnhgnbjaaGreatDoorMv14
import Derived.Sort.Grow
import Derived.Lib.Bytealg
import Derived.Lib.Small
import Derived.Deep.Draws
import Derived.Shelf.SlSorted.Search
import Derived.Ground.SlsoProg
import Derived.Shelf.SlSortCmp.Whole1
import Derived.Ground.SlsfProg
import Derived.Shelf.SlGeneric
import Derived.Test.YtplldnnnhgnbjaaGreatDoorProg
set_option maxRecDepth 20000
set_option maxHeartbeats 1600000
namespace Go.Proofs.YtplldnnnhgnbjaaGreatDoor
open Go.RowKit Go.Maps
structure Cmp{α : Type}(c : α→α→Int):Prop where
 val:∀a b,c a b = -1∨c a b=0∨c a b=1
 eq:∀a b,c a b=0↔a=b
 anti:∀a b,c b a = - c a b
 trans:∀a b d,c a b<0→c b d<0→c a d<0
section
variable {α β : Type} {c : α→α→Int} {d : β→β→Int}
theorem Cmp.self(h:Cmp c)(a : α):c a a=0:=(h.eq a a).2 rfl
def rH(c : α→α→Int)(d : β→β→Int)(x y : α×β):Int:=if c x.1 y.1=0 then d x.2 y.2 else c x.1 y.1
theorem Cmp.seq(h:Cmp c)(k:Cmp d):Cmp (rH c d) where
 val:=fun x y=>by
  unfold rH
  split
  ·exact k.val _ _
  ·exact h.val _ _
 eq:=fun x y=>by
  unfold rH
  by_cases h0:c x.1 y.1=0
  ·rw[if_pos h0,k.eq]
   have h1:=(h.eq _ _).1 h0
   constructor
   ·exact fun h2=>Prod.ext h1 h2
   ·exact fun h2=>h2 ▸ rfl
  ·rw[if_neg h0]
   constructor
   ·exact fun h1=>absurd h1 h0
   ·exact fun h1=>absurd ((h.eq _ _).2 (h1 ▸ rfl)) h0
 anti:=fun x y=>by
  unfold rH
  have h1:=h.anti x.1 y.1
  by_cases h0:c x.1 y.1=0
  ·rw[if_pos h0,if_pos (by omega),k.anti]
  ·rw[if_neg h0,if_neg (by omega),h1]
 trans:=fun x y z=>by
  unfold rH
  by_cases h0:c x.1 y.1=0
  ·rw[if_pos h0,(h.eq _ _).1 h0]
   intro h1
   by_cases h2:c y.1 z.1=0
   ·rw[if_pos h2,if_pos h2];exact fun h3=>k.trans _ _ _ h1 h3
   ·rw[if_neg h2,if_neg h2];exact fun h3=>h3
  ·rw[if_neg h0]
   intro h1
   by_cases h2:c y.1 z.1=0
   ·rw[if_pos h2,←(h.eq _ _).1 h2,if_neg h0];exact fun _=>h1
   ·rw[if_neg h2]
    intro h3
    have h4:=h.trans _ _ _ h1 h3
    rw[if_neg (by omega)]
    exact h4
theorem Cmp.map(h:Cmp d)(f : α→β)(hf:∀a b,f a=f b→a=b):Cmp (fun a b=>d (f a) (f b)) where
 val:=fun _ _=>h.val _ _
 eq:=fun a b=>by
  rw[h.eq]
  exact⟨hf a b,fun e=>e ▸ rfl⟩
 anti:=fun _ _=>h.anti _ _
 trans:=fun _ _ _=>h.trans _ _ _
def cM(c : α→α→Int):List α→List α→Int
 | [],[]=>0
 | [],_::_=>-1
 | _::_,[]=>1
 | a::l,b::m=>if c a b=0 then cM c l m else c a b
theorem Cmp.lex(h:Cmp c):Cmp (cM c) where
 val:=fun x=>by
  induction x with
  | nil=>intro y;cases y <;> simp[cM]
  | cons a x ih =>
   intro y
   cases y with
   | nil=>simp[cM]
   | cons b y =>
    unfold cM
    split
    ·exact ih y
    ·exact h.val _ _
 eq:=fun x=>by
  induction x with
  | nil=>intro y;cases y <;> simp[cM]
  | cons a x ih =>
   intro y
   cases y with
   | nil=>simp[cM]
   | cons b y =>
    unfold cM
    by_cases h0:c a b=0
    ·rw[if_pos h0,ih,(h.eq _ _).1 h0]
     simp
    ·rw[if_neg h0]
     constructor
     ·exact fun h1=>absurd h1 h0
     ·intro h1
      injection h1 with h1 h2
      exact absurd ((h.eq _ _).2 h1) h0
 anti:=fun x=>by
  induction x with
  | nil=>intro y;cases y <;> simp[cM]
  | cons a x ih =>
   intro y
   cases y with
   | nil=>simp[cM]
   | cons b y =>
    unfold cM
    have h1:=h.anti a b
    by_cases h0:c a b=0
    ·rw[if_pos h0,if_pos (by omega),ih]
    ·rw[if_neg h0,if_neg (by omega),h1]
 trans:=fun x=>by
  induction x with
  | nil =>
   intro y z
   cases y with
   | nil=>exact fun h=>absurd h (by simp[cM])
   | cons b y=>cases z <;> simp[cM]
  | cons a x ih =>
   intro y z
   cases y with
   | nil=>exact fun h=>absurd h (by simp[cM])
   | cons b y =>
    cases z with
    | nil=>exact fun _ h=>absurd h (by simp[cM])
    | cons d z =>
     unfold cM
     by_cases h0:c a b=0
     ·rw[if_pos h0,(h.eq _ _).1 h0]
      intro h1
      by_cases h2:c b d=0
      ·rw[if_pos h2,if_pos h2];exact fun h3=>ih _ _ h1 h3
      ·rw[if_neg h2,if_neg h2];exact fun h3=>h3
     ·rw[if_neg h0]
      intro h1
      by_cases h2:c b d=0
      ·rw[if_pos h2,←(h.eq _ _).1 h2,if_neg h0];exact fun _=>h1
      ·rw[if_neg h2]
       intro h3
       have h4:=h.trans _ _ _ h1 h3
       rw[if_neg (by omega)]
       exact h4
theorem Cmp.lt_gt(h:Cmp c){a b : α} : 0<c a b↔c b a<0:=by have:=h.anti a b;omega
theorem Cmp.le_trans(h:Cmp c){a b d : α}(h1:c a b≤0)(h2:c b d≤0):c a d≤0:=by
 by_cases e1:c a b=0
 ·rw[(h.eq _ _).1 e1];exact h2
 ·by_cases e2:c b d=0
  ·rw[←(h.eq _ _).1 e2];exact h1
  ·have:=h.trans a b d (by omega) (by omega)
   omega
end
theorem fU:Cmp Lib.compareInt where
 val:=fun a b=>by unfold Lib.compareInt;split <;> (try split) <;> simp
 eq:=fun a b=>by unfold Lib.compareInt;split <;> (try split) <;> (constructor <;> intro h <;> omega)
 anti:=fun a b=>by unfold Lib.compareInt;split <;> split <;> (try split) <;> (try split) <;> omega
 trans:=fun a b d=>by unfold Lib.compareInt;intro h1 h2;split at h1 <;> (try split at h1) <;> split at h2 <;> (try split at h2) <;> first|omega|(rw[if_pos (by omega)];omega)
def byteC(a b:UInt8):Int:=Lib.compareInt (a.toNat:Int) (b.toNat:Int)
theorem cmp_byte:Cmp byteC:=fU.map (fun a:UInt8=>(a.toNat:Int)) (fun a b h=>UInt8.toNat_inj.1 (by omega))
theorem oK:∀a b:List UInt8,Lib.compareBytes a b=cM byteC a b
 | [],[]=>rfl
 | [],_::_=>rfl
 | _::_,[]=>rfl
 | a::l,b::m=>by
  unfold Lib.compareBytes cM
  rw[oK l m]
  unfold byteC Lib.compareInt
  by_cases h1:a<b
  ·have h2:(a.toNat:Int)<b.toNat:=by have:=UInt8.lt_iff_toNat_lt.1 h1;omega
   rw[if_pos h1,if_pos h2]
   rfl
  ·have h2:¬(a.toNat:Int)<b.toNat:=fun h=>h1 (UInt8.lt_iff_toNat_lt.2 (by omega))
   rw[if_neg h1,if_neg h2]
   by_cases h3:b<a
   ·have h4:(a.toNat:Int) > b.toNat:=by have:=UInt8.lt_iff_toNat_lt.1 h3;omega
    rw[if_pos h3,if_pos h4]
    rfl
   ·have h4:¬(a.toNat:Int) > b.toNat:=fun h=>h3 (UInt8.lt_iff_toNat_lt.2 (by omega))
    rw[if_neg h3,if_neg h4]
    rfl
def rT(a b:ByteArray):Int:=Lib.compareBytes a.data.toList b.data.toList
theorem cmp_str:Cmp rT:=by
 have h:=(cmp_byte.lex).map (fun s:ByteArray=>s.data.toList) (fun a b h=>by
  cases a;cases b;simp at h;rw[h])
 have e:rT=fun a b=>cM byteC a.data.toList b.data.toList:=by
  funext a b
  exact oK _ _
 rw[e]
 exact h
def cT(a b:Vl):Int:=if a.kind≠b.kind then Lib.compareInt a.kind b.kind else if a.int≠b.int then Lib.compareInt a.int b.int else rT a.str b.str
theorem pQ:Cmp cT:=by
 have h:=(fU.seq (fU.seq cmp_str)).map (fun v:Vl=>(v.kind,v.int,v.str)) (fun a b h=>by
  cases a;cases b;simp at h;simp[h])
 have e:cT=fun a b=>rH Lib.compareInt (rH Lib.compareInt rT) (a.kind,a.int,a.str) (b.kind,b.int,b.str):=by
  funext a b
  unfold cT rH
  by_cases h1:a.kind=b.kind
  ·rw[if_neg (by simpa using h1),if_pos ((fU.eq _ _).2 h1)]
   by_cases h2:a.int=b.int
   ·rw[if_neg (by simpa using h2)]
    show _=if Lib.compareInt a.int b.int=0 then _ else _
    rw[if_pos ((fU.eq _ _).2 h2)]
   ·rw[if_pos h2]
    show _=if Lib.compareInt a.int b.int=0 then _ else _
    rw[if_neg (fun h=>h2 ((fU.eq _ _).1 h))]
  ·rw[if_pos h1,if_neg (fun h=>h1 ((fU.eq _ _).1 h))]
 rw[e]
 exact h
def dh:List Vl→List Vl→Int:=cM cT
theorem bG:Cmp dh:=pQ.lex
def Gr(w w':World):Prop:=∃q os,w'=Go.Sort.grow (w.drewN q) os
theorem Gr.refl(w:World):Gr w w:=⟨0,#[],by simp[World.drewN]⟩
theorem Gr.drewN{a w:World}(h:Gr a w)(n:Nat):Gr a (w.drewN n):=by
 obtain⟨q,os,rfl⟩:=h
 exact⟨q+n,os,by simp[Go.Sort.grow,World.drewN,Nat.add_assoc]⟩
theorem Gr.drew{a w:World}(h:Gr a w):Gr a w.drew:=h.drewN 1
theorem Gr.alloc{a w:World}(h:Gr a w)(o:Obj):Gr a (w.alloc o):=by
 obtain⟨q,os,rfl⟩:=h
 exact⟨q,os.push o,by simp[Go.Sort.grow,World.alloc]⟩
theorem Gr.trans{a b d:World}(h:Gr a b)(k:Gr b d):Gr a d:=by
 obtain⟨q,os,rfl⟩:=h
 obtain⟨q2,se,rfl⟩:=k
 exact⟨q+q2,os++se,by simp[Go.Sort.grow,World.drewN,Nat.add_assoc,Array.append_assoc]⟩
theorem Gr.ext{a b:World}(h:Gr a b):Ext a b:=by
 obtain⟨q,os,rfl⟩:=h
 refine⟨rfl,rfl,rfl,by simp[Go.Sort.grow,World.drewN],fun k hk=>?_⟩
 show (a.heap++os)[k]?=_
 rw[Array.getElem?_append_left hk]
theorem Gr.cell{a b:World}(h:Gr a b){p:Addr}{v:Value}(hc:a.cell? p=some v):b.cell? p=some v:=h.ext.cell hc
theorem pd(x:Int)(w:World):Calls Tryz.prog 246 #[.int .i64 x] w (fun e w'=>e=.returned (.bool false)∧w=w'):=by
 have hb:(x != x)=false:=by simp
 go_enter Tryz.func246,Tryz.ntmps246
 go_wp2_with fail
 go_ret
 exact⟨rfl,rfl⟩
theorem cmp64(x y:Int)(w:World):Calls Tryz.prog 198 #[.int .i64 x,.int .i64 y] w (fun e w'=>e=.returned (.int .i64 (Lib.compareInt x y))∧w=w'):=by
 by_cases h1:x<y
 ·rw[show Lib.compareInt x y = -1 by unfold Lib.compareInt;rw[if_pos h1]]
  go_enter Tryz.func198,Tryz.ntmps198
  go_wp2_with fail
  refine(pd x _).mono ?_
  rintro e w2 ⟨rfl,rfl⟩
  go_wp2_with fail
  refine(pd y _).mono ?_
  rintro e w2 ⟨rfl,rfl⟩
  go_wp2_with fail
  go_ret
  exact⟨rfl,rfl⟩
 ·by_cases h2:y<x
  ·rw[show Lib.compareInt x y=1 by unfold Lib.compareInt;rw[if_neg h1,if_pos h2]]
   go_enter Tryz.func198,Tryz.ntmps198
   go_wp2_with fail
   refine(pd x _).mono ?_
   rintro e w2 ⟨rfl,rfl⟩
   go_wp2_with fail
   refine(pd y _).mono ?_
   rintro e w2 ⟨rfl,rfl⟩
   go_wp2_with fail
   go_ret
   exact⟨rfl,rfl⟩
  ·rw[show Lib.compareInt x y=0 by unfold Lib.compareInt;rw[if_neg h1,if_neg (show ¬x > y from h2)]]
   go_enter Tryz.func198,Tryz.ntmps198
   go_wp2_with fail
   refine(pd x _).mono ?_
   rintro e w2 ⟨rfl,rfl⟩
   go_wp2_with fail
   refine(pd y _).mono ?_
   rintro e w2 ⟨rfl,rfl⟩
   go_wp2_with fail
   go_ret
   exact⟨rfl,rfl⟩
theorem me(a b:Vl)(w:World) :
  Calls Tryz.prog 127 #[.agg #[.int .i64 a.kind,.int .i64 a.int,.string a.str],.agg #[.int .i64 b.kind,.int .i64 b.int,.string b.str]] w (fun e w'=>e=.returned (.int .i64 (cT a b))∧Gr w w'):=by
 obtain⟨ak,an,se⟩:=a
 obtain⟨bk,bn,bs⟩:=b
 obtain⟨z,hz⟩:=sd (cT ⟨ak,an,se⟩ ⟨bk,bn,bs⟩)
 rw[←hz]
 simp only
 have HZ:=zN hz
 clear hz
 have k2:=bH w 51 51 [.int .i64 ak,.int .i64 an,.string se] [.int .i64 bk,.int .i64 bn,.string bs]
 change Bk ((w.alloc (.cells #[.int .i64 ak,.int .i64 an,.string se] 51)).alloc (.cells #[.int .i64 bk,.int .i64 bn,.string bs] 51)) _ _ _∧Bk ((w.alloc (.cells #[.int .i64 ak,.int .i64 an,.string se] 51)).alloc (.cells #[.int .i64 bk,.int .i64 bn,.string bs] 51)) _ _ _ at k2
 have hx1:Gr w ((w.alloc (.cells #[.int .i64 ak,.int .i64 an,.string se] 51)).alloc (.cells #[.int .i64 bk,.int .i64 bn,.string bs] 51)):=((Gr.refl w).alloc _).alloc _
 go_enter Tryz.func127,Tryz.ntmps127
 go_upto_region 1 with fail
 generalize ((w.alloc (.cells #[.int .i64 ak,.int .i64 an,.string se] 51)).alloc (.cells #[.int .i64 bk,.int .i64 bn,.string bs] 51))=w1 at *
 obtain⟨ka,kb⟩:=k2
 have a0:=ka.c0;have a1:=ka.c1;have a2:=ka.c2
 have b0:=kb.c0;have b1:=kb.c1;have b2:=kb.c2
 have HX:=zN hx1
 clear ka kb hx1
 by_cases hk:ak=bk
 ·have g1:(ak != bk)=false:=by simpa using hk
  by_cases hn:an=bn
  ·have g2:(an != bn)=false:=by simpa using hn
   have HQ:Hid (z=rT se bs):=zN (by rw[HZ.out];unfold cT;rw[if_neg (by simpa using hk),if_neg (by simpa using hn)])
   clear hk hn
   go_wp2_with fail
   refine(Tryz.strings_Compare se bs _).mono ?_
   rintro e w2 ⟨rfl,rfl⟩
   go_wp2_with fail
   go_ret
   exact⟨by rw[HQ.out];rfl,HX.out⟩
  ·have g2:(an != bn)=true:=by simpa using hn
   have HQ:Hid (z=Lib.compareInt an bn):=zN (by rw[HZ.out];unfold cT;rw[if_neg (by simpa using hk),if_pos hn])
   clear hk hn
   go_wp2_with fail
   refine(cmp64 an bn _).mono ?_
   rintro e w2 ⟨rfl,rfl⟩
   go_wp2_with fail
   go_ret
   exact⟨by rw[HQ.out];rfl,HX.out⟩
 ·have g1:(ak != bk)=true:=by simpa using hk
  have HQ:Hid (z=Lib.compareInt ak bk):=zN (by rw[HZ.out];unfold cT;rw[if_pos hk])
  clear hk
  go_wp2_with fail
  refine(Tryz.cmp_Compare_int ak bk _).mono ?_
  rintro e w2 ⟨rfl,rfl⟩
  go_wp2_with fail
  go_ret
  exact⟨by rw[HQ.out];rfl,HX.out⟩
theorem p4{α : Type}{c : α→α→Int}:∀{xs ys:List α} {i:Nat},i≤xs.length→i≤ys.length→cM c (xs.take i) (ys.take i)=0→cM c xs ys=cM c (xs.drop i) (ys.drop i)
 | _,_,0,_,_,_=>by simp
 | a::xs,b::ys,i+1,h1,h2,h=>by
  simp only[List.take_succ_cons,cM]at h
  simp only[List.drop_succ_cons]
  by_cases h0:c a b=0
  ·rw[if_pos h0]at h
   rw[←p4 (by simpa using h1) (by simpa using h2) h]
   simp only[cM]
   rw[if_pos h0]
  ·rw[if_neg h0]at h
   exact absurd h h0
theorem o8{α : Type}{c : α→α→Int}:∀{xs ys:List α} {i:Nat} (h1:i<xs.length) (h2:i<ys.length),cM c (xs.take i) (ys.take i)=0→c xs[i] ys[i]=0→cM c (xs.take (i+1)) (ys.take (i+1))=0
 | a::xs,b::ys,0,_,_,_,h=>by
  simp only[ja]at h
  simp[cM,h]
 | a::xs,b::ys,i+1,h1,h2,h,k=>by
  simp only[List.take_succ_cons,cM]at h ⊢
  simp only[je]at k
  by_cases h0:c a b=0
  ·rw[if_pos h0]at h ⊢
   exact o8 (by simpa using h1) (by simpa using h2) h k
  ·rw[if_neg h0]at h
   exact absurd h h0
theorem ik{F G:Nat→Prop}{w:World}{A B:Option Addr}{n c m d:Nat}{xs ys:List Vl}(hA:Sl aM F w (.slice A n c) xs)(hB:Sl aM G w (.slice B m d) ys)(hn:n≤1048576)(hm:m≤1048576) :
  Calls Tryz.prog 131 #[.slice A n c,.slice B m d,.slice none 0 0] w (fun e w'=>e=.returned (.int .i64 (dh xs ys))∧Gr w w'):=by
 have sD:=hA.cap.1;have sE:=hB.cap.1
 have HA:=zN hA;have HB:=zN hB;have sw:=zN sD;have sx:=zN sE
 obtain⟨z,hz⟩:=sd (dh xs ys)
 rw[←hz]
 have HZ:=zN hz
 obtain⟨p,hp⟩:=sd (min n m)
 have sL:p≤n:=by omega
 have sK:p≤m:=by omega
 have HP:=zN hp
 have sI:min (n:Int) (m:Int)=(p:Int):=by omega
 clear hA hB sD sE hz hp
 go_enter Tryz.func131,Tryz.ntmps131
 go_wp2_with fail
 go_loopw [14] (fun t wr=>∃i:Nat,i≤p∧t=.int .i64 (i:Int)∧Hid (cM cT (xs.take i) (ys.take i)=0)∧Gr w wr) (fun t _=>p-(intOf t).toNat)
 case atStart=>exact⟨0,jn _,rfl,zN (by simp[cM]),Gr.refl _⟩
 case round =>
  obtain⟨i,hi,rfl,HE,si⟩:=hrel
  obtain⟨W,rfl⟩:∃W:World,W=wr:=⟨_,rfl⟩
  have HG:=zN si
  by_cases hlt:i<p
  ·have i1:(0:Int)≤(i:Int):=by omega
   have i2:(i:Int)<(p:Int):=by omega
   have i3:(i:Int)<(n:Int):=by omega
   have i4:(i:Int)<(m:Int):=by omega
   have sy:i<xs.length:=by have:=sw.out;omega
   have sA:i<ys.length:=by have:=sx.out;omega
   obtain⟨ad,rfl,-,a0,a1,a2⟩:=HA.out.vl sy
   obtain⟨bd,rfl,-,b0,b1,b2⟩:=HB.out.vl sA
   replace a0:=si.cell a0;replace a1:=si.cell a1;replace a2:=si.cell a2;replace b0:=si.cell b0;replace b1:=si.cell b1;replace b2:=si.cell b2
   have sh:cM cT xs ys=cM cT (xs.drop i) (ys.drop i):=p4 (by omega) (by omega) HE.out
   have se:cT xs[i] ys[i]=0→cM cT (xs.take (i+1)) (ys.take (i+1))=0:=o8 sy sA HE.out
   have sg:cT xs[i] ys[i]≠0→z=cT xs[i] ys[i]:=fun h=>by
    rw[HZ.out]
    unfold dh
    rw[sh,jV sy,jV sA]
    show (if cT xs[i] ys[i]=0 then _ else _)=_
    rw[if_neg h]
   have HV:=zN (fun (V:World)=>me xs[i] ys[i] V)
   obtain⟨x,hx⟩:=sd (xs[i])
   obtain⟨y,hy⟩:=sd (ys[i])
   rw[←hx]at a0 a1 a2 se sg HV
   rw[←hy]at b0 b1 b2 se sg HV
   obtain⟨xk,xn,sF⟩:=x
   obtain⟨yk,yn,sG⟩:=y
   simp only at a0 a1 a2 b0 b1 b2 HV
   have sC:=zN se;have sB:=zN sg
   clear hx hy sh se sg si
   go_upto_region 4 with fail
   go_region_held3 (fun V=>Gr W V∧V.cell? (ad.add (i*3))=some (.int .i64 xk)∧V.cell? ⟨(ad.add (i*3)).block,(ad.add (i*3)).off+1,none⟩=some (.int .i64 xn)∧V.cell? ⟨(ad.add (i*3)).block,(ad.add (i*3)).off+2,none⟩=some (.string sF)∧V.cell? (bd.add (i*3))=some (.int .i64 yk)∧V.cell? ⟨(bd.add (i*3)).block,(bd.add (i*3)).off+1,none⟩=some (.int .i64 yn)∧V.cell? ⟨(bd.add (i*3)).block,(bd.add (i*3)).off+2,none⟩=some (.string sG))
    ((refine(fun he=>⟨he,Gr.cell he a0,Gr.cell he a1,Gr.cell he a2,Gr.cell he b0,Gr.cell he b1,Gr.cell he b2⟩) ?_;repeat (first|exact Gr.refl _|exact(Gr.refl _).drew|refine Gr.drew ?_|refine Gr.trans ?_ (by assumption))))
    (first
     | (go_at_call 127;(with_reducible refine(HV.out _).mono ?_);rintro e wi ⟨rfl,sH⟩))
   have sr:=And.left (b:=_∧_) (by assumption)
   obtain⟨X,rfl⟩:∃X:World,X=wi:=⟨_,rfl⟩
   have HX:=zN (HG.out.trans sr)
   obtain⟨q,hq⟩:=sd (cT ⟨xk,xn,sF⟩ ⟨yk,yn,sG⟩)
   rw[←hq]at sC sB ⊢
   clear sr sH a0 a1 a2 b0 b1 b2 hq
   by_cases hq0:q=0
   ·subst hq0
    have HS:=zN (sC.out rfl)
    go_wp2_with fail
    go_roundw
    case rel=>exact⟨i+1,by omega,by go_num,HS,HX.out⟩
    case measure=>simp[intOf];omega
   ·have HS:=zN (sB.out hq0)
    have sM:(q == 0)=false:=by simpa using hq0
    clear hq0
    go_wp2_with fail
    go_ret
    exact⟨by rw[HS.out];rfl,HX.out⟩
  ·obtain rfl:i=p:=by omega
   have sJ:¬(i:Int)<(i:Int):=by omega
   have sh:cM cT xs ys=cM cT (xs.drop i) (ys.drop i):=p4 (by have:=sw.out;omega) (by have:=sx.out;omega) HE.out
   have sj:z=cM cT (xs.drop i) (ys.drop i):=by rw[HZ.out];exact sh
   have sp:(xs.drop i).length=n-i:=by rw[za,←sw.out]
   have sq:(ys.drop i).length=m-i:=by rw[za,←sx.out]
   have su:=HP.out
   obtain⟨l1,h1⟩:=sd (xs.drop i)
   obtain⟨l2,h2⟩:=sd (ys.drop i)
   rw[←h1]at sp sj
   rw[←h2]at sq sj
   clear h1 h2 sh si
   by_cases hnm:n<m
   ·have HQ:Hid (z = -1):=zN (by
     rw[sj]
     cases l1 with
     | nil=>cases l2 with
      | nil=>simp at sq;omega
      | cons _ _=>rfl
     | cons _ _=>simp at sp;omega)
    have g1:(n:Int)<(m:Int):=by omega
    clear sj sp sq su
    go_wp2_with fail
    go_ret
    exact⟨by rw[HQ.out];rfl,HG.out⟩
   ·have g1:¬(n:Int)<(m:Int):=by omega
    by_cases hmn:m<n
    ·have HQ:Hid (z=1):=zN (by
      rw[sj]
      cases l2 with
      | nil=>cases l1 with
       | nil=>simp at sp;omega
       | cons _ _=>rfl
      | cons _ _=>simp at sq;omega)
     have g2:(m:Int)<(n:Int):=by omega
     clear sj sp sq su
     go_wp2_with fail
     go_ret
     exact⟨by rw[HQ.out];rfl,HG.out⟩
    ·have HQ:Hid (z=0):=zN (by
      rw[sj]
      cases l2 with
      | nil=>cases l1 with
       | nil=>rfl
       | cons _ _=>simp at sp;omega
      | cons _ _=>simp at sq;omega)
     have g2:¬(m:Int)<(n:Int):=by omega
     clear sj sp sq su
     go_wp2_with fail
     go_ret
     exact⟨by rw[HQ.out];rfl,HG.out⟩
theorem rcomp_any{F G:Nat→Prop}{w:World}{A B:Option Addr}{n c m d:Nat}{xs ys:List Vl}(hA:Sl aM F w (.slice A n c) xs)(hB:Sl aM G w (.slice B m d) ys)(hn:n≤1048576)(hm:m≤1048576) :
  Calls Tryz.prog 293 #[.slice A n c,.slice B m d] w (fun e w'=>e=.returned (.int .i64 (dh xs ys))∧Gr w w'):=by
 have H:=zN (ik hA hB hn hm)
 clear hA hB
 go_enter Tryz.func293,Tryz.ntmps293
 go_wp2_with fail
 refine H.out.mono ?_
 rintro e w2 ⟨rfl,hg⟩
 have HG:=zN hg
 clear hg
 go_wp2_with fail
 go_ret
 exact⟨rfl,HG.out⟩
theorem requal_any{F G:Nat→Prop}{w:World}{A B:Option Addr}{n c m d:Nat}{xs ys:List Vl}(hA:Sl aM F w (.slice A n c) xs)(hB:Sl aM G w (.slice B m d) ys)(hn:n≤1048576)(hm:m≤1048576) :
  Calls Tryz.prog 262 #[.slice A n c,.slice B m d] w (fun e w'=>e=.returned (.bool (dh xs ys == 0))∧Gr w w'):=by
 have H:=zN (rcomp_any hA hB hn hm)
 obtain⟨z,hz⟩:=sd (dh xs ys)
 rw[←hz]at H ⊢
 clear hA hB hz
 go_enter Tryz.func262,Tryz.ntmps262
 go_wp2_with fail
 refine H.out.mono ?_
 rintro e w2 ⟨rfl,hg⟩
 have HG:=zN hg
 clear hg
 go_wp2_with fail
 go_ret
 exact⟨rfl,HG.out⟩
end Go.Proofs.YtplldnnnhgnbjaaGreatDoor
namespace Go.Proofs
open Go.Shelf
def Tryz.laySearch_ren:Go.Shelf.Ren:=⟨fun|16=>260|n=>n,fun|3=>3|35=>197|4=>4|38=>166|n=>n,fun|n=>n⟩
theorem Tryz.laySearch:Go.Proofs.SlLaysO.n16 Tryz.prog Tryz.laySearch_ren:={
 mixed:=by kernel_rfl
 f16:=Tryz.func260.trans (congrArg some (by kernel_rfl))
 t3:=Tryz.underlying3
 a3:=Tryz.isAgg3
 z3:=Tryz.sizeOf3
 v3:=Tryz.zeroValue3
 t4:=Tryz.underlying4
 a4:=Tryz.isAgg4
 z4:=Tryz.sizeOf4
 v4:=Tryz.zeroValue4
 t35:=Tryz.underlying197
 a35:=Tryz.isAgg197
 z35:=Tryz.sizeOf197
 v35:=Tryz.zeroValue197
 t38:=Tryz.underlying166
 a38:=Tryz.isAgg166
 z38:=Tryz.sizeOf166
 v38:=Tryz.zeroValue166 }
def Tryz.laySortRow_ren:Go.Shelf.Ren:=⟨fun|6=>53|15=>123|14=>122|28=>196|29=>197|20=>188|21=>189|22=>190|23=>191|24=>192|25=>193|26=>194|27=>195|46=>241|47=>242|48=>243|49=>244|50=>245|57=>275|n=>n,fun|22=>38|24=>74|25=>128|3=>3|39=>166|0=>0|53=>165|55=>87|4=>4|46=>296|45=>295|50=>245|5=>5|9=>9|66=>341|70=>345|76=>373|77=>374|n=>n,fun|n=>n⟩
theorem Tryz.laySortRow:Go.Proofs.SlLaysF.n6 Tryz.prog Tryz.laySortRow_ren:={
 mixed:=by kernel_rfl
 f6:=⟨Tryz.f53.name,by decide,Tryz.func53.trans (congrArg some (by kernel_rfl))⟩
 f14:=⟨Tryz.f122.name,by decide,Tryz.func122.trans (congrArg some (by kernel_rfl))⟩
 f15:=Tryz.func123.trans (congrArg some (by kernel_rfl))
 f20:=⟨Tryz.f188.name,by decide,Tryz.func188.trans (congrArg some (by kernel_rfl))⟩
 f21:=⟨Tryz.f189.name,by decide,Tryz.func189.trans (congrArg some (by kernel_rfl))⟩
 f22:=⟨Tryz.f190.name,by decide,Tryz.func190.trans (congrArg some (by kernel_rfl))⟩
 f23:=⟨Tryz.f191.name,by decide,Tryz.func191.trans (congrArg some (by kernel_rfl))⟩
 f24:=⟨Tryz.f192.name,by decide,Tryz.func192.trans (congrArg some (by kernel_rfl))⟩
 f25:=⟨Tryz.f193.name,by decide,Tryz.func193.trans (congrArg some (by kernel_rfl))⟩
 f26:=⟨Tryz.f194.name,by decide,Tryz.func194.trans (congrArg some (by kernel_rfl))⟩
 f27:=⟨Tryz.f195.name,by decide,Tryz.func195.trans (congrArg some (by kernel_rfl))⟩
 f28:=Tryz.func196.trans (congrArg some (by kernel_rfl))
 f29:=Tryz.func197.trans (congrArg some (by kernel_rfl))
 f46:=⟨Tryz.f241.name,by decide,Tryz.func241.trans (congrArg some (by kernel_rfl))⟩
 f47:=Tryz.func242.trans (congrArg some (by kernel_rfl))
 f48:=Tryz.func243.trans (congrArg some (by kernel_rfl))
 f49:=⟨Tryz.f244.name,by decide,Tryz.func244.trans (congrArg some (by kernel_rfl))⟩
 f50:=⟨Tryz.f245.name,by decide,Tryz.func245.trans (congrArg some (by kernel_rfl))⟩
 f57:=⟨Tryz.f275.name,by decide,Tryz.func275.trans (congrArg some (by kernel_rfl))⟩
 t0:=Tryz.underlying0
 a0:=Tryz.isAgg0
 z0:=Tryz.sizeOf0
 v0:=Tryz.zeroValue0
 t3:=Tryz.underlying3
 a3:=Tryz.isAgg3
 z3:=Tryz.sizeOf3
 v3:=Tryz.zeroValue3
 t4:=Tryz.underlying4
 a4:=Tryz.isAgg4
 z4:=Tryz.sizeOf4
 v4:=Tryz.zeroValue4
 t5:=Tryz.underlying5
 a5:=Tryz.isAgg5
 z5:=Tryz.sizeOf5
 v5:=Tryz.zeroValue5
 t9:=Tryz.underlying9
 a9:=Tryz.isAgg9
 z9:=Tryz.sizeOf9
 v9:=Tryz.zeroValue9
 t22:=Tryz.underlying38
 a22:=Tryz.isAgg38
 z22:=Tryz.sizeOf38
 v22:=Tryz.zeroValue38
 a24:=Tryz.isAgg74
 z24:=Tryz.sizeOf74
 t25:=Tryz.underlying128
 a25:=Tryz.isAgg128
 z25:=Tryz.sizeOf128
 v25:=Tryz.zeroValue128
 t39:=Tryz.underlying166
 a39:=Tryz.isAgg166
 z39:=Tryz.sizeOf166
 v39:=Tryz.zeroValue166
 t45:=Tryz.underlying295
 a45:=Tryz.isAgg295
 z45:=Tryz.sizeOf295
 v45:=Tryz.zeroValue295
 t46:=Tryz.underlying296
 a46:=Tryz.isAgg296
 z46:=Tryz.sizeOf296
 v46:=Tryz.zeroValue296
 t50:=Tryz.underlying245
 a50:=Tryz.isAgg245
 z50:=Tryz.sizeOf245
 v50:=Tryz.zeroValue245
 t53:=Tryz.underlying165
 a53:=Tryz.isAgg165
 z53:=Tryz.sizeOf165
 v53:=Tryz.zeroValue165
 t55:=Tryz.underlying87
 a55:=Tryz.isAgg87
 z55:=Tryz.sizeOf87
 v55:=Tryz.zeroValue87
 t66:=Tryz.underlying341
 a66:=Tryz.isAgg341
 z66:=Tryz.sizeOf341
 v66:=Tryz.zeroValue341
 t70:=Tryz.underlying345
 a70:=Tryz.isAgg345
 z70:=Tryz.sizeOf345
 v70:=Tryz.zeroValue345
 t76:=Tryz.underlying373
 a76:=Tryz.isAgg373
 z76:=Tryz.sizeOf373
 v76:=Tryz.zeroValue373
 t77:=Tryz.underlying374
 a77:=Tryz.isAgg374
 z77:=Tryz.sizeOf374
 v77:=Tryz.zeroValue374 }
end Go.Proofs
namespace Go.Proofs.YtplldnnnhgnbjaaGreatDoor
open Go.RowKit Go.Maps
theorem dN(w:World)(t u v:TypeId)(cs ds es:List Value):Bk (((w.alloc (.cells cs.toArray t)).alloc (.cells ds.toArray u)).alloc (.cells es.toArray v)) w.heap.size t cs∧Bk (((w.alloc (.cells cs.toArray t)).alloc (.cells ds.toArray u)).alloc (.cells es.toArray v)) (w.heap.size+1) u ds∧Bk (((w.alloc (.cells cs.toArray t)).alloc (.cells ds.toArray u)).alloc (.cells es.toArray v)) (w.heap.size+1+1) v es:=by
 obtain⟨h1,h2⟩:=bH w t u cs ds
 refine⟨h1.alloc _,h2.alloc _,?_⟩
 have h:=Bk.new ((w.alloc (.cells cs.toArray t)).alloc (.cells ds.toArray u)) v es
 have e:((w.alloc (.cells cs.toArray t)).alloc (.cells ds.toArray u)).heap.size=w.heap.size+1+1:=by simp
 rw[e]at h
 exact h
theorem fD:(Tryz.prog.info? 74).map (fun i=>(i.zero,i.size,i.bytes))=some (some (.slice none 0 0),1,24):=by kernel_rfl
theorem bt{w:World}{base n g cap sz:Nat}{E:TypeId}{us:List Value}(h:w.ownsRow base E sz (.slice (some ⟨g,0,none⟩) n cap) n us){i:Nat}(hi:i<n*sz):(∃u,w.cell? ⟨g,i,none⟩=some u)∧w.frozen? ⟨g,i,none⟩=false:=by
 obtain⟨hl,h⟩:=h
 rcases h with ⟨h0,-⟩|⟨g',sg,se,e,hb,hc,h1,h2,h3,h4⟩
 ·cases h0
 injection e with e1 e2 e3
 injection e1 with e1
 injection e1 with e1
 subst e1 e3
 have sh:i<se.size:=by
  rw[h3]
  exact jE hi (jW _ h1)
 exact⟨⟨se[i],by simp[World.cell?,hc,sh]⟩,by simp[World.frozen?,hc]⟩
theorem bZ{w:World}{base n g cap sz:Nat}{E:TypeId}{us:List Value}(h:w.ownsRow base E sz (.slice (some ⟨g,0,none⟩) n cap) n us){i:Nat}(hi:i<n*sz)(u:Value):(w.setCell ⟨g,i,none⟩ u).ownsRow base E sz (.slice (some ⟨g,0,none⟩) n cap) n (us.set i u):=by
 obtain⟨hl,h⟩:=h
 refine⟨by simpa using hl,?_⟩
 rcases h with ⟨h0,-⟩|⟨g',se,sg,e,hb,hc,h1,h2,h3,h4⟩
 ·cases h0
 injection e with e1 e2 e3
 injection e1 with e1
 injection e1 with e1
 subst e1 e3
 refine .inr ⟨g,cap,sg.setIfInBounds i u,rfl,hb,?_,h1,h2,by simpa using h3,?_⟩
 ·simp[World.setCell,zM,hc]
 ·rw[Array.toList_setIfInBounds,List.take_set,h4]
theorem clone_vls{F:Nat→Prop}{w:World}{A:Option Addr}{n c:Nat}{xs:List Value}(sg:Cl F w A xs)(hl:xs.length=n*3)(h1:∀u∈xs,u.oneCell'=true)(hn:n≤1048576) :
  Calls Tryz.prog 57 #[.slice A n c] w (Ret (fun x w'=>w'.ownsRow w.heap.size 51 3 x n xs) w):=by
 obtain⟨i0,sj,sp,sq,sr⟩:=info_parts ic
 have se:=zN (And.intro sj (And.intro sp (And.intro sq sr)));clear sj sp sq sr
 have su:=zN sg;have HL:=zN hl;have HO:=zN h1
 clear hl h1
 rcases A with _|ad
 ·have HX:Hid (n=0∧xs=[]):=zN (by
   rcases sg with rfl|⟨ad,e,-⟩
   ·have:=HL.out;simp at this;exact⟨by omega,rfl⟩
   ·cases e)
  clear sg
  have sA:∀(w:World) (n c n' c':Nat),(binOp .eql 74 (.slice none n c) (.slice none n' c')).run Tryz.prog w=.ok (.bool true) w:=fun w n c n' c'=>Lib.run_eql_slice_nil w _ _ none n c n' c' Tryz.underlying74
  go_enter Tryz.func57,Tryz.ntmps57
  go_wp2_with fail
  go_ret
  exact Ret.mk (Ext.refl _) (by rw[HX.out.1,HX.out.2];exact World.ownsRow_nil _ _ _ _)
 ·have sA:∀(w:World) (a:Addr) (n c n' c':Nat),(binOp .eql 74 (.slice (some a) n c) (.slice none n' c')).run Tryz.prog w=.ok (.bool false) w:=fun w a n c n' c'=>Lib.run_eql_slice_nil w _ _ (some a) n c n' c' Tryz.underlying74
  clear sg
  go_enter Tryz.func57,Tryz.ntmps57
  go_wp2_with (first|(at_builtin;refine aH rfl _ _ 74 rfl w.heap.size 51 i0 (.agg #[.int .i64 0,.int .i64 0,.string ⟨#[]⟩]) 3 32 Tryz.underlying74 se.out.1 se.out.2.1 se.out.2.2.1 se.out.2.2.2 rfl (by omega) (.slice (some ⟨w.heap.size,0,none⟩) 0 0) 0 [] rfl (World.ownsRow_made w #[] 0 (jo _) (jn _) rfl) (some ad) n c xs rfl HL.out ((su.out.ext ((Ext.refl w).alloc _)).news) HO.out (by simp only[maxLen];omega) (by omega) (by simp) ?_;intro v9 w9 sh si sy;rw[jY,ze]at sh;obtain⟨A9,c9,rfl⟩:=af sh;have sx:=zN sh;have sw:Hid (Ext w w9):=zN (((Ext.refl w).alloc _).grown si (fun q hq=>by simp[Value.ownBlock]at hq;omega));clear sh si sy))
  go_ret
  exact Ret.mk sw.out sx.out
theorem vls_one(xs:List Vl):∀u∈au xs,u.oneCell'=true:=by
 intro u hu
 unfold au at hu
 rw[List.mem_flatMap]at hu
 obtain⟨x,-,hx⟩:=hu
 simp only[Vl.cells,jB,zJ,or_false]at hx
 rcases hx with rfl|rfl|rfl <;> rfl
theorem qi(xs:List Vl):(au xs).length=xs.length*3:=by
 unfold au
 induction xs with
 | nil=>rfl
 | cons a l ih=>rw[jS,jm,ih];simp[Vl.cells];omega
theorem Sl.cls{F:Nat→Prop}{w:World}{A:Option Addr}{n c:Nat}{xs:List Vl}(h:Sl aM F w (.slice A n c) xs):Cl F w A (au xs):=by
 rcases xs with _|⟨x,l⟩
 ·exact .inl rfl
 ·have h0:=h
  obtain⟨A',c',e,-,hh⟩:=h
  injection e with e1
  subst e1
  obtain⟨ad,cs,rfl,hF,-⟩:=hh 0 (by simp)
  refine .inr ⟨ad,rfl,hF,fun j hj=>?_⟩
  rw[qi]at hj
  have se:∀cs∈(x::l).map Vl.cells,cs.length=3:=fun cs sj=>by obtain⟨y,_,rfl⟩:=jG.1 sj;rfl
  have hq:j / 3<(x::l).length:=by omega
  obtain⟨sq,si,e,-,hr,hc⟩:=hh (j / 3) hq
  injection e with e
  subst e
  have e2:si=Vl.cells ((x::l)[j / 3]):=hr
  subst e2
  have hm:j % 3<3:=Nat.mod_lt _ (by decide)
  have h1:=hc (j % 3) hm
  have h2:=dW (css:=(x::l).map Vl.cells) (i:=j / 3) se (by simpa using hq) hm
  have ej:j / 3*3+j % 3=j:=Nat.div_add_mod' j 3
  rw[←List.flatMap_def,jy,ej]at h2
  have sp:j<(au (x::l)).length:=by rw[qi];exact hj
  have sh:j % 3<(Vl.cells ((x::l)[j / 3])).length:=hm
  have sg:w.cell? (ad.add (j / 3*3+j % 3))=some ((Vl.cells ((x::l)[j / 3]))[j % 3]'sh):=h1
  rw[ej]at sg
  rw[sg,←jl sh,←h2]
  exact jl sp
theorem mM{w:World}{base n:Nat}{v:Value}{xs:List Vl}(h:w.ownsRow base 51 3 v n (au xs)):Sl aM (fun k=>base≤k) w v xs:=(Rw.of_flat (cells:=Vl.cells) (sz:=3) (hl:=fun _=>rfl) h).sl (by decide)
theorem iz{F:Nat→Prop}{w:World}{A:Option Addr}{n c:Nat}{xs:List Vl}(h:Sl aM F w (.slice A n c) xs)(hn:n≤1048576) :
  Calls Tryz.prog 57 #[.slice A n c] w (Ret (fun x w'=>∃A' c',x=.slice A' n c'∧Sl aM (fun k=>w.heap.size≤k) w' x xs) w):=by
 refine(clone_vls h.cls (by rw[qi,←h.cap.1]) (vls_one _) hn).mono ?_
 rintro e w' ⟨x,rfl,he,ho⟩
 obtain⟨A',c',rfl⟩:=af ho
 exact⟨_,rfl,he,_,_,rfl,mM ho⟩
def qh(r:List Vl):Bool:=r.all (fun v=>dY v.kind v.int v.str)
theorem nW{F:Nat→Prop}{w:World}{A:Option Addr}{n c:Nat}{xs:List Vl}(h:Sl aM F w (.slice A n c) xs)(hn:n≤1048576)(hz:∀v∈xs,v.str.size≤maxLen) :
  Calls Tryz.prog 162 #[.slice A n c] w (Ret (fun x _=>x=.bool (qh xs)) w):=by
 have sw:=h.cap.1
 have HA:=zN h;have sr:=zN sw;have HZ:=zN hz
 obtain⟨z,sj⟩:=sd (qh xs)
 rw[←sj]
 have HV:=zN sj
 clear h sw hz sj
 go_enter Tryz.func162,Tryz.ntmps162
 go_wp2_with fail
 go_loopw [6] (fun t wr=>∃i:Nat,i≤n∧t=.int .i64 (i:Int)∧Hid ((xs.take i).all (fun v=>dY v.kind v.int v.str)=true)∧Ext w wr) (fun t _=>n-(intOf t).toNat)
 case atStart=>exact⟨0,jn _,rfl,zN (by simp),Ext.refl _⟩
 case round =>
  obtain⟨i,hi,rfl,HE,hx⟩:=hrel
  obtain⟨W,rfl⟩:∃W:World,W=wr:=⟨_,rfl⟩
  have HX:=zN hx
  by_cases hlt:i<n
  ·have i1:(0:Int)≤(i:Int):=by omega
   have i2:(i:Int)<(n:Int):=by omega
   have si:i<xs.length:=by have:=sr.out;omega
   obtain⟨ad,rfl,-,a0,a1,a2⟩:=HA.out.vl si
   replace a0:=hx.cell a0;replace a1:=hx.cell a1;replace a2:=hx.cell a2
   have se:=jf si
   have sp:=HZ.out _ se
   have sg:dY xs[i].kind xs[i].int xs[i].str=true→(xs.take (i+1)).all (fun v=>dY v.kind v.int v.str)=true:=fun h=>by
    rw[jj si,List.all_append,HE.out]
    simp[h]
   have sh:dY xs[i].kind xs[i].int xs[i].str=false→z=false:=fun h=>by
    rw[HV.out]
    unfold qh
    rw[List.all_eq_false]
    exact⟨_,se,by simp[h]⟩
   obtain⟨x,hx⟩:=sd (xs[i])
   rw[←hx]at a0 a1 a2 sg sh sp
   obtain⟨xk,xn,sx⟩:=x
   simp only at a0 a1 a2 sg sh sp
   have sy:=zN sg;have sA:=zN sh
   have HC:=zN (fun (V:World)=>cG xk xn sx V sp)
   clear hx se sg sh
   go_wp2_with fail
   refine(HC.out _).mono ?_
   rintro e w2 ⟨y,rfl,su,rfl⟩
   have sq:=zN (HX.out.trans su)
   clear su a0 a1 a2
   rcases hb:dY xk xn sx with _|_
   ·have HF:=zN (sA.out hb)
    clear hb
    go_wp2_with fail
    go_ret
    exact Ret.mk sq.out (by rw[HF.out];rfl)
   ·have HT:=zN (sy.out hb)
    clear hb
    go_wp2_with fail
    go_roundw
    case rel=>exact⟨i+1,by omega,by go_num,HT,sq.out⟩
    case measure=>simp[intOf];omega
  ·obtain rfl:i=n:=by omega
   have sB:¬(i:Int)<(i:Int):=by omega
   have HT:Hid (z=true):=zN (by
    have h:=HE.out
    rw[jp (by have:=sr.out;omega)]at h
    rw[HV.out]
    exact h)
   clear hx
   go_wp2_with fail
   go_ret
   exact Ret.mk HX.out (by rw[HT.out];rfl)
theorem Sl.row{F:Nat→Prop}{w:World}{A:Option Addr}{n c:Nat}{xs:List (List Vl)}(h:Sl aG F w (.slice A n c) xs){i:Nat}(hi:i<xs.length):∃ad B d,A=some ad∧F ad.block∧w.cell? (ad.add i)=some (.slice B xs[i].length d)∧Sl aM F w (.slice B xs[i].length d) xs[i]:=by
 obtain⟨A',c',e,hc,hh⟩:=h
 injection e with e1 e2 e3
 subst e1
 obtain⟨ad,cs,rfl,hF,⟨u,rfl,hu⟩,h4⟩:=hh i hi
 obtain⟨B,d,rfl⟩:=hu.sl
 have h5:=h4 0 (by simp)
 have e:i*aG.sz+0=i:=by show i*1+0=i;omega
 rw[e]at h5
 exact⟨ad,B,d,rfl,hF,h5,hu⟩
def SoR(l:List (List Vl)):Prop:=l.Pairwise (fun a b=>dh a b<0)
def lowR(l:List (List Vl))(r:List Vl):Nat:=l.countP (fun x=>decide (dh x r<0))
def da(l:List (List Vl))(r:List Vl):Bool:=l.any (fun x=>dh x r == 0)
theorem fA{l:List (List Vl)}{r:List Vl}:da l r=true↔r∈l:=by
 unfold da
 rw[jM]
 constructor
 ·rintro⟨x,hx,h⟩
  rw[beq_iff_eq,bG.eq]at h
  exact h ▸ hx
 ·exact fun h=>⟨r,h,by rw[beq_iff_eq,bG.eq]⟩
theorem qF{α : Type}(q : α→Bool)(d : α)(l:List α):l.countP q=(List.range l.length).countP (fun i=>q (l.getD i d)):=by
 have e:l=(List.range l.length).map (fun i=>l.getD i d):=by
  apply zf
  ·simp
  ·intro i h1 h2
   simp[jl h1]
 conv=>lhs;rw[e]
 rw[List.countP_map]
 rfl
theorem SoR.lt{l:List (List Vl)}(h:SoR l){i j:Nat}(se:i<j)(hj:j<l.length):dh l[i] l[j]<0:=zk.1 h i j (by omega) hj se
theorem mK(l:List (List Vl))(r:List Vl):lowR l r≤l.length:=List.countP_le_length
theorem lowR_cons(a:List Vl)(l:List (List Vl))(r:List Vl):lowR (a::l) r=lowR l r+if dh a r<0 then 1 else 0:=by
 unfold lowR
 rw[List.countP_cons]
 simp
theorem iE:∀{l:List (List Vl)} {r:List Vl},SoR l→(∀x∈l.take (lowR l r),dh x r<0)∧∀x∈l.drop (lowR l r),¬dh x r<0
 | [],r,_=>by simp
 | a::l,r,h=>by
  have h1:SoR l:=(zL.1 h).2
  have h2:∀b∈l,dh a b<0:=(zL.1 h).1
  rw[lowR_cons]
  by_cases h0:dh a r<0
  ·rw[if_pos h0,List.take_succ_cons,List.drop_succ_cons]
   obtain⟨i1,i2⟩:=iE (r:=r) h1
   exact⟨fun x hx=>by
    rcases jB.1 hx with rfl|hx
    ·exact h0
    ·exact i1 x hx,i2⟩
  ·have h3:lowR l r=0:=by
    unfold lowR
    rw[List.countP_eq_zero]
    intro b hb
    have:=h2 b hb
    simp only[decide_eq_true_eq]
    intro h4
    exact h0 (bG.trans _ _ _ this h4)
   rw[if_neg h0,h3]
   exact⟨fun x hx=>by simp at hx,fun x hx=>by
    simp at hx
    rcases hx with rfl|hx
    ·exact h0
    ·intro h4
     exact h0 (bG.trans _ _ _ (h2 x hx) h4)⟩
theorem p5{l:List (List Vl)}{r:List Vl}(h:SoR l){i:Nat}(hi:i<l.length):dh l[i] r<0↔i<lowR l r:=by
 obtain⟨h1,h2⟩:=iE (r:=r) h
 constructor
 ·intro h3
  rcases jz i (lowR l r) with h4|h4
  ·exact h4
  ·exact absurd h3 (h2 _ (List.mem_drop_iff_getElem.2 ⟨i-lowR l r,by omega,by congr 1;omega⟩))
 ·exact fun h3=>h1 _ (zA.2 ⟨i,by omega,rfl⟩)
theorem pV{l:List (List Vl)}{r:List Vl}(h:SoR l):da l r=true↔∃hl:lowR l r<l.length,dh l[lowR l r] r=0:=by
 rw[fA]
 constructor
 ·intro hm
  obtain⟨i,hi,rfl⟩:=jx hm
  have h1:¬i<lowR l l[i]:=fun h2=>by
   have h3:=(p5 h hi).2 h2
   rw[bG.self]at h3
   omega
  have h2:¬lowR l l[i]<i:=fun h2=>by
   have h3:=h.lt h2 hi
   have h4:=(p5 (r:=l[i]) h (by omega)).1 h3
   omega
  have h3:lowR l l[i]=i:=by omega
  refine⟨by omega,?_⟩
  simp only[h3]
  exact bG.self _
 ·rintro⟨hl,he⟩
  rw[bG.eq]at he
  rw[←he]
  exact jf hl
theorem rF{F G:Nat→Prop}{w:World}{A B:Option Addr}{n c m d g0 g1 g2:Nat}{rows:List (List Vl)}{r:List Vl}(k0:Bk w g0 38 [.slice A n c])(k1:Bk w g1 74 [.slice B m d])(k2:Bk w g2 236 [.slice none 0 0])(hA:Sl aG F w (.slice A n c) rows)(hB:Sl aM G w (.slice B m d) r)(hm:m≤1048576)(hr:∀x∈rows,x.length≤1048576){i:Nat}(hi:i<n)(hn:n≤1048576) :
  Calls Tryz.prog 261 #[.int .i64 (i:Int),.pointer (some ⟨g0,0,none⟩),.pointer (some ⟨g1,0,none⟩),.pointer (some ⟨g2,0,none⟩)] w (fun e w'=>e=.returned (.bool (decide (0≤dh (rows.getD i []) r)))∧Gr w w'):=by
 have sr:=hA.cap.1
 have sh:i<rows.length:=by omega
 have i1:(0:Int)≤(i:Int):=by omega
 have i2:(i:Int)<(n:Int):=by omega
 obtain⟨ad,C,dc,rfl,-,a0,se⟩:=hA.row sh
 have si:=hr _ (jf sh)
 have sj:rows.getD i []=rows[i]:=by simp[jl sh]
 rw[sj]
 obtain⟨x,hx⟩:=sd (rows[i])
 rw[←hx]at a0 se si ⊢
 have HC:=zN (fun (V:World) (hV:Gr w V)=>ik (w:=V) (se.ext hV.ext) (hB.ext hV.ext) si hm)
 obtain⟨z,hz⟩:=sd (dh x r)
 rw[←hz]at HC ⊢
 obtain⟨nx,sp⟩:=sd x.length
 rw[←sp]at a0 HC
 have b0:=k0.c0;have b1:=k1.c0;have b2:=k2.c0
 clear k0 k1 k2 hA hB hr sr sh si sj hx se hz sp
 go_enter Tryz.func261,Tryz.ntmps261
 go_upto_region 1 with fail
 go_region_held3 (fun V=>Gr w V∧V.cell? ⟨g0,0,none⟩=some (.slice (some ad) n c)∧V.cell? ⟨g1,0,none⟩=some (.slice B m d)∧V.cell? ⟨g2,0,none⟩=some (.slice none 0 0)∧V.cell? (ad.add i)=some (.slice C nx dc))
  ((refine(fun he=>⟨he,Gr.cell he b0,Gr.cell he b1,Gr.cell he b2,Gr.cell he a0⟩) ?_;repeat (first|exact Gr.refl _|exact(Gr.refl _).drew|refine Gr.drew ?_|refine Gr.trans ?_ (by assumption))))
  (first
   | (go_at_call 131;(with_reducible refine(HC.out _ (And.left (by assumption))).mono ?_);rintro e wi ⟨rfl,sq⟩))
 have sg:=And.left (b:=_∧_) (by assumption)
 have HX:=zN sg
 clear sg sq b0 b1 b2 a0
 go_wp2_with fail
 go_ret
 exact⟨rfl,HX.out⟩
def SrPost(l:List (List Vl))(r:List Vl)(w:World)(e:Ending)(w':World):Prop:=Ext w w'∧e=.returned (.tuple #[.int .i64 (lowR l r:Int),.bool (da l r)])
theorem rG{F G:Nat→Prop}{w:World}{A B:Option Addr}{n c m d g0 g1 g2:Nat}{rows:List (List Vl)}{r:List Vl}(hS:SoR rows)(k0:Bk w g0 38 [.slice A n c])(k1:Bk w g1 74 [.slice B m d])(k2:Bk w g2 236 [.slice none 0 0])(hA:Sl aG F w (.slice A n c) rows)(hB:Sl aM G w (.slice B m d) r)(hm:m≤1048576)(hr:∀x∈rows,x.length≤1048576)(hn:n≤1048576) :
  Calls Tryz.prog 260 #[.int .i64 (n:Int),.func (.func 261) #[] #[.pointer (some ⟨g0,0,none⟩),.pointer (some ⟨g1,0,none⟩),.pointer (some ⟨g2,0,none⟩)]] w (fun e w'=>e=.returned (.int .i64 (lowR rows r:Int))∧Gr w w'):=by
 have sg:=hA.cap.1
 have hc:=Any.sort_Search Tryz.laySearch 261 #[.pointer (some ⟨g0,0,none⟩),.pointer (some ⟨g1,0,none⟩),.pointer (some ⟨g2,0,none⟩)] n (fun i=>decide (0≤dh (rows.getD i []) r)) w (enters_of Tryz.func261 (by kernel_rfl) rfl) (by omega)
  (fun q os i hi=>rF (w:=Go.Sort.grow (w.drewN q) os) (k0.ext (Gr.ext ⟨q,os,rfl⟩)) (k1.ext (Gr.ext ⟨q,os,rfl⟩)) (k2.ext (Gr.ext ⟨q,os,rfl⟩)) (hA.ext (Gr.ext ⟨q,os,rfl⟩)) (hB.ext (Gr.ext ⟨q,os,rfl⟩)) hm hr hi hn)
  (fun a b sh hb hp=>by
   have ha:a<rows.length:=by omega
   have se:b<rows.length:=by omega
   have e1:rows.getD a []=rows[a]:=by simp[jl ha]
   have e2:rows.getD b []=rows[b]:=by simp[jl se]
   simp only[e1,e2,decide_eq_true_eq]at hp ⊢
   have h1:=p5 (r:=r) hS ha
   have h2:=p5 (r:=r) hS se
   omega)
 change Calls Tryz.prog 260 _ _ _ at hc
 refine hc.mono ?_
 rintro e w' ⟨rfl,hg⟩
 refine⟨?_,hg⟩
 congr 2
 unfold lowR
 rw[qF _ [] rows,←sg]
 congr 2
 funext i
 by_cases h:dh (rows.getD i []) r<0
 ·rw[decide_eq_false (show ¬0≤dh (rows.getD i []) r by omega),decide_eq_true h];rfl
 ·rw[decide_eq_true (show 0≤dh (rows.getD i []) r by omega),decide_eq_false h];rfl
theorem rB{F G:Nat→Prop}{w:World}{A B:Option Addr}{n c m d:Nat}{rows:List (List Vl)}{r:List Vl}(hS:SoR rows)(hA:Sl aG F w (.slice A n c) rows)(hB:Sl aM G w (.slice B m d) r)(hm:m≤1048576)(hr:∀x∈rows,x.length≤1048576)(hn:n≤1048576) :
  Calls Tryz.prog 225 #[.slice A n c,.slice B m d,.slice none 0 0] w (SrPost rows r w):=by
 have sq:=hA.cap.1
 have k3:=dN w 38 74 236 [.slice A n c] [.slice B m d] [.slice none 0 0]
 have hx:Ext w (((w.alloc (.cells #[.slice A n c] 38)).alloc (.cells #[.slice B m d] 74)).alloc (.cells #[.slice none 0 0] 236)):=(((Ext.refl w).alloc _).alloc _).alloc _
 have HA:=zN hA;have HB:=zN hB;have HR:=zN hr;have HS:=zN hS;have su:=zN sq
 have sj:=mK rows r
 rw[←sq]at sj
 clear hA hB hr hS sq
 go_enter Tryz.func225,Tryz.ntmps225
 go_upto_region 1 with fail
 change Bk (((w.alloc (.cells #[.slice A n c] 38)).alloc (.cells #[.slice B m d] 74)).alloc (.cells #[.slice none 0 0] 236)) _ _ _∧Bk (((w.alloc (.cells #[.slice A n c] 38)).alloc (.cells #[.slice B m d] 74)).alloc (.cells #[.slice none 0 0] 236)) _ _ _∧Bk (((w.alloc (.cells #[.slice A n c] 38)).alloc (.cells #[.slice B m d] 74)).alloc (.cells #[.slice none 0 0] 236)) _ _ _ at k3
 generalize (((w.alloc (.cells #[.slice A n c] 38)).alloc (.cells #[.slice B m d] 74)).alloc (.cells #[.slice none 0 0] 236))=w1 at *
 obtain⟨ka,kb,kc⟩:=k3
 have HC:=zN (rG HS.out ka kb kc (HA.out.ext hx) (HB.out.ext hx) hm HR.out hn)
 have a0:=ka.c0;have b0:=kb.c0
 have HX:=zN hx
 clear ka kb kc hx
 go_wp2_with fail
 refine HC.out.mono ?_
 rintro e w2 ⟨rfl,hg⟩
 replace a0:=hg.cell a0;replace b0:=hg.cell b0
 have sh:=zN (HX.out.trans hg.ext)
 obtain⟨q,hq⟩:=sd (lowR rows r)
 have HQ:=zN hq
 rw[←hq]at sj ⊢
 clear hg hq
 by_cases hlt:q<n
 ·have sp:q<rows.length:=by have:=su.out;omega
  have i1:(0:Int)≤(q:Int):=by omega
  have i2:(q:Int)<(n:Int):=by omega
  obtain⟨ad,C,dc,rfl,-,c0,se⟩:=HA.out.row sp
  have sr:=HR.out _ (jf sp)
  have sg:Hid (da rows r=(dh rows[q] r == 0)):=zN (by
   have h1:=pV (r:=r) HS.out
   have e:=HQ.out
   subst e
   apply m9
   rw[h1,beq_iff_eq]
   exact⟨fun ⟨_,h⟩=>h,fun h=>⟨sp,h⟩⟩)
  obtain⟨x,hx⟩:=sd (rows[q])
  rw[←hx]at c0 se sr sg
  obtain⟨nx,sx⟩:=sd x.length
  have HE:=zN (fun (V:World) (hV:Ext w2 V)=>requal_any (w:=V) (se.ext (sh.out.trans hV)) (HB.out.ext (sh.out.trans hV)) sr hm)
  rw[←sx]at c0 HE
  replace c0:=sh.out.cell c0
  obtain⟨z,hz⟩:=sd ((dh x r == 0))
  rw[←hz]at HE sg
  clear hx se sr sx hz
  go_upto_region 2 with fail
  go_region_held3 (fun V=>Ext w2 V∧V.cell? ⟨w.heap.size,0,none⟩=some (.slice (some ad) n c)∧V.cell? ⟨w.heap.size+1,0,none⟩=some (.slice B m d)∧V.cell? (ad.add q)=some (.slice C nx dc))
   ((refine(fun he=>⟨he,Ext.cell he a0,Ext.cell he b0,Ext.cell he c0⟩) ?_;repeat (first|exact Ext.refl _|exact(Ext.refl _).drew|refine Ext.drew ?_|refine Ext.trans ?_ (by assumption))))
   (first
    | (go_at_call 262;(with_reducible refine(HE.out _ (And.left (by assumption))).mono ?_);rintro e wi ⟨rfl,sw⟩;have sB:=Gr.ext sw))
  have si:=And.left (b:=_∧_) (by assumption)
  have sy:=zN (sh.out.trans si)
  clear si sB sw a0 b0 c0
  go_wp2_with fail
  go_ret2
  exact⟨sy.out,by rw[sg.out,←HQ.out];rfl⟩
 ·have i2:¬(q:Int)<(n:Int):=by omega
  have sg:Hid (da rows r=false):=zN (by
   cases h:da rows r with
   | false=>rfl
   | true =>
    obtain⟨hl,-⟩:=(pV HS.out).1 h
    have:=HQ.out;have:=su.out
    omega)
  go_upto_region 2 with fail
  go_quiet (fail)
  have sA:=zN (sh.out.drewN nq)
  generalize (w2.drewN nq)=Y at *
  clear a0 b0
  go_wp2_with fail
  go_ret2
  exact⟨sA.out,by rw[sg.out,←HQ.out];rfl⟩
structure OwR(F:Nat→Prop)(w:World)(base:Nat)(v:Value)(n:Nat)(us:List Value)(rows:List (List Vl)):Prop where
 own:w.ownsRow base 74 1 v n us
 len:us.length=rows.length
 rd:∀i (h:i<rows.length) (h':i<us.length),Sl aM (fun k=>F k∧v.ownBlock≠some k) w us[i] rows[i]
theorem OwR.num{F:Nat→Prop}{w:World}{base n:Nat}{v:Value}{us:List Value}{rows:List (List Vl)}(h:OwR F w base v n us rows):n=us.length:=by
 have:=h.own.1
 omega
theorem OwR.ext{F:Nat→Prop}{w w':World}{base n:Nat}{v:Value}{us:List Value}{rows:List (List Vl)}(h:OwR F w base v n us rows)(he:Ext w w'):OwR F w' base v n us rows:=⟨aD h.own he,h.len,fun i hi h'=>(h.rd i hi h').ext he⟩
theorem OwR.fr{F S:Nat→Prop}{w w':World}{base n:Nat}{v:Value}{us:List Value}{rows:List (List Vl)}(h:OwR F w base v n us rows)(hf:Fr S w w')(h1:∀k,v.ownBlock=some k→¬S k)(h2:∀k,F k→¬S k):OwR F w' base v n us rows:=⟨bo h.own hf h1,h.len,fun i hi h'=>(h.rd i hi h').fr hf (fun k hk=>h2 k hk.1)⟩
theorem OwR.sl{F G:Nat→Prop}{w:World}{base n:Nat}{v:Value}{us:List Value}{rows:List (List Vl)}(h:OwR F w base v n us rows)(hg:∀k,v.ownBlock=some k→G k)(hF:∀k,F k→G k):Sl aG G w v rows:=by
 have hn:=h.num
 have hl:=h.len
 obtain⟨A,c,rfl,hc,sh⟩:=Cl.of_own h.own
 refine⟨A,c,by rw[hn,hl],by omega,fun i hi=>?_⟩
 have sg:i<us.length:=by omega
 obtain⟨ad,rfl,hk,se⟩:=sh.at' (j:=i) (jl sg)
 refine⟨ad,[us[i]],rfl,hg _ hk.1,⟨us[i],rfl,(h.rd i hi sg).mono (by decide) (fun k _ hk=>hF k hk.1)⟩,fun j hj=>?_⟩
 obtain rfl:j=0:=by simp at hj;omega
 have e:i*aG.sz+0=i:=by show i*1+0=i;omega
 rw[e]
 exact se
theorem OwR.more{F:Nat→Prop}{w wb w9:World}{base n:Nat}{v v9 u:Value}{us:List Value}{rows:List (List Vl)}{x:List Vl}(h:OwR F w base v n us rows)(he:Ext w wb)(hx:Sl aM F wb u x)(hF:∀k,F k→k<base)(hr:w9.ownsRow base 74 1 v9 (n+1) (us++[u]))(hg:wb.grownBy w9 v.ownBlock):OwR F w9 base v9 (n+1) (us++[u]) (rows++[x]):=by
 have h9:∀k,F k→v9.ownBlock≠some k:=fun k hk e=>by
  have h1:=aw hr e
  have h2:=hF k hk
  omega
 have h0:∀k,F k→v.ownBlock≠some k:=fun k hk e=>by
  have h1:=aw h.own e
  have h2:=hF k hk
  omega
 have hl:=h.len
 refine⟨hr,by simp[hl],fun i hi sg=>?_⟩
 rcases jz i rows.length with se|se
 ·rw[jw se,jw (by omega)]
  exact((((h.rd i se (by omega)).ext he).fr (am hg) (fun k hk e=>h0 k hk.1 e))).mono (by decide) (fun k _ hk=>⟨hk.1,h9 k hk.1⟩)
 ·have e:i=rows.length:=by simp at hi;omega
  subst e
  rw[jv (jo _),jv (by omega)]
  simp only[hl,zm,ja]
  exact(hx.fr (am hg) (fun k hk e=>h0 k hk e)).mono (by decide) (fun k _ hk=>⟨hk,h9 k hk⟩)
theorem OwR.nil(F:Nat→Prop)(w:World)(base:Nat):OwR F w base (.slice none 0 0) 0 [] []:=⟨World.ownsRow_nil _ _ _ _,rfl,fun i h=>by simp at h⟩
abbrev zv:Vl:=⟨0,0,⟨#[]⟩⟩
end Go.Proofs.YtplldnnnhgnbjaaGreatDoor
