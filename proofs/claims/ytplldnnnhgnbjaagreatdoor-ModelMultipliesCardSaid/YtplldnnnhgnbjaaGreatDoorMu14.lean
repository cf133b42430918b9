/- packed -/
import Derived.Test.YtplldnnnhgnbjaaGreatDoorMu13
import Derived.Sort.Grow
import Derived.Lib.Bytealg
import Derived.Lib.Small
import Derived.Deep.Draws
namespace Go.Proofs.YtplldnnnhgnbjaaGreatDoor
open Go.RowKit Go.Maps
structure Cmp{α : Type}(c : α→α→Int):Prop where
 val:∀a b,c a b = -1∨c a b=0∨c a b=1
 eq:∀a b,c a b=0↔a=b
 anti:∀a b,c b a = - c a b
 trans:∀a b d,c a b<0→c b d<0→c a d<0
section
variable {α β : Type} {c : α→α→Int} {d : β→β→Int}
theorem Cmp.self(h:Cmp c)(a : α):c a a=0:=(h.eq a a).2 rfl
def seqC(c : α→α→Int)(d : β→β→Int)(x y : α×β):Int:=if c x.1 y.1=0 then d x.2 y.2 else c x.1 y.1
theorem Cmp.seq(h:Cmp c)(k:Cmp d):Cmp (seqC c d) where
 val:=fun x y=>by
  unfold seqC
  split
  ·exact k.val _ _
  ·exact h.val _ _
 eq:=fun x y=>by
  unfold seqC
  by_cases h0:c x.1 y.1=0
  ·rw[if_pos h0,k.eq]
   have h1:=(h.eq _ _).1 h0
   constructor
   ·exact fun h2=>Prod.ext h1 h2
   ·exact fun h2=>h2 ▸ rfl
  ·rw[if_neg h0]
   constructor
   ·exact fun h1=>absurd h1 h0
   ·exact fun h1=>absurd ((h.eq _ _).2 (h1 ▸ rfl)) h0
 anti:=fun x y=>by
  unfold seqC
  have h1:=h.anti x.1 y.1
  by_cases h0:c x.1 y.1=0
  ·rw[if_pos h0,if_pos (by omega),k.anti]
  ·rw[if_neg h0,if_neg (by omega),h1]
 trans:=fun x y z=>by
  unfold seqC
  by_cases h0:c x.1 y.1=0
  ·rw[if_pos h0,(h.eq _ _).1 h0]
   intro h1
   by_cases h2:c y.1 z.1=0
   ·rw[if_pos h2,if_pos h2];exact fun h3=>k.trans _ _ _ h1 h3
   ·rw[if_neg h2,if_neg h2];exact fun h3=>h3
  ·rw[if_neg h0]
   intro h1
   by_cases h2:c y.1 z.1=0
   ·rw[if_pos h2,←(h.eq _ _).1 h2,if_neg h0];exact fun _=>h1
   ·rw[if_neg h2]
    intro h3
    have h4:=h.trans _ _ _ h1 h3
    rw[if_neg (by omega)]
    exact h4
theorem Cmp.map(h:Cmp d)(f : α→β)(hf:∀a b,f a=f b→a=b):Cmp (fun a b=>d (f a) (f b)) where
 val:=fun _ _=>h.val _ _
 eq:=fun a b=>by
  rw[h.eq]
  exact⟨hf a b,fun e=>e ▸ rfl⟩
 anti:=fun _ _=>h.anti _ _
 trans:=fun _ _ _=>h.trans _ _ _
def lexC(c : α→α→Int):List α→List α→Int
 | [],[]=>0
 | [],_::_=>-1
 | _::_,[]=>1
 | a::l,b::m=>if c a b=0 then lexC c l m else c a b
theorem Cmp.lex(h:Cmp c):Cmp (lexC c) where
 val:=fun x=>by
  induction x with
  | nil=>intro y;cases y <;> simp[lexC]
  | cons a x ih =>
   intro y
   cases y with
   | nil=>simp[lexC]
   | cons b y =>
    unfold lexC
    split
    ·exact ih y
    ·exact h.val _ _
 eq:=fun x=>by
  induction x with
  | nil=>intro y;cases y <;> simp[lexC]
  | cons a x ih =>
   intro y
   cases y with
   | nil=>simp[lexC]
   | cons b y =>
    unfold lexC
    by_cases h0:c a b=0
    ·rw[if_pos h0,ih,(h.eq _ _).1 h0]
     simp
    ·rw[if_neg h0]
     constructor
     ·exact fun h1=>absurd h1 h0
     ·intro h1
      injection h1 with h1 h2
      exact absurd ((h.eq _ _).2 h1) h0
 anti:=fun x=>by
  induction x with
  | nil=>intro y;cases y <;> simp[lexC]
  | cons a x ih =>
   intro y
   cases y with
   | nil=>simp[lexC]
   | cons b y =>
    unfold lexC
    have h1:=h.anti a b
    by_cases h0:c a b=0
    ·rw[if_pos h0,if_pos (by omega),ih]
    ·rw[if_neg h0,if_neg (by omega),h1]
 trans:=fun x=>by
  induction x with
  | nil =>
   intro y z
   cases y with
   | nil=>exact fun h=>absurd h (by simp[lexC])
   | cons b y=>cases z <;> simp[lexC]
  | cons a x ih =>
   intro y z
   cases y with
   | nil=>exact fun h=>absurd h (by simp[lexC])
   | cons b y =>
    cases z with
    | nil=>exact fun _ h=>absurd h (by simp[lexC])
    | cons d z =>
     unfold lexC
     by_cases h0:c a b=0
     ·rw[if_pos h0,(h.eq _ _).1 h0]
      intro h1
      by_cases h2:c b d=0
      ·rw[if_pos h2,if_pos h2];exact fun h3=>ih _ _ h1 h3
      ·rw[if_neg h2,if_neg h2];exact fun h3=>h3
     ·rw[if_neg h0]
      intro h1
      by_cases h2:c b d=0
      ·rw[if_pos h2,←(h.eq _ _).1 h2,if_neg h0];exact fun _=>h1
      ·rw[if_neg h2]
       intro h3
       have h4:=h.trans _ _ _ h1 h3
       rw[if_neg (by omega)]
       exact h4
theorem Cmp.lt_gt(h:Cmp c){a b : α} : 0<c a b↔c b a<0:=by have:=h.anti a b;omega
theorem Cmp.le_trans(h:Cmp c){a b d : α}(h1:c a b≤0)(h2:c b d≤0):c a d≤0:=by
 by_cases e1:c a b=0
 ·rw[(h.eq _ _).1 e1];exact h2
 ·by_cases e2:c b d=0
  ·rw[←(h.eq _ _).1 e2];exact h1
  ·have:=h.trans a b d (by omega) (by omega)
   omega
end
theorem cmp_int:Cmp Lib.compareInt where
 val:=fun a b=>by unfold Lib.compareInt;split <;> (try split) <;> simp
 eq:=fun a b=>by unfold Lib.compareInt;split <;> (try split) <;> (constructor <;> intro h <;> omega)
 anti:=fun a b=>by unfold Lib.compareInt;split <;> split <;> (try split) <;> (try split) <;> omega
 trans:=fun a b d=>by unfold Lib.compareInt;intro h1 h2;split at h1 <;> (try split at h1) <;> split at h2 <;> (try split at h2) <;> first|omega|(rw[if_pos (by omega)];omega)
def byteC(a b:UInt8):Int:=Lib.compareInt (a.toNat:Int) (b.toNat:Int)
theorem cmp_byte:Cmp byteC:=cmp_int.map (fun a:UInt8=>(a.toNat:Int)) (fun a b h=>UInt8.toNat_inj.1 (by omega))
theorem bytes_lex:∀a b:List UInt8,Lib.compareBytes a b=lexC byteC a b
 | [],[]=>rfl
 | [],_::_=>rfl
 | _::_,[]=>rfl
 | a::l,b::m=>by
  unfold Lib.compareBytes lexC
  rw[bytes_lex l m]
  unfold byteC Lib.compareInt
  by_cases h1:a<b
  ·have h2:(a.toNat:Int)<b.toNat:=by have:=UInt8.lt_iff_toNat_lt.1 h1;omega
   rw[if_pos h1,if_pos h2]
   rfl
  ·have h2:¬(a.toNat:Int)<b.toNat:=fun h=>h1 (UInt8.lt_iff_toNat_lt.2 (by omega))
   rw[if_neg h1,if_neg h2]
   by_cases h3:b<a
   ·have h4:(a.toNat:Int) > b.toNat:=by have:=UInt8.lt_iff_toNat_lt.1 h3;omega
    rw[if_pos h3,if_pos h4]
    rfl
   ·have h4:¬(a.toNat:Int) > b.toNat:=fun h=>h3 (UInt8.lt_iff_toNat_lt.2 (by omega))
    rw[if_neg h3,if_neg h4]
    rfl
def strC(a b:ByteArray):Int:=Lib.compareBytes a.data.toList b.data.toList
theorem cmp_str:Cmp strC:=by
 have h:=(cmp_byte.lex).map (fun s:ByteArray=>s.data.toList) (fun a b h=>by
  cases a;cases b;simp at h;rw[h])
 have e:strC=fun a b=>lexC byteC a.data.toList b.data.toList:=by
  funext a b
  exact bytes_lex _ _
 rw[e]
 exact h
def cmpV(a b:Vl):Int:=if a.kind≠b.kind then Lib.compareInt a.kind b.kind else if a.int≠b.int then Lib.compareInt a.int b.int else strC a.str b.str
theorem cmp_vl:Cmp cmpV:=by
 have h:=(cmp_int.seq (cmp_int.seq cmp_str)).map (fun v:Vl=>(v.kind,v.int,v.str)) (fun a b h=>by
  cases a;cases b;simp at h;simp[h])
 have e:cmpV=fun a b=>seqC Lib.compareInt (seqC Lib.compareInt strC) (a.kind,a.int,a.str) (b.kind,b.int,b.str):=by
  funext a b
  unfold cmpV seqC
  by_cases h1:a.kind=b.kind
  ·rw[if_neg (by simpa using h1),if_pos ((cmp_int.eq _ _).2 h1)]
   by_cases h2:a.int=b.int
   ·rw[if_neg (by simpa using h2)]
    show _=if Lib.compareInt a.int b.int=0 then _ else _
    rw[if_pos ((cmp_int.eq _ _).2 h2)]
   ·rw[if_pos h2]
    show _=if Lib.compareInt a.int b.int=0 then _ else _
    rw[if_neg (fun h=>h2 ((cmp_int.eq _ _).1 h))]
  ·rw[if_pos h1,if_neg (fun h=>h1 ((cmp_int.eq _ _).1 h))]
 rw[e]
 exact h
def cmpR:List Vl→List Vl→Int:=lexC cmpV
theorem cmp_row:Cmp cmpR:=cmp_vl.lex
def Gr(w w':World):Prop:=∃q os,w'=Go.Sort.grow (w.drewN q) os
theorem Gr.refl(w:World):Gr w w:=⟨0,#[],by simp[World.drewN]⟩
theorem Gr.drewN{a w:World}(h:Gr a w)(n:Nat):Gr a (w.drewN n):=by
 obtain⟨q,os,rfl⟩:=h
 exact⟨q+n,os,by simp[Go.Sort.grow,World.drewN,Nat.add_assoc]⟩
theorem Gr.drew{a w:World}(h:Gr a w):Gr a w.drew:=h.drewN 1
theorem Gr.alloc{a w:World}(h:Gr a w)(o:Obj):Gr a (w.alloc o):=by
 obtain⟨q,os,rfl⟩:=h
 exact⟨q,os.push o,by simp[Go.Sort.grow,World.alloc]⟩
theorem Gr.trans{a b d:World}(h:Gr a b)(k:Gr b d):Gr a d:=by
 obtain⟨q,os,rfl⟩:=h
 obtain⟨q2,os2,rfl⟩:=k
 exact⟨q+q2,os++os2,by simp[Go.Sort.grow,World.drewN,Nat.add_assoc,Array.append_assoc]⟩
theorem Gr.ext{a b:World}(h:Gr a b):Ext a b:=by
 obtain⟨q,os,rfl⟩:=h
 refine⟨rfl,rfl,rfl,by simp[Go.Sort.grow,World.drewN],fun k hk=>?_⟩
 show (a.heap++os)[k]?=_
 rw[Array.getElem?_append_left hk]
theorem Gr.cell{a b:World}(h:Gr a b){p:Addr}{v:Value}(hc:a.cell? p=some v):b.cell? p=some v:=h.ext.cell hc
theorem nan64(x:Int)(w:World):Calls Tryz.prog 246 #[.int .i64 x] w (fun e w'=>e=.returned (.bool false)∧w=w'):=by
 have hb:(x != x)=false:=by simp
 go_enter Tryz.func246,Tryz.ntmps246
 go_wp2_with fail
 go_ret
 exact⟨rfl,rfl⟩
theorem cmp64(x y:Int)(w:World):Calls Tryz.prog 198 #[.int .i64 x,.int .i64 y] w (fun e w'=>e=.returned (.int .i64 (Lib.compareInt x y))∧w=w'):=by
 by_cases h1:x<y
 ·rw[show Lib.compareInt x y = -1 by unfold Lib.compareInt;rw[if_pos h1]]
  go_enter Tryz.func198,Tryz.ntmps198
  go_wp2_with fail
  refine(nan64 x _).mono ?_
  rintro e w2 ⟨rfl,rfl⟩
  go_wp2_with fail
  refine(nan64 y _).mono ?_
  rintro e w2 ⟨rfl,rfl⟩
  go_wp2_with fail
  go_ret
  exact⟨rfl,rfl⟩
 ·by_cases h2:y<x
  ·rw[show Lib.compareInt x y=1 by unfold Lib.compareInt;rw[if_neg h1,if_pos h2]]
   go_enter Tryz.func198,Tryz.ntmps198
   go_wp2_with fail
   refine(nan64 x _).mono ?_
   rintro e w2 ⟨rfl,rfl⟩
   go_wp2_with fail
   refine(nan64 y _).mono ?_
   rintro e w2 ⟨rfl,rfl⟩
   go_wp2_with fail
   go_ret
   exact⟨rfl,rfl⟩
  ·rw[show Lib.compareInt x y=0 by unfold Lib.compareInt;rw[if_neg h1,if_neg (show ¬x > y from h2)]]
   go_enter Tryz.func198,Tryz.ntmps198
   go_wp2_with fail
   refine(nan64 x _).mono ?_
   rintro e w2 ⟨rfl,rfl⟩
   go_wp2_with fail
   refine(nan64 y _).mono ?_
   rintro e w2 ⟨rfl,rfl⟩
   go_wp2_with fail
   go_ret
   exact⟨rfl,rfl⟩
set_option maxRecDepth 20000 in
set_option maxHeartbeats 1600000 in
theorem vcomp_any(a b:Vl)(w:World) :
  Calls Tryz.prog 127 #[.agg #[.int .i64 a.kind,.int .i64 a.int,.string a.str],.agg #[.int .i64 b.kind,.int .i64 b.int,.string b.str]] w (fun e w'=>e=.returned (.int .i64 (cmpV a b))∧Gr w w'):=by
 obtain⟨ak,an,as'⟩:=a
 obtain⟨bk,bn,bs⟩:=b
 obtain⟨z,hz⟩:∃z,z=cmpV ⟨ak,an,as'⟩ ⟨bk,bn,bs⟩:=⟨_,rfl⟩
 rw[←hz]
 simp only
 have HZ:=zO hz
 clear hz
 have k2:=two_blk w 51 51 [.int .i64 ak,.int .i64 an,.string as'] [.int .i64 bk,.int .i64 bn,.string bs]
 change Bk ((w.alloc (.cells #[.int .i64 ak,.int .i64 an,.string as'] 51)).alloc (.cells #[.int .i64 bk,.int .i64 bn,.string bs] 51)) _ _ _∧Bk ((w.alloc (.cells #[.int .i64 ak,.int .i64 an,.string as'] 51)).alloc (.cells #[.int .i64 bk,.int .i64 bn,.string bs] 51)) _ _ _ at k2
 have hx1:Gr w ((w.alloc (.cells #[.int .i64 ak,.int .i64 an,.string as'] 51)).alloc (.cells #[.int .i64 bk,.int .i64 bn,.string bs] 51)):=((Gr.refl w).alloc _).alloc _
 go_enter Tryz.func127,Tryz.ntmps127
 go_upto_region 1 with fail
 generalize ((w.alloc (.cells #[.int .i64 ak,.int .i64 an,.string as'] 51)).alloc (.cells #[.int .i64 bk,.int .i64 bn,.string bs] 51))=w1 at *
 obtain⟨ka,kb⟩:=k2
 have a0:=ka.cell (i:=0) (by simp);have a1:=ka.cell (i:=1) (by simp);have a2:=ka.cell (i:=2) (by simp)
 have b0:=kb.cell (i:=0) (by simp);have b1:=kb.cell (i:=1) (by simp);have b2:=kb.cell (i:=2) (by simp)
 simp only[ja,je]at a0 a1 a2 b0 b1 b2
 have HX:=zO hx1
 clear ka kb hx1
 by_cases hk:ak=bk
 ·have g1:(ak != bk)=false:=by simpa using hk
  by_cases hn:an=bn
  ·have g2:(an != bn)=false:=by simpa using hn
   have HQ:Hid (z=strC as' bs):=zO (by rw[HZ.out];unfold cmpV;rw[if_neg (by simpa using hk),if_neg (by simpa using hn)])
   clear hk hn
   go_wp2_with fail
   refine(Tryz.strings_Compare as' bs _).mono ?_
   rintro e w2 ⟨rfl,rfl⟩
   go_wp2_with fail
   go_ret
   exact⟨by rw[HQ.out];rfl,HX.out⟩
  ·have g2:(an != bn)=true:=by simpa using hn
   have HQ:Hid (z=Lib.compareInt an bn):=zO (by rw[HZ.out];unfold cmpV;rw[if_neg (by simpa using hk),if_pos hn])
   clear hk hn
   go_wp2_with fail
   refine(cmp64 an bn _).mono ?_
   rintro e w2 ⟨rfl,rfl⟩
   go_wp2_with fail
   go_ret
   exact⟨by rw[HQ.out];rfl,HX.out⟩
 ·have g1:(ak != bk)=true:=by simpa using hk
  have HQ:Hid (z=Lib.compareInt ak bk):=zO (by rw[HZ.out];unfold cmpV;rw[if_pos hk])
  clear hk
  go_wp2_with fail
  refine(Tryz.cmp_Compare_int ak bk _).mono ?_
  rintro e w2 ⟨rfl,rfl⟩
  go_wp2_with fail
  go_ret
  exact⟨by rw[HQ.out];rfl,HX.out⟩
theorem lexC_at{α : Type}{c : α→α→Int}:∀{xs ys:List α} {i:Nat},i≤xs.length→i≤ys.length→lexC c (xs.take i) (ys.take i)=0→lexC c xs ys=lexC c (xs.drop i) (ys.drop i)
 | _,_,0,_,_,_=>by simp
 | a::xs,b::ys,i+1,h1,h2,h=>by
  simp only[List.take_succ_cons,lexC]at h
  simp only[List.drop_succ_cons]
  by_cases h0:c a b=0
  ·rw[if_pos h0]at h
   rw[←lexC_at (by simpa using h1) (by simpa using h2) h]
   simp only[lexC]
   rw[if_pos h0]
  ·rw[if_neg h0]at h
   exact absurd h h0
theorem lexC_take{α : Type}{c : α→α→Int}:∀{xs ys:List α} {i:Nat} (h1:i<xs.length) (h2:i<ys.length),lexC c (xs.take i) (ys.take i)=0→c xs[i] ys[i]=0→lexC c (xs.take (i+1)) (ys.take (i+1))=0
 | a::xs,b::ys,0,_,_,_,h=>by
  simp only[ja]at h
  simp[lexC,h]
 | a::xs,b::ys,i+1,h1,h2,h,k=>by
  simp only[List.take_succ_cons,lexC]at h ⊢
  simp only[je]at k
  by_cases h0:c a b=0
  ·rw[if_pos h0]at h ⊢
   exact lexC_take (by simpa using h1) (by simpa using h2) h k
  ·rw[if_neg h0]at h
   exact absurd h h0
set_option maxRecDepth 20000 in
set_option maxHeartbeats 1600000 in
theorem rcompby_any{F G:Nat→Prop}{w:World}{A B:Option Addr}{n c m d:Nat}{xs ys:List Vl}(hA:Sl rdVl F w (.slice A n c) xs)(hB:Sl rdVl G w (.slice B m d) ys)(hn:n≤1048576)(hm:m≤1048576) :
  Calls Tryz.prog 131 #[.slice A n c,.slice B m d,.slice none 0 0] w (fun e w'=>e=.returned (.int .i64 (cmpR xs ys))∧Gr w w'):=by
 have hxn:=hA.cap.1;have hyn:=hB.cap.1
 have HA:=zO hA;have HB:=zO hB;have HXN:=zO hxn;have HYN:=zO hyn
 obtain⟨z,hz⟩:∃z,z=cmpR xs ys:=⟨_,rfl⟩
 rw[←hz]
 have HZ:=zO hz
 obtain⟨p,hp⟩:∃p,p=min n m:=⟨_,rfl⟩
 have hpn:p≤n:=by omega
 have hpm:p≤m:=by omega
 have HP:=zO hp
 have hmin:min (n:Int) (m:Int)=(p:Int):=by omega
 clear hA hB hxn hyn hz hp
 go_enter Tryz.func131,Tryz.ntmps131
 go_wp2_with fail
 go_loopw [14] (fun t wr=>∃i:Nat,i≤p∧t=.int .i64 (i:Int)∧Hid (lexC cmpV (xs.take i) (ys.take i)=0)∧Gr w wr) (fun t _=>p-(intOf t).toNat)
 case atStart=>exact⟨0,jn _,rfl,zO (by simp[lexC]),Gr.refl _⟩
 case round =>
  obtain⟨i,hi,rfl,HE,hgr⟩:=hrel
  obtain⟨W,rfl⟩:∃W:World,W=wr:=⟨_,rfl⟩
  have HG:=zO hgr
  by_cases hlt:i<p
  ·have i1:(0:Int)≤(i:Int):=by omega
   have i2:(i:Int)<(p:Int):=by omega
   have i3:(i:Int)<(n:Int):=by omega
   have i4:(i:Int)<(m:Int):=by omega
   have hix:i<xs.length:=by have:=HXN.out;omega
   have hiy:i<ys.length:=by have:=HYN.out;omega
   obtain⟨ad,rfl,-,a0,a1,a2⟩:=HA.out.vl hix
   obtain⟨bd,rfl,-,b0,b1,b2⟩:=HB.out.vl hiy
   replace a0:=hgr.cell a0;replace a1:=hgr.cell a1;replace a2:=hgr.cell a2;replace b0:=hgr.cell b0;replace b1:=hgr.cell b1;replace b2:=hgr.cell b2
   have hcut:lexC cmpV xs ys=lexC cmpV (xs.drop i) (ys.drop i):=lexC_at (by omega) (by omega) HE.out
   have hstep:cmpV xs[i] ys[i]=0→lexC cmpV (xs.take (i+1)) (ys.take (i+1))=0:=lexC_take hix hiy HE.out
   have hstop:cmpV xs[i] ys[i]≠0→z=cmpV xs[i] ys[i]:=fun h=>by
    rw[HZ.out]
    unfold cmpR
    rw[hcut,zj hix,zj hiy]
    show (if cmpV xs[i] ys[i]=0 then _ else _)=_
    rw[if_neg h]
   have HV:=zO (fun (V:World)=>vcomp_any xs[i] ys[i] V)
   obtain⟨x,hx⟩:∃x,x=xs[i]:=⟨_,rfl⟩
   obtain⟨y,hy⟩:∃y,y=ys[i]:=⟨_,rfl⟩
   rw[←hx]at a0 a1 a2 hstep hstop HV
   rw[←hy]at b0 b1 b2 hstep hstop HV
   obtain⟨xk,xn,xs'⟩:=x
   obtain⟨yk,yn,ys'⟩:=y
   simp only at a0 a1 a2 b0 b1 b2 HV
   have HST:=zO hstep;have HSP:=zO hstop
   clear hx hy hcut hstep hstop hgr
   go_upto_region 4 with fail
   go_region_held3 (fun V=>Gr W V∧V.cell? (ad.add (i*3))=some (.int .i64 xk)∧V.cell? ⟨(ad.add (i*3)).block,(ad.add (i*3)).off+1,none⟩=some (.int .i64 xn)∧V.cell? ⟨(ad.add (i*3)).block,(ad.add (i*3)).off+2,none⟩=some (.string xs')∧V.cell? (bd.add (i*3))=some (.int .i64 yk)∧V.cell? ⟨(bd.add (i*3)).block,(bd.add (i*3)).off+1,none⟩=some (.int .i64 yn)∧V.cell? ⟨(bd.add (i*3)).block,(bd.add (i*3)).off+2,none⟩=some (.string ys'))
    ((refine(fun he=>⟨he,Gr.cell he a0,Gr.cell he a1,Gr.cell he a2,Gr.cell he b0,Gr.cell he b1,Gr.cell he b2⟩) ?_;repeat (first|exact Gr.refl _|exact(Gr.refl _).drew|refine Gr.drew ?_|refine Gr.trans ?_ (by assumption))))
    (first
     | (go_at_call 127;(with_reducible refine(HV.out _).mono ?_);rintro e wi ⟨rfl,hei⟩))
   have hfin:=And.left (b:=_∧_) (by assumption)
   obtain⟨X,rfl⟩:∃X:World,X=wi:=⟨_,rfl⟩
   have HX:=zO (HG.out.trans hfin)
   obtain⟨q,hq⟩:∃q,q=cmpV ⟨xk,xn,xs'⟩ ⟨yk,yn,ys'⟩:=⟨_,rfl⟩
   rw[←hq]at HST HSP ⊢
   clear hfin hei a0 a1 a2 b0 b1 b2 hq
   by_cases hq0:q=0
   ·subst hq0
    have HS:=zO (HST.out rfl)
    go_wp2_with fail
    go_roundw
    case rel=>exact⟨i+1,by omega,by go_num,HS,HX.out⟩
    case measure=>simp[intOf];omega
   ·have HS:=zO (HSP.out hq0)
    have hqb:(q == 0)=false:=by simpa using hq0
    clear hq0
    go_wp2_with fail
    go_ret
    exact⟨by rw[HS.out];rfl,HX.out⟩
  ·obtain rfl:i=p:=by omega
   have hdi:¬(i:Int)<(i:Int):=by omega
   have hcut:lexC cmpV xs ys=lexC cmpV (xs.drop i) (ys.drop i):=lexC_at (by have:=HXN.out;omega) (by have:=HYN.out;omega) HE.out
   have hz2:z=lexC cmpV (xs.drop i) (ys.drop i):=by rw[HZ.out];exact hcut
   have hl1:(xs.drop i).length=n-i:=by rw[jZ,←HXN.out]
   have hl2:(ys.drop i).length=m-i:=by rw[jZ,←HYN.out]
   have HP2:=HP.out
   obtain⟨l1,h1⟩:∃l,l=xs.drop i:=⟨_,rfl⟩
   obtain⟨l2,h2⟩:∃l,l=ys.drop i:=⟨_,rfl⟩
   rw[←h1]at hl1 hz2
   rw[←h2]at hl2 hz2
   clear h1 h2 hcut hgr
   by_cases hnm:n<m
   ·have HQ:Hid (z = -1):=zO (by
     rw[hz2]
     cases l1 with
     | nil=>cases l2 with
      | nil=>simp at hl2;omega
      | cons _ _=>rfl
     | cons _ _=>simp at hl1;omega)
    have g1:(n:Int)<(m:Int):=by omega
    clear hz2 hl1 hl2 HP2
    go_wp2_with fail
    go_ret
    exact⟨by rw[HQ.out];rfl,HG.out⟩
   ·have g1:¬(n:Int)<(m:Int):=by omega
    by_cases hmn:m<n
    ·have HQ:Hid (z=1):=zO (by
      rw[hz2]
      cases l2 with
      | nil=>cases l1 with
       | nil=>simp at hl1;omega
       | cons _ _=>rfl
      | cons _ _=>simp at hl2;omega)
     have g2:(m:Int)<(n:Int):=by omega
     clear hz2 hl1 hl2 HP2
     go_wp2_with fail
     go_ret
     exact⟨by rw[HQ.out];rfl,HG.out⟩
    ·have HQ:Hid (z=0):=zO (by
      rw[hz2]
      cases l2 with
      | nil=>cases l1 with
       | nil=>rfl
       | cons _ _=>simp at hl1;omega
      | cons _ _=>simp at hl2;omega)
     have g2:¬(m:Int)<(n:Int):=by omega
     clear hz2 hl1 hl2 HP2
     go_wp2_with fail
     go_ret
     exact⟨by rw[HQ.out];rfl,HG.out⟩
theorem rcomp_any{F G:Nat→Prop}{w:World}{A B:Option Addr}{n c m d:Nat}{xs ys:List Vl}(hA:Sl rdVl F w (.slice A n c) xs)(hB:Sl rdVl G w (.slice B m d) ys)(hn:n≤1048576)(hm:m≤1048576) :
  Calls Tryz.prog 293 #[.slice A n c,.slice B m d] w (fun e w'=>e=.returned (.int .i64 (cmpR xs ys))∧Gr w w'):=by
 have H:=zO (rcompby_any hA hB hn hm)
 clear hA hB
 go_enter Tryz.func293,Tryz.ntmps293
 go_wp2_with fail
 refine H.out.mono ?_
 rintro e w2 ⟨rfl,hg⟩
 have HG:=zO hg
 clear hg
 go_wp2_with fail
 go_ret
 exact⟨rfl,HG.out⟩
theorem requal_any{F G:Nat→Prop}{w:World}{A B:Option Addr}{n c m d:Nat}{xs ys:List Vl}(hA:Sl rdVl F w (.slice A n c) xs)(hB:Sl rdVl G w (.slice B m d) ys)(hn:n≤1048576)(hm:m≤1048576) :
  Calls Tryz.prog 262 #[.slice A n c,.slice B m d] w (fun e w'=>e=.returned (.bool (cmpR xs ys == 0))∧Gr w w'):=by
 have H:=zO (rcomp_any hA hB hn hm)
 obtain⟨z,hz⟩:∃z,z=cmpR xs ys:=⟨_,rfl⟩
 rw[←hz]at H ⊢
 clear hA hB hz
 go_enter Tryz.func262,Tryz.ntmps262
 go_wp2_with fail
 refine H.out.mono ?_
 rintro e w2 ⟨rfl,hg⟩
 have HG:=zO hg
 clear hg
 go_wp2_with fail
 go_ret
 exact⟨rfl,HG.out⟩
