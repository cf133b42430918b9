/- packed -/
import Derived.Test.YtplldnnnhgnbjaaGreatDoorMv36
namespace Go.Proofs.YtplldnnnhgnbjaaGreatDoor
open Go.RowKit Go.Maps Go.Sort Go.Shelf Go.Lib
open Go.Proofs (Row1 SW CmpLays1 OneCell)
section
variable {α : Type} [Inhabited α] {enc : α→Value} {w0:World} {blk off:Nat} {d0:Array α}
set_option maxRecDepth 100000 in
set_option maxHeartbeats 6400000 in
theorem symC1{w:World}{cap cg a m b md n:Nat}{cb:Array Value}{cf : α→α→Int}(R:Row1 enc w0 blk off d0)(eg:∀args w,(callFunc cg args).run Tryz.prog w=.ok (.enter cg args) w)(hC:CmpLays1 Tryz.prog cg cb enc cf blk off d0.size w0)(sU:d0.size≤1048576)(hS:SP enc w0 blk off d0 w)(sV:a<m)(sY:m<b)(hb:b≤d0.size)(h1:m≠a+1)(h2:b≠m+1)(sX:((a:Int)+(b:Int)) / 2=(md:Int))(b1:a<md)(b2:md<b)(b3 : 2*md≤a+b)(b4:a+b≤2*md+1)(sZ:md<m)(hn:n=md+m)(se:Hid (∀(V:World) (a2 m2 b2:Nat),b2-a2<b-a→SP enc w0 blk off d0 V→a2<m2→m2<b2→b2≤d0.size→Calls Tryz.prog 248 #[.slice (some ⟨blk,off,none⟩) d0.size cap,.int .i64 (a2:Int),.int .i64 (m2:Int),.int .i64 (b2:Int),.func (.func cg) #[] cb] V (fun e w'=>e=.returned (.tuple #[])∧SP enc w0 blk off d0 w')))(si:Hid (∀(V:World) (a2 m2 b2:Nat),SP enc w0 blk off d0 V→a2<m2→m2<b2→b2≤d0.size→Calls Tryz.prog 277 #[.slice (some ⟨blk,off,none⟩) d0.size cap,.int .i64 (a2:Int),.int .i64 (m2:Int),.int .i64 (b2:Int),.func (.func cg) #[] cb] V (fun e w'=>e=.returned (.tuple #[])∧SP enc w0 blk off d0 w'))) :
  Calls Tryz.prog 248 #[.slice (some ⟨blk,off,none⟩) d0.size cap,.int .i64 (a:Int),.int .i64 (m:Int),.int .i64 (b:Int),.func (.func cg) #[] cb] w (fun e w'=>e=.returned (.tuple #[])∧SP enc w0 blk off d0 w'):=by
 obtain⟨sz,sy⟩:=sd d0.size
 have HB:Hid (b≤d0.size):=zN hb
 rw[←sy]at hb sU ⊢
 have HS:=zN hS;have HQ:=zN sy;have HC:=zN hC
 have sH:=R.hO.cells
 simp only[Value.cells]at sH
 have tc:=R.hO.store Tryz.prog
 have mixed:Tryz.prog.follows .mixedOrders=true:=by kernel_rfl
 clear hS sy hC
 rw[show d0.size=sz from HQ.out.symm]at se si
 have t1:(((m:Int)-(a:Int)) == 1)=false:=by rw[beq_eq_false_iff_ne];omega
 have t2:(((b:Int)-(m:Int)) == 1)=false:=by rw[beq_eq_false_iff_ne];omega
 have ta:(md:Int)+(m:Int)=(n:Int):=by omega
 have HN:=zN hn
 clear h1 h2
 obtain⟨lo,sQ⟩:=sd (n-b)
 have sR:(n:Int)-(b:Int)=(lo:Int):=by omega
 have c1:a≤lo:=by omega
 have c2:lo≤md:=by omega
 have c3:n≤b+lo:=by omega
 clear sQ hn
 have sS:(md:Int)<(m:Int):=by omega
 go_enter Tryz.func248,Tryz.ntmps248
 go_wp2_with fail
 go_loopw [20,21] (fun s t wr=>∃i j:Nat,lo≤i∧i≤j∧j≤md∧s=.int .i64 (i:Int)∧t=.int .i64 (j:Int)∧Hid (SP enc w0 blk off d0 wr)) (fun s t _=>(intOf t-intOf s).toNat)
 case atStart=>exact⟨lo,md,by omega,by omega,by omega,rfl,rfl,HS⟩
 case round =>
  obtain⟨i,j,hi,sO,sW,rfl,rfl,HP⟩:=hrel
  obtain⟨W,rfl⟩:∃W:World,W=wr:=⟨_,rfl⟩
  clear HS
  have sI:=HN.out
  by_cases hlt:i<j
  ·
   have td:((i:Int)+(j:Int)) / 2≤(n:Int)-1:=by omega
   obtain⟨dk,hs,hp,S⟩:=HP.out
   obtain⟨iN,sN⟩:=sd (n-1-(i+j) / 2)
   obtain⟨jN,sP⟩:=sd ((i+j) / 2)
   have sT:=HQ.out
   have pi:iN<d0.size:=by omega
   have pj:jN<d0.size:=by omega
   have ea:((n:Int)-1-((i:Int)+(j:Int)) / 2).toNat=iN:=by omega
   have pa:(0:Int)≤(n:Int)-1-((i:Int)+(j:Int)) / 2:=by omega
   have ba:(n:Int)-1-((i:Int)+(j:Int)) / 2<(sz:Int):=by omega
   have ra:IntKind.i64.wrap ((n:Int)-1-((i:Int)+(j:Int)) / 2)=(n:Int)-1-((i:Int)+(j:Int)) / 2:=by rw[IntKind.wrap_i64];omega
   have eb:(((i:Int)+(j:Int)) / 2).toNat=jN:=by omega
   have pb:(0:Int)≤((i:Int)+(j:Int)) / 2:=by omega
   have bb:((i:Int)+(j:Int)) / 2<(sz:Int):=by omega
   have rb:IntKind.i64.wrap (((i:Int)+(j:Int)) / 2)=((i:Int)+(j:Int)) / 2:=by rw[IntKind.wrap_i64];omega
   have la:=S.cl R (by omega) iN (by omega)
   have lb:=S.cl R (by omega) jN (by omega)
   obtain⟨x,hx⟩:=sd (dk[iN]!)
   obtain⟨y,hy⟩:=sd (dk[jN]!)
   rw[←hx]at la
   rw[←hy]at lb
   have hc:=S.cmp HC.out hs x y
   have sC:=zN S;have sD:=zN hs;have sE:=zN hp
   obtain⟨z,hz⟩:=sd (cf x y)
   rw[←hz]at hc
   clear S hs hp hx hy hz sN sP sT pi pj HP
   clear sI
   by_cases hv:z<0
   ·have hd:decide (z<0)=true:=decide_eq_true hv
    go_upto_region 35 with fail
    go_quiet_grown (first|(go_at_fn cg;refine Calls.grown_of (hc _ _)))
    have S3:Hid (SP enc w0 blk off d0 (grow (W.drewN nq) osq)):=zN ⟨dk,sD.out,sE.out,sC.out.grown nq osq⟩
    clear la lb hc sC sD sE
    generalize grow (W.drewN nq) osq=w3 at S3 ⊢
    clear nq osq ea eb ra rb pa pb ba bb
    go_wp2_with fail
    go_roundw
    case rel=>exact⟨i,(i+j) / 2,by omega,by omega,by omega,rfl,by first|rfl|go_num|(congr 1;omega),S3⟩
    case measure=>simp[intOf];omega
   ·have hd:decide (z<0)=false:=decide_eq_false hv
    go_upto_region 35 with fail
    go_quiet_grown (first|(go_at_fn cg;refine Calls.grown_of (hc _ _)))
    have S3:Hid (SP enc w0 blk off d0 (grow (W.drewN nq) osq)):=zN ⟨dk,sD.out,sE.out,sC.out.grown nq osq⟩
    clear la lb hc sC sD sE
    generalize grow (W.drewN nq) osq=w3 at S3 ⊢
    clear nq osq ea eb ra rb pa pb ba bb
    go_wp2_with fail
    go_roundw
    case rel=>exact⟨(i+j) / 2+1,j,by omega,by omega,by omega,by first|rfl|go_num|(congr 1;omega),rfl,S3⟩
    case measure=>simp[intOf];omega
  ·obtain rfl:i=j:=by omega
   clear sO
   obtain⟨en,sL⟩:=sd (n-i)
   have sM:(n:Int)-(i:Int)=(en:Int):=by omega
   have d1:en≤b:=by omega
   have d2:a≤i:=by omega
   have d3:i≤m:=by omega
   clear sI sL
   by_cases hx0:i<m
   ·have sJ:decide (i<m)=true:=decide_eq_true hx0
    have sF:(i:Int)<(m:Int):=by omega
    by_cases hy0:m<en
    ·have sK:decide (m<en)=true:=decide_eq_true hy0
     have sG:(m:Int)<(en:Int):=by omega
     by_cases hx1:a<i
     ·have sA:decide (a<i)=true:=decide_eq_true hx1
      have sw:(a:Int)<(i:Int):=by omega
      by_cases hy1:i<md
      ·have sB:decide (i<md)=true:=decide_eq_true hy1
       have sx:(i:Int)<(md:Int):=by omega
       by_cases hx2:md<en
       ·have sr:decide (md<en)=true:=decide_eq_true hx2
        have sg:(md:Int)<(en:Int):=by omega
        by_cases hy2:en<b
        ·have su:decide (en<b)=true:=decide_eq_true hy2
         have sh:(en:Int)<(b:Int):=by omega
         go_wp2_with fail
         refine(si.out _ i m en HP.out (by omega) (by omega) (by omega)).mono ?_
         rintro e w1 ⟨rfl,hq⟩
         have sj:=zN hq
         clear hq
         go_wp2_with fail
         refine(se.out _ a i md (by omega) sj.out (by omega) (by omega) (by omega)).mono ?_
         rintro e w2 ⟨rfl,hq⟩
         have sp:=zN hq
         clear hq
         go_wp2_with fail
         refine(se.out _ md en b (by omega) sp.out (by omega) (by omega) (by omega)).mono ?_
         rintro e w3 ⟨rfl,hq⟩
         have sq:=zN hq
         clear hq
         go_wp2_with fail
         go_end0
         exact⟨rfl,sq.out⟩
        ·have su:decide (en<b)=false:=decide_eq_false hy2
         have sh:¬(en:Int)<(b:Int):=by omega
         go_wp2_with fail
         refine(si.out _ i m en HP.out (by omega) (by omega) (by omega)).mono ?_
         rintro e w1 ⟨rfl,hq⟩
         have sj:=zN hq
         clear hq
         go_wp2_with fail
         refine(se.out _ a i md (by omega) sj.out (by omega) (by omega) (by omega)).mono ?_
         rintro e w2 ⟨rfl,hq⟩
         have sp:=zN hq
         clear hq
         go_wp2_with fail
         go_end0
         exact⟨rfl,sp.out⟩
       ·have sr:decide (md<en)=false:=decide_eq_false hx2
        have sg:¬(md:Int)<(en:Int):=by omega
        go_wp2_with fail
        refine(si.out _ i m en HP.out (by omega) (by omega) (by omega)).mono ?_
        rintro e w1 ⟨rfl,hq⟩
        have sj:=zN hq
        clear hq
        go_wp2_with fail
        refine(se.out _ a i md (by omega) sj.out (by omega) (by omega) (by omega)).mono ?_
        rintro e w2 ⟨rfl,hq⟩
        have sp:=zN hq
        clear hq
        go_wp2_with fail
        go_end0
        exact⟨rfl,sp.out⟩
      ·have sB:decide (i<md)=false:=decide_eq_false hy1
       have sx:¬(i:Int)<(md:Int):=by omega
       by_cases hx2:md<en
       ·have sr:decide (md<en)=true:=decide_eq_true hx2
        have sg:(md:Int)<(en:Int):=by omega
        by_cases hy2:en<b
        ·have su:decide (en<b)=true:=decide_eq_true hy2
         have sh:(en:Int)<(b:Int):=by omega
         go_wp2_with fail
         refine(si.out _ i m en HP.out (by omega) (by omega) (by omega)).mono ?_
         rintro e w1 ⟨rfl,hq⟩
         have sj:=zN hq
         clear hq
         go_wp2_with fail
         refine(se.out _ md en b (by omega) sj.out (by omega) (by omega) (by omega)).mono ?_
         rintro e w3 ⟨rfl,hq⟩
         have sq:=zN hq
         clear hq
         go_wp2_with fail
         go_end0
         exact⟨rfl,sq.out⟩
        ·have su:decide (en<b)=false:=decide_eq_false hy2
         have sh:¬(en:Int)<(b:Int):=by omega
         go_wp2_with fail
         refine(si.out _ i m en HP.out (by omega) (by omega) (by omega)).mono ?_
         rintro e w1 ⟨rfl,hq⟩
         have sj:=zN hq
         clear hq
         go_wp2_with fail
         go_end0
         exact⟨rfl,sj.out⟩
       ·have sr:decide (md<en)=false:=decide_eq_false hx2
        have sg:¬(md:Int)<(en:Int):=by omega
        go_wp2_with fail
        refine(si.out _ i m en HP.out (by omega) (by omega) (by omega)).mono ?_
        rintro e w1 ⟨rfl,hq⟩
        have sj:=zN hq
        clear hq
        go_wp2_with fail
        go_end0
        exact⟨rfl,sj.out⟩
     ·have sA:decide (a<i)=false:=decide_eq_false hx1
      have sw:¬(a:Int)<(i:Int):=by omega
      by_cases hx2:md<en
      ·have sr:decide (md<en)=true:=decide_eq_true hx2
       have sg:(md:Int)<(en:Int):=by omega
       by_cases hy2:en<b
       ·have su:decide (en<b)=true:=decide_eq_true hy2
        have sh:(en:Int)<(b:Int):=by omega
        go_wp2_with fail
        refine(si.out _ i m en HP.out (by omega) (by omega) (by omega)).mono ?_
        rintro e w1 ⟨rfl,hq⟩
        have sj:=zN hq
        clear hq
        go_wp2_with fail
        refine(se.out _ md en b (by omega) sj.out (by omega) (by omega) (by omega)).mono ?_
        rintro e w3 ⟨rfl,hq⟩
        have sq:=zN hq
        clear hq
        go_wp2_with fail
        go_end0
        exact⟨rfl,sq.out⟩
       ·have su:decide (en<b)=false:=decide_eq_false hy2
        have sh:¬(en:Int)<(b:Int):=by omega
        go_wp2_with fail
        refine(si.out _ i m en HP.out (by omega) (by omega) (by omega)).mono ?_
        rintro e w1 ⟨rfl,hq⟩
        have sj:=zN hq
        clear hq
        go_wp2_with fail
        go_end0
        exact⟨rfl,sj.out⟩
      ·have sr:decide (md<en)=false:=decide_eq_false hx2
       have sg:¬(md:Int)<(en:Int):=by omega
       go_wp2_with fail
       refine(si.out _ i m en HP.out (by omega) (by omega) (by omega)).mono ?_
       rintro e w1 ⟨rfl,hq⟩
       have sj:=zN hq
       clear hq
       go_wp2_with fail
       go_end0
       exact⟨rfl,sj.out⟩
    ·have sK:decide (m<en)=false:=decide_eq_false hy0
     have sG:¬(m:Int)<(en:Int):=by omega
     by_cases hx1:a<i
     ·have sA:decide (a<i)=true:=decide_eq_true hx1
      have sw:(a:Int)<(i:Int):=by omega
      by_cases hy1:i<md
      ·have sB:decide (i<md)=true:=decide_eq_true hy1
       have sx:(i:Int)<(md:Int):=by omega
       by_cases hx2:md<en
       ·have sr:decide (md<en)=true:=decide_eq_true hx2
        have sg:(md:Int)<(en:Int):=by omega
        by_cases hy2:en<b
        ·have su:decide (en<b)=true:=decide_eq_true hy2
         have sh:(en:Int)<(b:Int):=by omega
         go_wp2_with fail
         refine(se.out _ a i md (by omega) HP.out (by omega) (by omega) (by omega)).mono ?_
         rintro e w2 ⟨rfl,hq⟩
         have sp:=zN hq
         clear hq
         go_wp2_with fail
         refine(se.out _ md en b (by omega) sp.out (by omega) (by omega) (by omega)).mono ?_
         rintro e w3 ⟨rfl,hq⟩
         have sq:=zN hq
         clear hq
         go_wp2_with fail
         go_end0
         exact⟨rfl,sq.out⟩
        ·have su:decide (en<b)=false:=decide_eq_false hy2
         have sh:¬(en:Int)<(b:Int):=by omega
         go_wp2_with fail
         refine(se.out _ a i md (by omega) HP.out (by omega) (by omega) (by omega)).mono ?_
         rintro e w2 ⟨rfl,hq⟩
         have sp:=zN hq
         clear hq
         go_wp2_with fail
         go_end0
         exact⟨rfl,sp.out⟩
       ·have sr:decide (md<en)=false:=decide_eq_false hx2
        have sg:¬(md:Int)<(en:Int):=by omega
        go_wp2_with fail
        refine(se.out _ a i md (by omega) HP.out (by omega) (by omega) (by omega)).mono ?_
        rintro e w2 ⟨rfl,hq⟩
        have sp:=zN hq
        clear hq
        go_wp2_with fail
        go_end0
        exact⟨rfl,sp.out⟩
      ·have sB:decide (i<md)=false:=decide_eq_false hy1
       have sx:¬(i:Int)<(md:Int):=by omega
       by_cases hx2:md<en
       ·have sr:decide (md<en)=true:=decide_eq_true hx2
        have sg:(md:Int)<(en:Int):=by omega
        by_cases hy2:en<b
        ·have su:decide (en<b)=true:=decide_eq_true hy2
         have sh:(en:Int)<(b:Int):=by omega
         go_wp2_with fail
         refine(se.out _ md en b (by omega) HP.out (by omega) (by omega) (by omega)).mono ?_
         rintro e w3 ⟨rfl,hq⟩
         have sq:=zN hq
         clear hq
         go_wp2_with fail
         go_end0
         exact⟨rfl,sq.out⟩
        ·have su:decide (en<b)=false:=decide_eq_false hy2
         have sh:¬(en:Int)<(b:Int):=by omega
         go_wp2_with fail
         go_end0
         exact⟨rfl,HP.out⟩
       ·have sr:decide (md<en)=false:=decide_eq_false hx2
        have sg:¬(md:Int)<(en:Int):=by omega
        go_wp2_with fail
        go_end0
        exact⟨rfl,HP.out⟩
     ·have sA:decide (a<i)=false:=decide_eq_false hx1
      have sw:¬(a:Int)<(i:Int):=by omega
      by_cases hx2:md<en
      ·have sr:decide (md<en)=true:=decide_eq_true hx2
       have sg:(md:Int)<(en:Int):=by omega
       by_cases hy2:en<b
       ·have su:decide (en<b)=true:=decide_eq_true hy2
        have sh:(en:Int)<(b:Int):=by omega
        go_wp2_with fail
        refine(se.out _ md en b (by omega) HP.out (by omega) (by omega) (by omega)).mono ?_
        rintro e w3 ⟨rfl,hq⟩
        have sq:=zN hq
        clear hq
        go_wp2_with fail
        go_end0
        exact⟨rfl,sq.out⟩
       ·have su:decide (en<b)=false:=decide_eq_false hy2
        have sh:¬(en:Int)<(b:Int):=by omega
        go_wp2_with fail
        go_end0
        exact⟨rfl,HP.out⟩
      ·have sr:decide (md<en)=false:=decide_eq_false hx2
       have sg:¬(md:Int)<(en:Int):=by omega
       go_wp2_with fail
       go_end0
       exact⟨rfl,HP.out⟩
   ·have sJ:decide (i<m)=false:=decide_eq_false hx0
    have sF:¬(i:Int)<(m:Int):=by omega
    by_cases hx1:a<i
    ·have sA:decide (a<i)=true:=decide_eq_true hx1
     have sw:(a:Int)<(i:Int):=by omega
     by_cases hy1:i<md
     ·have sB:decide (i<md)=true:=decide_eq_true hy1
      have sx:(i:Int)<(md:Int):=by omega
      by_cases hx2:md<en
      ·have sr:decide (md<en)=true:=decide_eq_true hx2
       have sg:(md:Int)<(en:Int):=by omega
       by_cases hy2:en<b
       ·have su:decide (en<b)=true:=decide_eq_true hy2
        have sh:(en:Int)<(b:Int):=by omega
        go_wp2_with fail
        refine(se.out _ a i md (by omega) HP.out (by omega) (by omega) (by omega)).mono ?_
        rintro e w2 ⟨rfl,hq⟩
        have sp:=zN hq
        clear hq
        go_wp2_with fail
        refine(se.out _ md en b (by omega) sp.out (by omega) (by omega) (by omega)).mono ?_
        rintro e w3 ⟨rfl,hq⟩
        have sq:=zN hq
        clear hq
        go_wp2_with fail
        go_end0
        exact⟨rfl,sq.out⟩
       ·have su:decide (en<b)=false:=decide_eq_false hy2
        have sh:¬(en:Int)<(b:Int):=by omega
        go_wp2_with fail
        refine(se.out _ a i md (by omega) HP.out (by omega) (by omega) (by omega)).mono ?_
        rintro e w2 ⟨rfl,hq⟩
        have sp:=zN hq
        clear hq
        go_wp2_with fail
        go_end0
        exact⟨rfl,sp.out⟩
      ·have sr:decide (md<en)=false:=decide_eq_false hx2
       have sg:¬(md:Int)<(en:Int):=by omega
       go_wp2_with fail
       refine(se.out _ a i md (by omega) HP.out (by omega) (by omega) (by omega)).mono ?_
       rintro e w2 ⟨rfl,hq⟩
       have sp:=zN hq
       clear hq
       go_wp2_with fail
       go_end0
       exact⟨rfl,sp.out⟩
     ·have sB:decide (i<md)=false:=decide_eq_false hy1
      have sx:¬(i:Int)<(md:Int):=by omega
      by_cases hx2:md<en
      ·have sr:decide (md<en)=true:=decide_eq_true hx2
       have sg:(md:Int)<(en:Int):=by omega
       by_cases hy2:en<b
       ·have su:decide (en<b)=true:=decide_eq_true hy2
        have sh:(en:Int)<(b:Int):=by omega
        go_wp2_with fail
        refine(se.out _ md en b (by omega) HP.out (by omega) (by omega) (by omega)).mono ?_
        rintro e w3 ⟨rfl,hq⟩
        have sq:=zN hq
        clear hq
        go_wp2_with fail
        go_end0
        exact⟨rfl,sq.out⟩
       ·have su:decide (en<b)=false:=decide_eq_false hy2
        have sh:¬(en:Int)<(b:Int):=by omega
        go_wp2_with fail
        go_end0
        exact⟨rfl,HP.out⟩
      ·have sr:decide (md<en)=false:=decide_eq_false hx2
       have sg:¬(md:Int)<(en:Int):=by omega
       go_wp2_with fail
       go_end0
       exact⟨rfl,HP.out⟩
    ·have sA:decide (a<i)=false:=decide_eq_false hx1
     have sw:¬(a:Int)<(i:Int):=by omega
     by_cases hx2:md<en
     ·have sr:decide (md<en)=true:=decide_eq_true hx2
      have sg:(md:Int)<(en:Int):=by omega
      by_cases hy2:en<b
      ·have su:decide (en<b)=true:=decide_eq_true hy2
       have sh:(en:Int)<(b:Int):=by omega
       go_wp2_with fail
       refine(se.out _ md en b (by omega) HP.out (by omega) (by omega) (by omega)).mono ?_
       rintro e w3 ⟨rfl,hq⟩
       have sq:=zN hq
       clear hq
       go_wp2_with fail
       go_end0
       exact⟨rfl,sq.out⟩
      ·have su:decide (en<b)=false:=decide_eq_false hy2
       have sh:¬(en:Int)<(b:Int):=by omega
       go_wp2_with fail
       go_end0
       exact⟨rfl,HP.out⟩
     ·have sr:decide (md<en)=false:=decide_eq_false hx2
      have sg:¬(md:Int)<(en:Int):=by omega
      go_wp2_with fail
      go_end0
      exact⟨rfl,HP.out⟩
end
