/- packed -/
import Derived.Test.YtplldnnnhgnbjaaGreatDoorMr47
namespace Go.Proofs.YtplldnnnhgnbjaaGreatDoor
open Go.RowKit Go.Maps
structure ApI {α : Type} (rd:Rdg α) (E:TypeId) (F:Nat→Prop) (w1:World) (gt off base n c0:Nat) (A0:Option Addr) (bx:List Value) (xs:List α) (css:List (List Value)) (x : α) (cs:List Value) (b1 b11 b12 b13 b14:Bool) (t72 t82 t83 t84:Value) (W:World):Prop where
 fr:Fr (fun k=>(Value.slice A0 n c0).ownBlock=some k ∨ k=gt) w1 W
 ext:b12=false→Ext w1 W
 h1:b1=true→t72 = .slice A0 n c0
 h11:b11=true→b12=false→∃ V,Ext w1 V∧W=V.alloc (.cells cs.toArray E)∧t82 = .slice (some ⟨V.heap.size,0,none⟩) 1 1
 h12:b12=true→b14=false→∃ A9 c9,t83 = .slice A9 (n + 1) c9∧RwF rd F W base E (.slice A9 (n + 1) c9) (n + 1) (xs ++ [x]) (css ++ [cs])∧Bk W gt 46 bx
 h13:b13=true→t84 = .pointer (some ⟨gt,off,none⟩)
 h14:b14=true→∃ A9 c9,RwF rd F W base E (.slice A9 (n + 1) c9) (n + 1) (xs ++ [x]) (css ++ [cs])∧Bk W gt 46 (bx.set off (.slice A9 (n + 1) c9))
section
variable {α : Type} {rd:Rdg α} {E:TypeId} {F:Nat→Prop} {w1 W W' V:World} {gt off base n c0 c9:Nat} {A0 A9:Option Addr} {bx:List Value} {xs:List α} {css:List (List Value)} {x : α} {cs:List Value} {b1 b11 b12 b13 b14:Bool} {t72 t82 t83 t84:Value}
theorem ApI.start:ApI rd E F w1 gt off base n c0 A0 bx xs css x cs false false false false false t72 t82 t83 t84 w1.drew :=
 ⟨(Fr.refl _ w1).drew,fun _=>(Ext.refl w1).drew,(fun q=>by cases q),(fun q=>by cases q),(fun q=>by cases q),(fun q=>by cases q),(fun q=>by cases q)⟩
theorem ApI.ld (h:ApI rd E F w1 gt off base n c0 A0 bx xs css x cs false b11 b12 b13 b14 t72 t82 t83 t84 W):ApI rd E F w1 gt off base n c0 A0 bx xs css x cs true b11 b12 b13 b14 (.slice A0 n c0) t82 t83 t84 W:=⟨h.fr,h.ext,fun _=>rfl,h.h11,h.h12,h.h13,h.h14⟩
theorem ApI.bld (h:ApI rd E F w1 gt off base n c0 A0 bx xs css x cs b1 false false b13 false t72 t82 t83 t84 W):ApI rd E F w1 gt off base n c0 A0 bx xs css x cs b1 true false b13 false t72 (.slice (some ⟨W.heap.size,0,none⟩) 1 1) t83 t84 (W.alloc (.cells cs.toArray E)) :=
 ⟨((h.ext rfl).alloc _).fr _,fun _=>(h.ext rfl).alloc _,h.h1,fun _ _=>⟨W,h.ext rfl,rfl,rfl⟩,(fun q=>by cases q),h.h13,(fun q=>by cases q)⟩
theorem ApI.app (hO:RwF rd F w1 base E (.slice A0 n c0) n xs css) (hB:Bk w1 gt 46 bx) (hne:E ≠ 46) (hx:Ext w1 V) (ht:rd.R F w1 cs x) (h1:t72 = .slice A0 n c0) (hr:W'.ownsRow base E rd.sz (.slice A9 (n + 1) c9) (n + 1) (css.flatten ++ cs)) (hg:(V.alloc (.cells cs.toArray E)).grownBy W' (Value.slice A0 n c0).ownBlock):ApI rd E F w1 gt off base n c0 A0 bx xs css x cs true true true false false t72 t82 (.slice A9 (n + 1) c9) t84 W':=by
 have hxa:Ext w1 (V.alloc (.cells cs.toArray E)):=hx.alloc _
 exact ⟨Fr.comp (hxa.fr _) (grown_fr hg) (fun k hk=>.inl (.inl hk)),(fun q=>by cases q),fun _=>h1,(fun _ q=>by cases q),fun _ _=>⟨A9,c9,rfl,hO.more hxa (rd.ext ht hxa) hr hg,(hB.ext hxa).fr (grown_fr hg) (fun e=>own_bk hO.own hB hne e rfl)⟩,(fun q=>by cases q),(fun q=>by cases q)⟩
theorem ApI.fa (h:ApI rd E F w1 gt off base n c0 A0 bx xs css x cs b1 b11 b12 false b14 t72 t82 t83 t84 W):ApI rd E F w1 gt off base n c0 A0 bx xs css x cs b1 b11 b12 true b14 t72 t82 t83 (.pointer (some ⟨gt,off,none⟩)) W:=⟨h.fr,h.ext,h.h1,h.h11,h.h12,fun _=>rfl,h.h14⟩
theorem ApI.store (hne:E ≠ 46) (hgF:¬ F gt) (h:ApI rd E F w1 gt off base n c0 A0 bx xs css x cs b1 b11 true b13 false t72 t82 (.slice A9 (n + 1) c9) t84 W):ApI rd E F w1 gt off base n c0 A0 bx xs css x cs b1 b11 true b13 true t72 t82 (.slice A9 (n + 1) c9) t84 (W.setCell ⟨gt,off,none⟩ (.slice A9 (n + 1) c9)):=by
 have hf:Fr (fun k=>k=gt) W (W.setCell ⟨gt,off,none⟩ (.slice A9 (n + 1) c9)):=(Fr.refl (fun k=>k=gt) W).setCell (p:=⟨gt,off,none⟩) (.inl rfl) _
 obtain ⟨A8,c8,e,hr,hb⟩:=h.h12 rfl rfl
 injection e with e1 e2 e3
 subst e1 e3
 refine ⟨Fr.comp h.fr hf (fun k hk=>.inl (.inr hk)),(fun q=>by have h9:=h.ext q;exact (by cases q)),h.h1,(fun _ q=>by cases q),(fun _ q=>by cases q),h.h13,fun _=>⟨A9,c9,hr.fr hf (fun k hk=>own_bk hr.own hb hne hk) (fun k hk e=>hgF (e ▸ hk)),hb.set off _⟩⟩
end
noncomputable def apaRg:Code:=((Tryz.f4.body.bind (findRegion 18)).getD .skip)
inductive apaJ (F:Nat→Prop) (w1:World) (gt base n c0:Nat) (A0:Option Addr) (va vc:Value) (xs:List At) (css:List (List Value)) (x:At) (ng:Bool) (sr:ByteArray) (B:Option Addr) (nt dt:Nat) (Fz:Value→Value→Value→Value→ Act):Nat→Array Bool→Act→World→Prop
 | s0 {t72 t82 t83 t84:Value} {W:World} (h:ApI rdAt 49 F w1 gt 0 base n c0 A0 [va,vc] xs css x [.bool ng,.string sr,.slice B nt dt] false false false false false t72 t82 t83 t84 W):apaJ F w1 gt base n c0 A0 va vc xs css x ng sr B nt dt Fz 5 #[true,false,true,true,true,true,true,true,true,true,true,false,false,false,false] (Fz t72 t82 t83 t84) W
 | s1 {t72 t82 t83 t84:Value} {W:World} (h:ApI rdAt 49 F w1 gt 0 base n c0 A0 [va,vc] xs css x [.bool ng,.string sr,.slice B nt dt] true false false false false t72 t82 t83 t84 W):apaJ F w1 gt base n c0 A0 va vc xs css x ng sr B nt dt Fz 4 #[true,true,true,true,true,true,true,true,true,true,true,false,false,false,false] (Fz t72 t82 t83 t84) W
 | s2 {t72 t82 t83 t84:Value} {W:World} (h:ApI rdAt 49 F w1 gt 0 base n c0 A0 [va,vc] xs css x [.bool ng,.string sr,.slice B nt dt] false true false false false t72 t82 t83 t84 W):apaJ F w1 gt base n c0 A0 va vc xs css x ng sr B nt dt Fz 4 #[true,false,true,true,true,true,true,true,true,true,true,true,false,false,false] (Fz t72 t82 t83 t84) W
 | s3 {t72 t82 t83 t84:Value} {W:World} (h:ApI rdAt 49 F w1 gt 0 base n c0 A0 [va,vc] xs css x [.bool ng,.string sr,.slice B nt dt] true true false false false t72 t82 t83 t84 W):apaJ F w1 gt base n c0 A0 va vc xs css x ng sr B nt dt Fz 3 #[true,true,true,true,true,true,true,true,true,true,true,true,false,false,false] (Fz t72 t82 t83 t84) W
 | s4 {t72 t82 t83 t84:Value} {W:World} (h:ApI rdAt 49 F w1 gt 0 base n c0 A0 [va,vc] xs css x [.bool ng,.string sr,.slice B nt dt] true true true false false t72 t82 t83 t84 W):apaJ F w1 gt base n c0 A0 va vc xs css x ng sr B nt dt Fz 2 #[true,true,true,true,true,true,true,true,true,true,true,true,true,false,false] (Fz t72 t82 t83 t84) W
 | s5 {t72 t82 t83 t84:Value} {W:World} (h:ApI rdAt 49 F w1 gt 0 base n c0 A0 [va,vc] xs css x [.bool ng,.string sr,.slice B nt dt] true true true true false t72 t82 t83 t84 W):apaJ F w1 gt base n c0 A0 va vc xs css x ng sr B nt dt Fz 1 #[true,true,true,true,true,true,true,true,true,true,true,true,true,true,false] (Fz t72 t82 t83 t84) W
 | s6 {t72 t82 t83 t84:Value} {W:World} (h:ApI rdAt 49 F w1 gt 0 base n c0 A0 [va,vc] xs css x [.bool ng,.string sr,.slice B nt dt] true true true true true t72 t82 t83 t84 W):apaJ F w1 gt base n c0 A0 va vc xs css x ng sr B nt dt Fz 0 #[true,true,true,true,true,true,true,true,true,true,true,true,true,true,true] (Fz t72 t82 t83 t84) W
set_option maxRecDepth 20000 in
set_option maxHeartbeats 3200000 in
theorem apa_reg {K:Act→World→Prop} {Q:Exit→Act→World→Prop} {w1:World} {F:Nat→Prop} {base n c0:Nat} {A0:Option Addr} {va vc:Value} {xs:List At} {css:List (List Value)} {x:At} {g0 gt i k nr cr na ca:Nat} {ad ae:Addr} {ng:Bool} {sr:ByteArray} {B:Option Addr} {nt dt:Nat} {u0 u1 u2 u3 u4 u6 u7 u8 u9 u10 u11 u12 u16 u17 u18 u19 u20 u21 u22 u23 u24 u25 u26 u27 u28 u29 u30 u31 u32 u33 u34 u35 u36 u37 u38 u39 u40 u41 u42 u43 u44 u45 u46 u47 u48 u49 u50 u51 u52 u53 u54 u55 u56 u57 u58 u59 u60 u61 u62 u63 u64 u65 u66 u67 u68 u69 u70 u85 u86 u87 u88 u89 u90 u91 u92 u93 u94 u95 u96 u97 u98 u99 u100 u101 u102 u103 u104 u105 u106 u107 u108 u109 u110 u111 u112 u113 u114 u115 u116 u117 u118 u119 u120 u121 u122 u123 u124 u125 u126 u127 u128 u129 u130 u131 u132 x72 x82 x83 x84 z71 z73 z74 z75 z76 z77 z78 z79 z80 z81:Value}
  (i1:(0:Int)≤(i:Int)) (i2:(i:Int) < (nr:Int)) (k1:(0:Int)≤(k:Int)) (k2:(k:Int) < (na:Int)) (b3:w1.cell? ⟨g0,3,none⟩=some (.slice (some ad) nr cr)) (d0:w1.cell? (ad.add (i * 2))=some (.slice (some ae) na ca)) (e0:w1.cell? (ae.add (k * 3))=some (.bool ng)) (e1:w1.cell? ⟨(ae.add (k * 3)).block,(ae.add (k * 3)).off + 1,none⟩=some (.string sr)) (e2:w1.cell? ⟨(ae.add (k * 3)).block,(ae.add (k * 3)).off + 2,none⟩=some (.slice B nt dt))
  (hB:Bk w1 gt 46 [va,vc]) (hsl : [va,vc][0]'(by simp) = .slice A0 n c0) (hO:RwF rdAt F w1 base 49 (.slice A0 n c0) n xs css) (hbase:base≤w1.heap.size) (hn:n≤1000000) (hR:rdAt.R F w1 [.bool ng,.string sr,.slice B nt dt] x) (hgF:¬ F gt)
  (n1:¬ ((Value.slice A0 n c0).ownBlock=some g0 ∨ g0=gt)) (n2:¬ ((Value.slice A0 n c0).ownBlock=some ad.block ∨ ad.block=gt)) (n3:¬ ((Value.slice A0 n c0).ownBlock=some ae.block ∨ ae.block=gt))
  (hK:∀ A9 c9 t72 t82 t83 t84 W,Fr (fun k=>(Value.slice A0 n c0).ownBlock=some k ∨ k=gt) w1 W→RwF rdAt F W base 49 (.slice A9 (n + 1) c9) (n + 1) (xs ++ [x]) (css ++ [[.bool ng,.string sr,.slice B nt dt]])→Bk W gt 46 ([va,vc].set 0 (.slice A9 (n + 1) c9))→K ⟨#[u0,u1,u2,u3,u4,.pointer (some ⟨g0,0,none⟩),u6,u7,u8,u9,u10,u11,u12,.int .i64 (i:Int),.pointer (some ⟨gt,0,none⟩),.int .i64 (k:Int),u16,u17,u18,u19,u20,u21,u22,u23,u24,u25,u26,u27,u28,u29,u30,u31,u32,u33,u34,u35,u36,u37,u38,u39,u40,u41,u42,u43,u44,u45,u46,u47,u48,u49,u50,u51,u52,u53,u54,u55,u56,u57,u58,u59,u60,u61,u62,u63,u64,u65,u66,u67,u68,u69,u70,.pointer (some ⟨gt,0,none⟩),t72,.pointer (some ⟨g0,3,none⟩),.slice (some ad) nr cr,.int .i64 (i:Int),.pointer (some (ad.add (i * 2))),.pointer (some (ad.add (i * 2))),.slice (some ae) na ca,.int .i64 (k:Int),.pointer (some (ae.add (k * 3))),.agg #[.bool ng,.string sr,.slice B nt dt],t82,t83,t84,u85,u86,u87,u88,u89,u90,u91,u92,u93,u94,u95,u96,u97,u98,u99,u100,u101,u102,u103,u104,u105,u106,u107,u108,u109,u110,u111,u112,u113,u114,u115,u116,u117,u118,u119,u120,u121,u122,u123,u124,u125,u126,u127,u128,u129,u130,u131,u132],[]⟩ W) :
  Code.wp Tryz.prog apaRg (Exit.then K Q) ⟨#[u0,u1,u2,u3,u4,.pointer (some ⟨g0,0,none⟩),u6,u7,u8,u9,u10,u11,u12,.int .i64 (i:Int),.pointer (some ⟨gt,0,none⟩),.int .i64 (k:Int),u16,u17,u18,u19,u20,u21,u22,u23,u24,u25,u26,u27,u28,u29,u30,u31,u32,u33,u34,u35,u36,u37,u38,u39,u40,u41,u42,u43,u44,u45,u46,u47,u48,u49,u50,u51,u52,u53,u54,u55,u56,u57,u58,u59,u60,u61,u62,u63,u64,u65,u66,u67,u68,u69,u70,z71,x72,z73,z74,z75,z76,z77,z78,z79,z80,z81,x82,x83,x84,u85,u86,u87,u88,u89,u90,u91,u92,u93,u94,u95,u96,u97,u98,u99,u100,u101,u102,u103,u104,u105,u106,u107,u108,u109,u110,u111,u112,u113,u114,u115,u116,u117,u118,u119,u120,u121,u122,u123,u124,u125,u126,u127,u128,u129,u130,u131,u132],[]⟩ w1:=by
 have HK:=Lib.hid hK
 have HO:=Lib.hid hO;have HB:=Lib.hid hB;have HR:=Lib.hid hR
 have HBX:Hid ([va,vc].length=2):=Lib.hid rfl
 have cB:=hB.cell (i:=0) (by simp)
 rw [hsl] at cB
 obtain ⟨j0,hj0,hz0,hz1,hz2⟩:=info_parts info_atom
 have HJ0:=Lib.hid (And.intro hj0 (And.intro hz0 (And.intro hz1 hz2)))
 clear hK hO hB hR hj0 hz0 hz1 hz2 hsl
 conv=>arg 2;whnf
 refine wp_only ?_
 refine wp_region_held_drew (S:=fun V=>Fr (fun k=>(Value.slice A0 n c0).ownBlock=some k ∨ k=gt) w1 V) (by kernel_rfl) (Fr.refl _ w1).drew (fun hHeld=>?_)
 refine wpAnyH_take (i:=0) (oi:=?ox0) (v:=.pointer (some ⟨gt,0,none⟩)) ?hx0 (by kernel_rfl) (by kernel_rfl) (by kernel_rfl) (fun _ _ _ h=>h) (Or.inl ⟨?wx0,?yx0⟩) hHeld ?rx0
 case hx0=>simp only [List.getElem?_toArray,List.getElem?_cons_succ,List.getElem?_cons_zero];rfl
 case wx0=>rfl
 case yx0 =>
  intro V hSw

  simp [go_sem] <;> with_reducible rfl
 (try simp only [Act.put,List.setIfInBounds_toArray,List.set_cons_zero,List.set_cons_succ])
 refine wpAnyH_take (i:=2) (oi:=?ox2) (v:=.pointer (some ⟨g0,3,none⟩)) ?hx2 (by kernel_rfl) (by kernel_rfl) (by kernel_rfl) (fun _ _ _ h=>h) (Or.inl ⟨?wx2,?yx2⟩) hHeld ?rx2
 case hx2=>simp only [List.getElem?_toArray,List.getElem?_cons_succ,List.getElem?_cons_zero];rfl
 case wx2=>rfl
 case yx2 =>
  intro V hSw

  simp [go_sem] <;> with_reducible rfl
 (try simp only [Act.put,List.setIfInBounds_toArray,List.set_cons_zero,List.set_cons_succ])
 refine wpAnyH_take (i:=3) (oi:=?ox3) (v:=.slice (some ad) nr cr) ?hx3 (by kernel_rfl) (by kernel_rfl) (by kernel_rfl) (fun _ _ _ h=>h) (Or.inl ⟨?wx3,?yx3⟩) hHeld ?rx3
 case hx3=>simp only [List.getElem?_toArray,List.getElem?_cons_succ,List.getElem?_cons_zero];rfl
 case wx3=>rfl
 case yx3 =>
  intro V hSw
  have q0:=Fr.cell hSw b3 n1
  simp [go_sem,q0] <;> with_reducible rfl
 (try simp only [Act.put,List.setIfInBounds_toArray,List.set_cons_zero,List.set_cons_succ])
 refine wpAnyH_take (i:=4) (oi:=?ox4) (v:=.int .i64 (i:Int)) ?hx4 (by kernel_rfl) (by kernel_rfl) (by kernel_rfl) (fun _ _ _ h=>h) (Or.inl ⟨?wx4,?yx4⟩) hHeld ?rx4
 case hx4=>simp only [List.getElem?_toArray,List.getElem?_cons_succ,List.getElem?_cons_zero];rfl
 case wx4=>rfl
 case yx4 =>
  intro V hSw

  simp [go_sem] <;> with_reducible rfl
 (try simp only [Act.put,List.setIfInBounds_toArray,List.set_cons_zero,List.set_cons_succ])
 refine wpAnyH_take (i:=5) (oi:=?ox5) (v:=.pointer (some (ad.add (i * 2)))) ?hx5 (by kernel_rfl) (by kernel_rfl) (by kernel_rfl) (fun _ _ _ h=>h) (Or.inl ⟨?wx5,?yx5⟩) hHeld ?rx5
 case hx5=>simp only [List.getElem?_toArray,List.getElem?_cons_succ,List.getElem?_cons_zero];rfl
 case wx5=>rfl
 case yx5 =>
  intro V hSw

  simp [go_sem,i1,i2] <;> with_reducible rfl
 (try simp only [Act.put,List.setIfInBounds_toArray,List.set_cons_zero,List.set_cons_succ])
 refine wpAnyH_take (i:=6) (oi:=?ox6) (v:=.pointer (some (ad.add (i * 2)))) ?hx6 (by kernel_rfl) (by kernel_rfl) (by kernel_rfl) (fun _ _ _ h=>h) (Or.inl ⟨?wx6,?yx6⟩) hHeld ?rx6
 case hx6=>simp only [List.getElem?_toArray,List.getElem?_cons_succ,List.getElem?_cons_zero];rfl
 case wx6=>rfl
 case yx6 =>
  intro V hSw

  simp [go_sem] <;> with_reducible rfl
 (try simp only [Act.put,List.setIfInBounds_toArray,List.set_cons_zero,List.set_cons_succ])
 refine wpAnyH_take (i:=7) (oi:=?ox7) (v:=.slice (some ae) na ca) ?hx7 (by kernel_rfl) (by kernel_rfl) (by kernel_rfl) (fun _ _ _ h=>h) (Or.inl ⟨?wx7,?yx7⟩) hHeld ?rx7
 case hx7=>simp only [List.getElem?_toArray,List.getElem?_cons_succ,List.getElem?_cons_zero];rfl
 case wx7=>rfl
 case yx7 =>
  intro V hSw
  have q0:=Fr.cell hSw d0 (by rw [block_add];exact n2)
  simp [go_sem,q0] <;> with_reducible rfl
 (try simp only [Act.put,List.setIfInBounds_toArray,List.set_cons_zero,List.set_cons_succ])
 refine wpAnyH_take (i:=8) (oi:=?ox8) (v:=.int .i64 (k:Int)) ?hx8 (by kernel_rfl) (by kernel_rfl) (by kernel_rfl) (fun _ _ _ h=>h) (Or.inl ⟨?wx8,?yx8⟩) hHeld ?rx8
 case hx8=>simp only [List.getElem?_toArray,List.getElem?_cons_succ,List.getElem?_cons_zero];rfl
 case wx8=>rfl
 case yx8 =>
  intro V hSw

  simp [go_sem] <;> with_reducible rfl
 (try simp only [Act.put,List.setIfInBounds_toArray,List.set_cons_zero,List.set_cons_succ])
 refine wpAnyH_take (i:=9) (oi:=?ox9) (v:=.pointer (some (ae.add (k * 3)))) ?hx9 (by kernel_rfl) (by kernel_rfl) (by kernel_rfl) (fun _ _ _ h=>h) (Or.inl ⟨?wx9,?yx9⟩) hHeld ?rx9
 case hx9=>simp only [List.getElem?_toArray,List.getElem?_cons_succ,List.getElem?_cons_zero];rfl
 case wx9=>rfl
 case yx9 =>
  intro V hSw

  simp [go_sem,k1,k2] <;> with_reducible rfl
 (try simp only [Act.put,List.setIfInBounds_toArray,List.set_cons_zero,List.set_cons_succ])
 refine wpAnyH_take (i:=10) (oi:=?ox10) (v:=.agg #[.bool ng,.string sr,.slice B nt dt]) ?hx10 (by kernel_rfl) (by kernel_rfl) (by kernel_rfl) (fun _ _ _ h=>h) (Or.inl ⟨?wx10,?yx10⟩) hHeld ?rx10
 case hx10=>simp only [List.getElem?_toArray,List.getElem?_cons_succ,List.getElem?_cons_zero];rfl
 case wx10=>rfl
 case yx10 =>
  intro V hSw
  have q0:=Fr.cell hSw e0 (by rw [block_add];exact n3)
  have q1:=Fr.cell hSw e1 (by rw [block_add];exact n3)
  have q2:=Fr.cell hSw e2 (by rw [block_add];exact n3)
  simp [go_sem,q0,q1,q2] <;> with_reducible rfl
 (try simp only [Act.put,List.setIfInBounds_toArray,List.set_cons_zero,List.set_cons_succ])
 clear b3 d0 e0 e1 e2
 refine inv_any (I:=apaJ F w1 gt base n c0 A0 va vc xs css x ng sr B nt dt (fun t72 t82 t83 t84=>⟨#[u0,u1,u2,u3,u4,.pointer (some ⟨g0,0,none⟩),u6,u7,u8,u9,u10,u11,u12,.int .i64 (i:Int),.pointer (some ⟨gt,0,none⟩),.int .i64 (k:Int),u16,u17,u18,u19,u20,u21,u22,u23,u24,u25,u26,u27,u28,u29,u30,u31,u32,u33,u34,u35,u36,u37,u38,u39,u40,u41,u42,u43,u44,u45,u46,u47,u48,u49,u50,u51,u52,u53,u54,u55,u56,u57,u58,u59,u60,u61,u62,u63,u64,u65,u66,u67,u68,u69,u70,.pointer (some ⟨gt,0,none⟩),t72,.pointer (some ⟨g0,3,none⟩),.slice (some ad) nr cr,.int .i64 (i:Int),.pointer (some (ad.add (i * 2))),.pointer (some (ad.add (i * 2))),.slice (some ae) na ca,.int .i64 (k:Int),.pointer (some (ae.add (k * 3))),.agg #[.bool ng,.string sr,.slice B nt dt],t82,t83,t84,u85,u86,u87,u88,u89,u90,u91,u92,u93,u94,u95,u96,u97,u98,u99,u100,u101,u102,u103,u104,u105,u106,u107,u108,u109,u110,u111,u112,u113,u114,u115,u116,u117,u118,u119,u120,u121,u122,u123,u124,u125,u126,u127,u128,u129,u130,u131,u132],[]⟩)) ?hS ?h0 ?h1 _ _ _ _ ?st
 case hS =>
  intro n l act W hI
  cases hI with
  | s0 h=>exact h.fr
  | s1 h=>exact h.fr
  | s2 h=>exact h.fr
  | s3 h=>exact h.fr
  | s4 h=>exact h.fr
  | s5 h=>exact h.fr
  | s6 h=>exact h.fr
 case st=>exact apaJ.s0 ApI.start
 case h0 =>
  intro l act W hI
  cases hI with
  | s6 h =>
   refine ⟨by kernel_rfl,?_⟩
   obtain ⟨A9,c9,hr,hb⟩:=h.h14 rfl
   exact HK.out _ _ _ _ _ _ _ h.fr hr hb
 case h1 =>
  intro m l act W hI
  cases hI with
  | s0 h =>
   refine inv_ready (rs:=[1,11]) (by kernel_rfl) (by simp) ?_
   refine inv_cons (o:=?ow0_1) ?ho0_1 (fun K hK=>?hst0_1) ?hmore0_1
   case ho0_1=>simp only [List.getElem?_toArray,List.getElem?_cons_succ,List.getElem?_cons_zero];rfl
   case hst0_1 =>
    have k0:=(h.ext rfl).cell cB
    go_simp
    exact hK.out _ _ (apaJ.s1 (h.ld))
   refine inv_cons (o:=?ow0_11) ?ho0_11 (fun K hK=>?hst0_11) ?hmore0_11
   case ho0_11=>simp only [List.getElem?_toArray,List.getElem?_cons_succ,List.getElem?_cons_zero];rfl
   case hst0_11 =>
    go_simp
    exact hK.out _ _ (apaJ.s2 (h.bld))
   exact inv_nil
  | s1 h =>
   refine inv_ready (rs:=[11]) (by kernel_rfl) (by simp) ?_
   refine inv_cons (o:=?ow1_11) ?ho1_11 (fun K hK=>?hst1_11) ?hmore1_11
   case ho1_11=>simp only [List.getElem?_toArray,List.getElem?_cons_succ,List.getElem?_cons_zero];rfl
   case hst1_11 =>
    go_simp
    exact hK.out _ _ (apaJ.s3 (h.bld))
   exact inv_nil
  | s2 h =>
   refine inv_ready (rs:=[1]) (by kernel_rfl) (by simp) ?_
   refine inv_cons (o:=?ow2_1) ?ho2_1 (fun K hK=>?hst2_1) ?hmore2_1
   case ho2_1=>simp only [List.getElem?_toArray,List.getElem?_cons_succ,List.getElem?_cons_zero];rfl
   case hst2_1 =>
    have k0:=(h.ext rfl).cell cB
    go_simp
    exact hK.out _ _ (apaJ.s3 (h.ld))
   exact inv_nil
  | s3 h =>
   refine inv_ready (rs:=[12]) (by kernel_rfl) (by simp) ?_
   refine inv_cons (o:=?ow3_12) ?ho3_12 (fun K hK=>?hst3_12) ?hmore3_12
   case ho3_12=>simp only [List.getElem?_toArray,List.getElem?_cons_succ,List.getElem?_cons_zero];rfl
   case hst3_12 =>
    obtain ⟨V,hx,rfl,rfl⟩:=h.h11 rfl rfl
    obtain rfl:=h.h1 rfl
    clear h
    have hsz:=hx.size
    have how:=own_ext' HO.out.own (hx.alloc (.cells #[.bool ng,.string sr,.slice B nt dt] 49))
    refine step_append_at (by rfl) _ _ _ (by rfl) base 49 j0 (.agg #[.bool false,.string ⟨#[]⟩,.slice none 0 0]) 3 48 Tryz.underlying43 HJ0.out.1 HJ0.out.2.1 HJ0.out.2.2.1 HJ0.out.2.2.2 rfl (by omega) (.slice A0 n c0) n css.flatten (by rfl) how ⟨V.heap.size,0,none⟩ 1 1 [.bool ng,.string sr,.slice B nt dt] (by rfl) (by rfl) (laid_news V _ _) (by simp [Value.oneCell']) (by simp only [maxLen];omega) (by omega) (by simp;omega) ?_
    intro v9 W9 hr9 hg9 hl9
    obtain ⟨A9,c9,rfl⟩:=own_slice hr9
    (try simp only [Act.put,List.setIfInBounds_toArray,List.set_cons_zero,List.set_cons_succ])
    exact hK.out _ _ (apaJ.s4 (ApI.app HO.out HB.out (by decide) hx HR.out rfl hr9 hg9))
   exact inv_nil
  | s4 h =>
   refine inv_ready (rs:=[13]) (by kernel_rfl) (by simp) ?_
   refine inv_cons (o:=?ow4_13) ?ho4_13 (fun K hK=>?hst4_13) ?hmore4_13
   case ho4_13=>simp only [List.getElem?_toArray,List.getElem?_cons_succ,List.getElem?_cons_zero];rfl
   case hst4_13 =>
    go_simp
    exact hK.out _ _ (apaJ.s5 (h.fa))
   exact inv_nil
  | s5 h =>
   refine inv_ready (rs:=[14]) (by kernel_rfl) (by simp) ?_
   refine inv_cons (o:=?ow5_14) ?ho5_14 (fun K hK=>?hst5_14) ?hmore5_14
   case ho5_14=>simp only [List.getElem?_toArray,List.getElem?_cons_succ,List.getElem?_cons_zero];rfl
   case hst5_14 =>
    obtain ⟨A9,c9,rfl,hr,hb⟩:=h.h12 rfl rfl
    obtain rfl:=h.h13 rfl
    have k0:=hb.cell (i:=0) (by rw [HBX.out];decide);have k1:=hb.free 0
    have h9:=h.store (by decide) hgF
    clear hr hb h
    go_simp
    exact hK.out _ _ (apaJ.s6 (h9))
   exact inv_nil
noncomputable def apcRg:Code:=((Tryz.f4.body.bind (findRegion 22)).getD .skip)
inductive apcJ (F:Nat→Prop) (w1:World) (gt base n c0:Nat) (A0:Option Addr) (va vc:Value) (xs:List Cd) (css:List (List Value)) (x:Cd) (s0 s4:ByteArray) (z1 z2 z3:Int) (Fz:Value→Value→Value→Value→ Act):Nat→Array Bool→Act→World→Prop
 | s0 {t72 t82 t83 t84:Value} {W:World} (h:ApI rdCd 53 F w1 gt 1 base n c0 A0 [va,vc] xs css x [.string s0,.int .i64 z1,.int .i64 z2,.int .i64 z3,.string s4] false false false false false t72 t82 t83 t84 W):apcJ F w1 gt base n c0 A0 va vc xs css x s0 s4 z1 z2 z3 Fz 5 #[true,false,true,true,true,true,true,true,true,true,true,false,false,false,false] (Fz t72 t82 t83 t84) W
 | s1 {t72 t82 t83 t84:Value} {W:World} (h:ApI rdCd 53 F w1 gt 1 base n c0 A0 [va,vc] xs css x [.string s0,.int .i64 z1,.int .i64 z2,.int .i64 z3,.string s4] true false false false false t72 t82 t83 t84 W):apcJ F w1 gt base n c0 A0 va vc xs css x s0 s4 z1 z2 z3 Fz 4 #[true,true,true,true,true,true,true,true,true,true,true,false,false,false,false] (Fz t72 t82 t83 t84) W
 | s2 {t72 t82 t83 t84:Value} {W:World} (h:ApI rdCd 53 F w1 gt 1 base n c0 A0 [va,vc] xs css x [.string s0,.int .i64 z1,.int .i64 z2,.int .i64 z3,.string s4] false true false false false t72 t82 t83 t84 W):apcJ F w1 gt base n c0 A0 va vc xs css x s0 s4 z1 z2 z3 Fz 4 #[true,false,true,true,true,true,true,true,true,true,true,true,false,false,false] (Fz t72 t82 t83 t84) W
 | s3 {t72 t82 t83 t84:Value} {W:World} (h:ApI rdCd 53 F w1 gt 1 base n c0 A0 [va,vc] xs css x [.string s0,.int .i64 z1,.int .i64 z2,.int .i64 z3,.string s4] true true false false false t72 t82 t83 t84 W):apcJ F w1 gt base n c0 A0 va vc xs css x s0 s4 z1 z2 z3 Fz 3 #[true,true,true,true,true,true,true,true,true,true,true,true,false,false,false] (Fz t72 t82 t83 t84) W
 | s4 {t72 t82 t83 t84:Value} {W:World} (h:ApI rdCd 53 F w1 gt 1 base n c0 A0 [va,vc] xs css x [.string s0,.int .i64 z1,.int .i64 z2,.int .i64 z3,.string s4] true true true false false t72 t82 t83 t84 W):apcJ F w1 gt base n c0 A0 va vc xs css x s0 s4 z1 z2 z3 Fz 2 #[true,true,true,true,true,true,true,true,true,true,true,true,true,false,false] (Fz t72 t82 t83 t84) W
 | s5 {t72 t82 t83 t84:Value} {W:World} (h:ApI rdCd 53 F w1 gt 1 base n c0 A0 [va,vc] xs css x [.string s0,.int .i64 z1,.int .i64 z2,.int .i64 z3,.string s4] true true true true false t72 t82 t83 t84 W):apcJ F w1 gt base n c0 A0 va vc xs css x s0 s4 z1 z2 z3 Fz 1 #[true,true,true,true,true,true,true,true,true,true,true,true,true,true,false] (Fz t72 t82 t83 t84) W
 | s6 {t72 t82 t83 t84:Value} {W:World} (h:ApI rdCd 53 F w1 gt 1 base n c0 A0 [va,vc] xs css x [.string s0,.int .i64 z1,.int .i64 z2,.int .i64 z3,.string s4] true true true true true t72 t82 t83 t84 W):apcJ F w1 gt base n c0 A0 va vc xs css x s0 s4 z1 z2 z3 Fz 0 #[true,true,true,true,true,true,true,true,true,true,true,true,true,true,true] (Fz t72 t82 t83 t84) W
set_option maxRecDepth 20000 in
set_option maxHeartbeats 3200000 in
theorem apc_reg {K:Act→World→Prop} {Q:Exit→Act→World→Prop} {w1:World} {F:Nat→Prop} {base n c0:Nat} {A0:Option Addr} {va vc:Value} {xs:List Cd} {css:List (List Value)} {x:Cd} {g0 gt i k nr cr na ca:Nat} {ad ae:Addr} {s0 s4:ByteArray} {z1 z2 z3:Int} {u0 u1 u2 u3 u4 u6 u7 u8 u9 u10 u11 u12 u15 u17 u18 u19 u20 u21 u22 u23 u24 u25 u26 u27 u28 u29 u30 u31 u32 u33 u34 u35 u36 u37 u38 u39 u40 u41 u42 u43 u44 u45 u46 u47 u48 u49 u50 u51 u52 u53 u54 u55 u56 u57 u58 u59 u60 u61 u62 u63 u64 u65 u66 u67 u68 u69 u70 u71 u72 u73 u74 u75 u76 u77 u78 u79 u80 u81 u82 u83 u84 u85 u86 u87 u88 u89 u90 u91 u92 u93 u94 u95 u96 u111 u112 u113 u114 u115 u116 u117 u118 u119 u120 u121 u122 u123 u124 u125 u126 u127 u128 u129 u130 u131 u132 x72 x82 x83 x84 z97 z99 z100 z101 z102 z103 z104 z105 z106 z107:Value}
  (i1:(0:Int)≤(i:Int)) (i2:(i:Int) < (nr:Int)) (k1:(0:Int)≤(k:Int)) (k2:(k:Int) < (na:Int)) (b3:w1.cell? ⟨g0,3,none⟩=some (.slice (some ad) nr cr)) (d0:w1.cell? ⟨(ad.add (i * 2)).block,(ad.add (i * 2)).off + 1,none⟩=some (.slice (some ae) na ca)) (e0:w1.cell? (ae.add (k * 5))=some (.string s0)) (e1:w1.cell? ⟨(ae.add (k * 5)).block,(ae.add (k * 5)).off + 1,none⟩=some (.int .i64 z1)) (e2:w1.cell? ⟨(ae.add (k * 5)).block,(ae.add (k * 5)).off + 2,none⟩=some (.int .i64 z2)) (e3:w1.cell? ⟨(ae.add (k * 5)).block,(ae.add (k * 5)).off + 3,none⟩=some (.int .i64 z3)) (e4:w1.cell? ⟨(ae.add (k * 5)).block,(ae.add (k * 5)).off + 4,none⟩=some (.string s4))
  (hB:Bk w1 gt 46 [va,vc]) (hsl : [va,vc][1]'(by simp) = .slice A0 n c0) (hO:RwF rdCd F w1 base 53 (.slice A0 n c0) n xs css) (hbase:base≤w1.heap.size) (hn:n≤1000000) (hR:rdCd.R F w1 [.string s0,.int .i64 z1,.int .i64 z2,.int .i64 z3,.string s4] x) (hgF:¬ F gt)
  (n1:¬ ((Value.slice A0 n c0).ownBlock=some g0 ∨ g0=gt)) (n2:¬ ((Value.slice A0 n c0).ownBlock=some ad.block ∨ ad.block=gt)) (n3:¬ ((Value.slice A0 n c0).ownBlock=some ae.block ∨ ae.block=gt))
  (hK:∀ A9 c9 t72 t82 t83 t84 W,Fr (fun k=>(Value.slice A0 n c0).ownBlock=some k ∨ k=gt) w1 W→RwF rdCd F W base 53 (.slice A9 (n + 1) c9) (n + 1) (xs ++ [x]) (css ++ [[.string s0,.int .i64 z1,.int .i64 z2,.int .i64 z3,.string s4]])→Bk W gt 46 ([va,vc].set 1 (.slice A9 (n + 1) c9))→K ⟨#[u0,u1,u2,u3,u4,.pointer (some ⟨g0,0,none⟩),u6,u7,u8,u9,u10,u11,u12,.int .i64 (i:Int),.pointer (some ⟨gt,0,none⟩),u15,.int .i64 (k:Int),u17,u18,u19,u20,u21,u22,u23,u24,u25,u26,u27,u28,u29,u30,u31,u32,u33,u34,u35,u36,u37,u38,u39,u40,u41,u42,u43,u44,u45,u46,u47,u48,u49,u50,u51,u52,u53,u54,u55,u56,u57,u58,u59,u60,u61,u62,u63,u64,u65,u66,u67,u68,u69,u70,u71,u72,u73,u74,u75,u76,u77,u78,u79,u80,u81,u82,u83,u84,u85,u86,u87,u88,u89,u90,u91,u92,u93,u94,u95,u96,.pointer (some ⟨gt,1,none⟩),t72,.pointer (some ⟨g0,3,none⟩),.slice (some ad) nr cr,.int .i64 (i:Int),.pointer (some (ad.add (i * 2))),.pointer (some ⟨(ad.add (i * 2)).block,(ad.add (i * 2)).off + 1,none⟩),.slice (some ae) na ca,.int .i64 (k:Int),.pointer (some (ae.add (k * 5))),.agg #[.string s0,.int .i64 z1,.int .i64 z2,.int .i64 z3,.string s4],t82,t83,t84,u111,u112,u113,u114,u115,u116,u117,u118,u119,u120,u121,u122,u123,u124,u125,u126,u127,u128,u129,u130,u131,u132],[]⟩ W) :
  Code.wp Tryz.prog apcRg (Exit.then K Q) ⟨#[u0,u1,u2,u3,u4,.pointer (some ⟨g0,0,none⟩),u6,u7,u8,u9,u10,u11,u12,.int .i64 (i:Int),.pointer (some ⟨gt,0,none⟩),u15,.int .i64 (k:Int),u17,u18,u19,u20,u21,u22,u23,u24,u25,u26,u27,u28,u29,u30,u31,u32,u33,u34,u35,u36,u37,u38,u39,u40,u41,u42,u43,u44,u45,u46,u47,u48,u49,u50,u51,u52,u53,u54,u55,u56,u57,u58,u59,u60,u61,u62,u63,u64,u65,u66,u67,u68,u69,u70,u71,u72,u73,u74,u75,u76,u77,u78,u79,u80,u81,u82,u83,u84,u85,u86,u87,u88,u89,u90,u91,u92,u93,u94,u95,u96,z97,x72,z99,z100,z101,z102,z103,z104,z105,z106,z107,x82,x83,x84,u111,u112,u113,u114,u115,u116,u117,u118,u119,u120,u121,u122,u123,u124,u125,u126,u127,u128,u129,u130,u131,u132],[]⟩ w1:=by
 have HK:=Lib.hid hK
 have HO:=Lib.hid hO;have HB:=Lib.hid hB;have HR:=Lib.hid hR
 have HBX:Hid ([va,vc].length=2):=Lib.hid rfl
 have cB:=hB.cell (i:=1) (by simp)
 rw [hsl] at cB
 obtain ⟨j0,hj0,hz0,hz1,hz2⟩:=info_parts info_cond
 have HJ0:=Lib.hid (And.intro hj0 (And.intro hz0 (And.intro hz1 hz2)))
 clear hK hO hB hR hj0 hz0 hz1 hz2 hsl
 conv=>arg 2;whnf
 refine wp_only ?_
 refine wp_region_held_drew (S:=fun V=>Fr (fun k=>(Value.slice A0 n c0).ownBlock=some k ∨ k=gt) w1 V) (by kernel_rfl) (Fr.refl _ w1).drew (fun hHeld=>?_)
 refine wpAnyH_take (i:=0) (oi:=?ox0) (v:=.pointer (some ⟨gt,1,none⟩)) ?hx0 (by kernel_rfl) (by kernel_rfl) (by kernel_rfl) (fun _ _ _ h=>h) (Or.inl ⟨?wx0,?yx0⟩) hHeld ?rx0
 case hx0=>simp only [List.getElem?_toArray,List.getElem?_cons_succ,List.getElem?_cons_zero];rfl
 case wx0=>rfl
 case yx0 =>
  intro V hSw

  simp [go_sem] <;> with_reducible rfl
 (try simp only [Act.put,List.setIfInBounds_toArray,List.set_cons_zero,List.set_cons_succ])
 refine wpAnyH_take (i:=2) (oi:=?ox2) (v:=.pointer (some ⟨g0,3,none⟩)) ?hx2 (by kernel_rfl) (by kernel_rfl) (by kernel_rfl) (fun _ _ _ h=>h) (Or.inl ⟨?wx2,?yx2⟩) hHeld ?rx2
 case hx2=>simp only [List.getElem?_toArray,List.getElem?_cons_succ,List.getElem?_cons_zero];rfl
 case wx2=>rfl
 case yx2 =>
  intro V hSw

  simp [go_sem] <;> with_reducible rfl
 (try simp only [Act.put,List.setIfInBounds_toArray,List.set_cons_zero,List.set_cons_succ])
 refine wpAnyH_take (i:=3) (oi:=?ox3) (v:=.slice (some ad) nr cr) ?hx3 (by kernel_rfl) (by kernel_rfl) (by kernel_rfl) (fun _ _ _ h=>h) (Or.inl ⟨?wx3,?yx3⟩) hHeld ?rx3
 case hx3=>simp only [List.getElem?_toArray,List.getElem?_cons_succ,List.getElem?_cons_zero];rfl
 case wx3=>rfl
 case yx3 =>
  intro V hSw
  have q0:=Fr.cell hSw b3 n1
  simp [go_sem,q0] <;> with_reducible rfl
 (try simp only [Act.put,List.setIfInBounds_toArray,List.set_cons_zero,List.set_cons_succ])
 refine wpAnyH_take (i:=4) (oi:=?ox4) (v:=.int .i64 (i:Int)) ?hx4 (by kernel_rfl) (by kernel_rfl) (by kernel_rfl) (fun _ _ _ h=>h) (Or.inl ⟨?wx4,?yx4⟩) hHeld ?rx4
 case hx4=>simp only [List.getElem?_toArray,List.getElem?_cons_succ,List.getElem?_cons_zero];rfl
 case wx4=>rfl
 case yx4 =>
  intro V hSw

  simp [go_sem] <;> with_reducible rfl
 (try simp only [Act.put,List.setIfInBounds_toArray,List.set_cons_zero,List.set_cons_succ])
 refine wpAnyH_take (i:=5) (oi:=?ox5) (v:=.pointer (some (ad.add (i * 2)))) ?hx5 (by kernel_rfl) (by kernel_rfl) (by kernel_rfl) (fun _ _ _ h=>h) (Or.inl ⟨?wx5,?yx5⟩) hHeld ?rx5
 case hx5=>simp only [List.getElem?_toArray,List.getElem?_cons_succ,List.getElem?_cons_zero];rfl
 case wx5=>rfl
 case yx5 =>
  intro V hSw

  simp [go_sem,i1,i2] <;> with_reducible rfl
 (try simp only [Act.put,List.setIfInBounds_toArray,List.set_cons_zero,List.set_cons_succ])
 refine wpAnyH_take (i:=6) (oi:=?ox6) (v:=.pointer (some ⟨(ad.add (i * 2)).block,(ad.add (i * 2)).off + 1,none⟩)) ?hx6 (by kernel_rfl) (by kernel_rfl) (by kernel_rfl) (fun _ _ _ h=>h) (Or.inl ⟨?wx6,?yx6⟩) hHeld ?rx6
 case hx6=>simp only [List.getElem?_toArray,List.getElem?_cons_succ,List.getElem?_cons_zero];rfl
 case wx6=>rfl
 case yx6 =>
  intro V hSw

  simp [go_sem] <;> with_reducible rfl
 (try simp only [Act.put,List.setIfInBounds_toArray,List.set_cons_zero,List.set_cons_succ])
 refine wpAnyH_take (i:=7) (oi:=?ox7) (v:=.slice (some ae) na ca) ?hx7 (by kernel_rfl) (by kernel_rfl) (by kernel_rfl) (fun _ _ _ h=>h) (Or.inl ⟨?wx7,?yx7⟩) hHeld ?rx7
 case hx7=>simp only [List.getElem?_toArray,List.getElem?_cons_succ,List.getElem?_cons_zero];rfl
 case wx7=>rfl
 case yx7 =>
  intro V hSw
  have q0:=Fr.cell hSw d0 (by rw [block_add];exact n2)
  simp [go_sem,q0] <;> with_reducible rfl
 (try simp only [Act.put,List.setIfInBounds_toArray,List.set_cons_zero,List.set_cons_succ])
 refine wpAnyH_take (i:=8) (oi:=?ox8) (v:=.int .i64 (k:Int)) ?hx8 (by kernel_rfl) (by kernel_rfl) (by kernel_rfl) (fun _ _ _ h=>h) (Or.inl ⟨?wx8,?yx8⟩) hHeld ?rx8
 case hx8=>simp only [List.getElem?_toArray,List.getElem?_cons_succ,List.getElem?_cons_zero];rfl
 case wx8=>rfl
 case yx8 =>
  intro V hSw

  simp [go_sem] <;> with_reducible rfl
 (try simp only [Act.put,List.setIfInBounds_toArray,List.set_cons_zero,List.set_cons_succ])
 refine wpAnyH_take (i:=9) (oi:=?ox9) (v:=.pointer (some (ae.add (k * 5)))) ?hx9 (by kernel_rfl) (by kernel_rfl) (by kernel_rfl) (fun _ _ _ h=>h) (Or.inl ⟨?wx9,?yx9⟩) hHeld ?rx9
 case hx9=>simp only [List.getElem?_toArray,List.getElem?_cons_succ,List.getElem?_cons_zero];rfl
 case wx9=>rfl
 case yx9 =>
  intro V hSw

  simp [go_sem,k1,k2] <;> with_reducible rfl
 (try simp only [Act.put,List.setIfInBounds_toArray,List.set_cons_zero,List.set_cons_succ])
 refine wpAnyH_take (i:=10) (oi:=?ox10) (v:=.agg #[.string s0,.int .i64 z1,.int .i64 z2,.int .i64 z3,.string s4]) ?hx10 (by kernel_rfl) (by kernel_rfl) (by kernel_rfl) (fun _ _ _ h=>h) (Or.inl ⟨?wx10,?yx10⟩) hHeld ?rx10
 case hx10=>simp only [List.getElem?_toArray,List.getElem?_cons_succ,List.getElem?_cons_zero];rfl
 case wx10=>rfl
 case yx10 =>
  intro V hSw
  have q0:=Fr.cell hSw e0 (by rw [block_add];exact n3)
  have q1:=Fr.cell hSw e1 (by rw [block_add];exact n3)
  have q2:=Fr.cell hSw e2 (by rw [block_add];exact n3)
  have q3:=Fr.cell hSw e3 (by rw [block_add];exact n3)
  have q4:=Fr.cell hSw e4 (by rw [block_add];exact n3)
  simp [go_sem,q0,q1,q2,q3,q4] <;> with_reducible rfl
 (try simp only [Act.put,List.setIfInBounds_toArray,List.set_cons_zero,List.set_cons_succ])
 clear b3 d0 e0 e1 e2 e3 e4
 refine inv_any (I:=apcJ F w1 gt base n c0 A0 va vc xs css x s0 s4 z1 z2 z3 (fun t72 t82 t83 t84=>⟨#[u0,u1,u2,u3,u4,.pointer (some ⟨g0,0,none⟩),u6,u7,u8,u9,u10,u11,u12,.int .i64 (i:Int),.pointer (some ⟨gt,0,none⟩),u15,.int .i64 (k:Int),u17,u18,u19,u20,u21,u22,u23,u24,u25,u26,u27,u28,u29,u30,u31,u32,u33,u34,u35,u36,u37,u38,u39,u40,u41,u42,u43,u44,u45,u46,u47,u48,u49,u50,u51,u52,u53,u54,u55,u56,u57,u58,u59,u60,u61,u62,u63,u64,u65,u66,u67,u68,u69,u70,u71,u72,u73,u74,u75,u76,u77,u78,u79,u80,u81,u82,u83,u84,u85,u86,u87,u88,u89,u90,u91,u92,u93,u94,u95,u96,.pointer (some ⟨gt,1,none⟩),t72,.pointer (some ⟨g0,3,none⟩),.slice (some ad) nr cr,.int .i64 (i:Int),.pointer (some (ad.add (i * 2))),.pointer (some ⟨(ad.add (i * 2)).block,(ad.add (i * 2)).off + 1,none⟩),.slice (some ae) na ca,.int .i64 (k:Int),.pointer (some (ae.add (k * 5))),.agg #[.string s0,.int .i64 z1,.int .i64 z2,.int .i64 z3,.string s4],t82,t83,t84,u111,u112,u113,u114,u115,u116,u117,u118,u119,u120,u121,u122,u123,u124,u125,u126,u127,u128,u129,u130,u131,u132],[]⟩)) ?hS ?h0 ?h1 _ _ _ _ ?st
 case hS =>
  intro n l act W hI
  cases hI with
  | s0 h=>exact h.fr
  | s1 h=>exact h.fr
  | s2 h=>exact h.fr
  | s3 h=>exact h.fr
  | s4 h=>exact h.fr
  | s5 h=>exact h.fr
  | s6 h=>exact h.fr
 case st=>exact apcJ.s0 ApI.start
 case h0 =>
  intro l act W hI
  cases hI with
  | s6 h =>
   refine ⟨by kernel_rfl,?_⟩
   obtain ⟨A9,c9,hr,hb⟩:=h.h14 rfl
   exact HK.out _ _ _ _ _ _ _ h.fr hr hb
 case h1 =>
  intro m l act W hI
  cases hI with
  | s0 h =>
   refine inv_ready (rs:=[1,11]) (by kernel_rfl) (by simp) ?_
   refine inv_cons (o:=?ow0_1) ?ho0_1 (fun K hK=>?hst0_1) ?hmore0_1
   case ho0_1=>simp only [List.getElem?_toArray,List.getElem?_cons_succ,List.getElem?_cons_zero];rfl
   case hst0_1 =>
    have k0:=(h.ext rfl).cell cB
    go_simp
    exact hK.out _ _ (apcJ.s1 (h.ld))
   refine inv_cons (o:=?ow0_11) ?ho0_11 (fun K hK=>?hst0_11) ?hmore0_11
   case ho0_11=>simp only [List.getElem?_toArray,List.getElem?_cons_succ,List.getElem?_cons_zero];rfl
   case hst0_11 =>
    go_simp
    exact hK.out _ _ (apcJ.s2 (h.bld))
   exact inv_nil
  | s1 h =>
   refine inv_ready (rs:=[11]) (by kernel_rfl) (by simp) ?_
   refine inv_cons (o:=?ow1_11) ?ho1_11 (fun K hK=>?hst1_11) ?hmore1_11
   case ho1_11=>simp only [List.getElem?_toArray,List.getElem?_cons_succ,List.getElem?_cons_zero];rfl
   case hst1_11 =>
    go_simp
    exact hK.out _ _ (apcJ.s3 (h.bld))
   exact inv_nil
  | s2 h =>
   refine inv_ready (rs:=[1]) (by kernel_rfl) (by simp) ?_
   refine inv_cons (o:=?ow2_1) ?ho2_1 (fun K hK=>?hst2_1) ?hmore2_1
   case ho2_1=>simp only [List.getElem?_toArray,List.getElem?_cons_succ,List.getElem?_cons_zero];rfl
   case hst2_1 =>
    have k0:=(h.ext rfl).cell cB
    go_simp
    exact hK.out _ _ (apcJ.s3 (h.ld))
   exact inv_nil
  | s3 h =>
   refine inv_ready (rs:=[12]) (by kernel_rfl) (by simp) ?_
   refine inv_cons (o:=?ow3_12) ?ho3_12 (fun K hK=>?hst3_12) ?hmore3_12
   case ho3_12=>simp only [List.getElem?_toArray,List.getElem?_cons_succ,List.getElem?_cons_zero];rfl
   case hst3_12 =>
    obtain ⟨V,hx,rfl,rfl⟩:=h.h11 rfl rfl
    obtain rfl:=h.h1 rfl
    clear h
    have hsz:=hx.size
    have how:=own_ext' HO.out.own (hx.alloc (.cells #[.string s0,.int .i64 z1,.int .i64 z2,.int .i64 z3,.string s4] 53))
    refine step_append_at (by rfl) _ _ _ (by rfl) base 53 j0 (.agg #[.string ⟨#[]⟩,.int .i64 0,.int .i64 0,.int .i64 0,.string ⟨#[]⟩]) 5 56 Tryz.underlying44 HJ0.out.1 HJ0.out.2.1 HJ0.out.2.2.1 HJ0.out.2.2.2 rfl (by omega) (.slice A0 n c0) n css.flatten (by rfl) how ⟨V.heap.size,0,none⟩ 1 1 [.string s0,.int .i64 z1,.int .i64 z2,.int .i64 z3,.string s4] (by rfl) (by rfl) (laid_news V _ _) (by simp [Value.oneCell']) (by simp only [maxLen];omega) (by omega) (by simp;omega) ?_
    intro v9 W9 hr9 hg9 hl9
    obtain ⟨A9,c9,rfl⟩:=own_slice hr9
    (try simp only [Act.put,List.setIfInBounds_toArray,List.set_cons_zero,List.set_cons_succ])
    exact hK.out _ _ (apcJ.s4 (ApI.app HO.out HB.out (by decide) hx HR.out rfl hr9 hg9))
   exact inv_nil
  | s4 h =>
   refine inv_ready (rs:=[13]) (by kernel_rfl) (by simp) ?_
   refine inv_cons (o:=?ow4_13) ?ho4_13 (fun K hK=>?hst4_13) ?hmore4_13
   case ho4_13=>simp only [List.getElem?_toArray,List.getElem?_cons_succ,List.getElem?_cons_zero];rfl
   case hst4_13 =>
    go_simp
    exact hK.out _ _ (apcJ.s5 (h.fa))
   exact inv_nil
  | s5 h =>
   refine inv_ready (rs:=[14]) (by kernel_rfl) (by simp) ?_
   refine inv_cons (o:=?ow5_14) ?ho5_14 (fun K hK=>?hst5_14) ?hmore5_14
   case ho5_14=>simp only [List.getElem?_toArray,List.getElem?_cons_succ,List.getElem?_cons_zero];rfl
   case hst5_14 =>
    obtain ⟨A9,c9,rfl,hr,hb⟩:=h.h12 rfl rfl
    obtain rfl:=h.h13 rfl
    have k0:=hb.cell (i:=1) (by rw [HBX.out];decide);have k1:=hb.free 1
    have h9:=h.store (by decide) hgF
    clear hr hb h
    go_simp
    exact hK.out _ _ (apcJ.s6 (h9))
   exact inv_nil
end Go.Proofs.YtplldnnnhgnbjaaGreatDoor
