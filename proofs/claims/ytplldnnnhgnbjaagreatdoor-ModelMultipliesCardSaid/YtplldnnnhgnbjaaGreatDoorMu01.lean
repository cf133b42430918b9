/- packed -/
import Derived.Shelf.Strings.Builder1
import Derived.Shelf.Strings.Builder2
import Derived.Shelf.Small.Bits
import Derived.Shelf.Small.Strs
import Derived.Shelf.Small.Wraps
import Derived.Shelf.Strings.BuilderF
import Derived.Shelf.Strconv.Itoa0
import Derived.Shelf.Strconv.Itoa1
import Derived.Shelf.LaysM
import Derived.Shelf.Strconv.Itoa2
import Derived.Shelf.Strconv.Itoa3
import Derived.Shelf.Strconv.Clone
import Derived.Shelf.Sort.Plain
import Derived.Shelf.Strconv.AppendUint10
import Derived.Shelf.Strconv.AppendInt10
import Derived.Shelf.Strconv.AppendIntPublic10
import Derived.Shelf.Strings.Prefix
import Derived.Shelf.Bits.Mul64
import Derived.Shelf.Strings.Repeat
import Derived.Shelf.Slices.Turned
import Derived.Ground.Names2Prog
import Derived.Shelf.Slices.Clone
import Derived.Shelf.Slices.In.SortNone
import Derived.Test.YtplldnnnhgnbjaaGreatDoorProg
import Derived.BigQuiet
import Derived.Deep.AppendLies
import Derived.Deep.CutBlock
import Derived.Deep.DeepCutAuto
import Derived.Deep.QuietTactic
import Derived.Deep.RegionHeld3
import Derived.Deep.RegionLaw
import Derived.Deep.Upon
import Derived.KernelRfl
import Derived.Laws.BytesString
import Derived.Laws.EntriesVeiled
import Derived.Lib.AppendStr
import Derived.Lib.Hide
import Derived.Lib.ItoaLen
import Derived.Lib.SliceRun
import Derived.Maps.OwnOps
import Derived.Maps.OwnSet
import Derived.Maps.Views
import Derived.OwnWalk
import Derived.WalkKit
import Derived.WalkLawsBesides
import Derived.WalkSpells
namespace Go.Proofs
open Go.Shelf
def Tryz.lays125_ren:Go.Shelf.Ren:=⟨fun|125=>123|128=>196|129=>197|n=>n,fun|46=>166|3=>3|51=>165|53=>87|4=>4|5=>5|9=>9|n=>n,fun|n=>n⟩
theorem Tryz.lays125:Go.Proofs.Lays.n125 Tryz.prog Tryz.lays125_ren:={
 mixed:=by kernel_rfl
 f125:=Tryz.func123.trans (congrArg some (by kernel_rfl))
 f128:=Tryz.func196.trans (congrArg some (by kernel_rfl))
 f129:=Tryz.func197.trans (congrArg some (by kernel_rfl))
 t3:=Tryz.underlying3
 a3:=Tryz.isAgg3
 z3:=Tryz.sizeOf3
 v3:=Tryz.zeroValue3
 t4:=Tryz.underlying4
 a4:=Tryz.isAgg4
 z4:=Tryz.sizeOf4
 v4:=Tryz.zeroValue4
 t5:=Tryz.underlying5
 a5:=Tryz.isAgg5
 z5:=Tryz.sizeOf5
 v5:=Tryz.zeroValue5
 t9:=Tryz.underlying9
 a9:=Tryz.isAgg9
 z9:=Tryz.sizeOf9
 v9:=Tryz.zeroValue9
 t46:=Tryz.underlying166
 a46:=Tryz.isAgg166
 z46:=Tryz.sizeOf166
 v46:=Tryz.zeroValue166
 t51:=Tryz.underlying165
 a51:=Tryz.isAgg165
 z51:=Tryz.sizeOf165
 v51:=Tryz.zeroValue165
 t53:=Tryz.underlying87
 a53:=Tryz.isAgg87
 z53:=Tryz.sizeOf87
 v53:=Tryz.zeroValue87 }
theorem Tryz.bits_Len(x:Int)(w:World)(h0 : 0≤x)(h1:x≤18446744073709551615) :
  Calls Tryz.prog 123 #[.int .u64 x] w fun e w'=>e=.returned (.int .i64 (Lib.bitLen x.toNat))∧w'=w:=Any.bits_Len Tryz.lays125 x w h0 h1
def Tryz.lays213_ren:Go.Shelf.Ren:=⟨fun|213=>247|265=>276|n=>n,fun|9=>9|3=>3|n=>n,fun|n=>n⟩
def Tryz.lays106_ren:Go.Shelf.Ren:=⟨fun|106=>199|213=>247|265=>276|n=>n,fun|9=>9|3=>3|n=>n,fun|n=>n⟩
theorem Tryz.lays106:Go.Proofs.Lays.n106 Tryz.prog Tryz.lays106_ren:={
 mixed:=by kernel_rfl
 f106:=Tryz.func199.trans (congrArg some (by kernel_rfl))
 f213:=Tryz.func247.trans (congrArg some (by kernel_rfl))
 f265:=Tryz.func276.trans (congrArg some (by kernel_rfl))
 t3:=Tryz.underlying3
 a3:=Tryz.isAgg3
 z3:=Tryz.sizeOf3
 v3:=Tryz.zeroValue3
 t9:=Tryz.underlying9
 a9:=Tryz.isAgg9
 z9:=Tryz.sizeOf9
 v9:=Tryz.zeroValue9 }
open Go.RowKit in
theorem Tryz.strings_Compare(a b:ByteArray)(w:World) :
  Calls Tryz.prog 199 #[.string a,.string b] w fun e w'=>e=.returned (.int .i64 (Lib.compareBytes a.data.toList b.data.toList))∧w'=w:=Any.strings_Compare Tryz.lays106 a b w
def Tryz.lays215_ren:Go.Shelf.Ren:=⟨fun|215=>154|n=>n,fun|3=>3|4=>4|n=>n,fun|n=>n⟩
def Tryz.lays122_ren:Go.Shelf.Ren:=⟨fun|122=>77|215=>154|n=>n,fun|3=>3|4=>4|n=>n,fun|n=>n⟩
theorem Tryz.lays122:Go.Proofs.Lays.n122 Tryz.prog Tryz.lays122_ren:={
 mixed:=by kernel_rfl
 f122:=Tryz.func77.trans (congrArg some (by kernel_rfl))
 f215:=Tryz.func154.trans (congrArg some (by kernel_rfl))
 t3:=Tryz.underlying3
 a3:=Tryz.isAgg3
 z3:=Tryz.sizeOf3
 v3:=Tryz.zeroValue3
 t4:=Tryz.underlying4
 a4:=Tryz.isAgg4
 z4:=Tryz.sizeOf4
 v4:=Tryz.zeroValue4 }
open Go.RowKit in
theorem Tryz.cmp_Compare_int(x y:Int)(w:World) :
  Calls Tryz.prog 77 #[.int .i64 x,.int .i64 y] w fun e w'=>e=.returned (.int .i64 (Lib.compareInt x y))∧w'=w:=Any.cmp_Compare_int Tryz.lays122 x y w
def Tryz.laysM246_ren:Go.Shelf.Ren:=⟨fun|246=>268|283=>271|284=>272|285=>273|286=>274|129=>197|317=>296|318=>297|319=>298|320=>299|337=>305|338=>306|n=>n,fun|2=>2|3=>3|9=>9|4=>4|171=>369|0=>0|53=>87|37=>230|5=>5|173=>371|212=>390|51=>165|20=>20|213=>391|46=>166|232=>395|233=>396|n=>n,fun|17=>1|18=>2|19=>3|n=>n⟩
def Tryz.laysM316_ren:Go.Shelf.Ren:=⟨fun|316=>214|n=>n,fun|9=>9|3=>3|4=>4|37=>230|0=>0|127=>355|5=>5|n=>n,fun|n=>n⟩
theorem Tryz.laysM316:Go.Proofs.LaysM.n316 Tryz.prog Tryz.laysM316_ren:={
 mixed:=by kernel_rfl
 f316:=Tryz.func214.trans (congrArg some (by kernel_rfl))
 t0:=Tryz.underlying0
 a0:=Tryz.isAgg0
 z0:=Tryz.sizeOf0
 v0:=Tryz.zeroValue0
 t3:=Tryz.underlying3
 a3:=Tryz.isAgg3
 z3:=Tryz.sizeOf3
 v3:=Tryz.zeroValue3
 t4:=Tryz.underlying4
 a4:=Tryz.isAgg4
 z4:=Tryz.sizeOf4
 v4:=Tryz.zeroValue4
 t9:=Tryz.underlying9
 a9:=Tryz.isAgg9
 z9:=Tryz.sizeOf9
 v9:=Tryz.zeroValue9
 t37:=Tryz.underlying230
 a37:=Tryz.isAgg230
 z37:=Tryz.sizeOf230
 v37:=Tryz.zeroValue230
 t127:=Tryz.underlying355
 a127:=Tryz.isAgg355
 z127:=Tryz.sizeOf355
 v127:=Tryz.zeroValue355
 t5:=Tryz.underlying5
 a5:=Tryz.isAgg5
 z5:=Tryz.sizeOf5
 v5:=Tryz.zeroValue5
 i0:=by kernel_rfl
 i3:=by kernel_rfl
 i4:=by kernel_rfl
 i5:=by kernel_rfl
 i9:=by kernel_rfl
 i37:=by kernel_rfl
 i127:=by kernel_rfl }
open Go.RowKit in
theorem Tryz.stringslite_Clone(s:ByteArray)(w:World)(hlim:s.size≤281474976710656) :
  Calls Tryz.prog 214 #[.string s] w fun e w'=>e=.returned (.string s)∧Below w.heap.size w w':=Any.stringslite_Clone Tryz.laysM316 s w hlim
def Tryz.laysM249_ren:Go.Shelf.Ren:=⟨fun|249=>187|288=>240|283=>271|284=>272|285=>273|286=>274|129=>197|317=>296|318=>297|319=>298|320=>299|337=>305|338=>306|n=>n,fun|37=>230|2=>2|3=>3|53=>87|4=>4|9=>9|171=>369|0=>0|173=>371|212=>390|51=>165|5=>5|20=>20|213=>391|46=>166|232=>395|233=>396|n=>n,fun|17=>1|18=>2|19=>3|n=>n⟩
def Tryz.laysM176_ren:Go.Shelf.Ren:=⟨fun|176=>121|249=>187|288=>240|283=>271|284=>272|285=>273|286=>274|129=>197|317=>296|318=>297|319=>298|320=>299|337=>305|338=>306|n=>n,fun|37=>230|2=>2|3=>3|53=>87|4=>4|9=>9|171=>369|0=>0|173=>371|212=>390|51=>165|5=>5|20=>20|213=>391|46=>166|232=>395|233=>396|n=>n,fun|17=>1|18=>2|19=>3|n=>n⟩
theorem Tryz.laysM176:Go.Proofs.LaysM.n176 Tryz.prog Tryz.laysM176_ren:={
 mixed:=by kernel_rfl
 f129:=Tryz.func197.trans (congrArg some (by kernel_rfl))
 f176:=Tryz.func121.trans (congrArg some (by kernel_rfl))
 f249:=Tryz.func187.trans (congrArg some (by kernel_rfl))
 f283:=Tryz.func271.trans (congrArg some (by kernel_rfl))
 f284:=Tryz.func272.trans (congrArg some (by kernel_rfl))
 f285:=Tryz.func273.trans (congrArg some (by kernel_rfl))
 f286:=Tryz.func274.trans (congrArg some (by kernel_rfl))
 f288:=Tryz.func240.trans (congrArg some (by kernel_rfl))
 f317:=Tryz.func296.trans (congrArg some (by kernel_rfl))
 f318:=Tryz.func297.trans (congrArg some (by kernel_rfl))
 f319:=Tryz.func298.trans (congrArg some (by kernel_rfl))
 f320:=Tryz.func299.trans (congrArg some (by kernel_rfl))
 f337:=Tryz.func305.trans (congrArg some (by kernel_rfl))
 f338:=Tryz.func306.trans (congrArg some (by kernel_rfl))
 t0:=Tryz.underlying0
 a0:=Tryz.isAgg0
 z0:=Tryz.sizeOf0
 v0:=Tryz.zeroValue0
 t2:=Tryz.underlying2
 a2:=Tryz.isAgg2
 z2:=Tryz.sizeOf2
 v2:=Tryz.zeroValue2
 t3:=Tryz.underlying3
 a3:=Tryz.isAgg3
 z3:=Tryz.sizeOf3
 v3:=Tryz.zeroValue3
 t4:=Tryz.underlying4
 a4:=Tryz.isAgg4
 z4:=Tryz.sizeOf4
 v4:=Tryz.zeroValue4
 t5:=Tryz.underlying5
 a5:=Tryz.isAgg5
 z5:=Tryz.sizeOf5
 v5:=Tryz.zeroValue5
 t9:=Tryz.underlying9
 a9:=Tryz.isAgg9
 z9:=Tryz.sizeOf9
 v9:=Tryz.zeroValue9
 t20:=Tryz.underlying20
 a20:=Tryz.isAgg20
 z20:=Tryz.sizeOf20
 v20:=Tryz.zeroValue20
 t37:=Tryz.underlying230
 a37:=Tryz.isAgg230
 z37:=Tryz.sizeOf230
 v37:=Tryz.zeroValue230
 t46:=Tryz.underlying166
 a46:=Tryz.isAgg166
 z46:=Tryz.sizeOf166
 v46:=Tryz.zeroValue166
 t51:=Tryz.underlying165
 a51:=Tryz.isAgg165
 z51:=Tryz.sizeOf165
 v51:=Tryz.zeroValue165
 t53:=Tryz.underlying87
 a53:=Tryz.isAgg87
 z53:=Tryz.sizeOf87
 v53:=Tryz.zeroValue87
 t171:=Tryz.underlying369
 a171:=Tryz.isAgg369
 z171:=Tryz.sizeOf369
 v171:=Tryz.zeroValue369
 t173:=Tryz.underlying371
 a173:=Tryz.isAgg371
 z173:=Tryz.sizeOf371
 v173:=Tryz.zeroValue371
 t212:=Tryz.underlying390
 a212:=Tryz.isAgg390
 z212:=Tryz.sizeOf390
 v212:=Tryz.zeroValue390
 t213:=Tryz.underlying391
 a213:=Tryz.isAgg391
 z213:=Tryz.sizeOf391
 t232:=Tryz.underlying395
 a232:=Tryz.isAgg395
 z232:=Tryz.sizeOf395
 v232:=Tryz.zeroValue395
 t233:=Tryz.underlying396
 a233:=Tryz.isAgg396
 z233:=Tryz.sizeOf396
 v233:=Tryz.zeroValue396
 g17:=by kernel_rfl
 g18:=by kernel_rfl
 g19:=by kernel_rfl
 i0:=by kernel_rfl
 i2:=by kernel_rfl
 i3:=by kernel_rfl
 i4:=by kernel_rfl
 i5:=by kernel_rfl
 i9:=by kernel_rfl
 i20:=by kernel_rfl
 i37:=by kernel_rfl
 i46:=by kernel_rfl
 i51:=by kernel_rfl
 i53:=by kernel_rfl
 i171:=by kernel_rfl
 i173:=by kernel_rfl
 i212:=by kernel_rfl
 i232:=by kernel_rfl
 i233:=by kernel_rfl
 m17:=by kernel_rfl
 m18:=by kernel_rfl
 m19:=by kernel_rfl }
open Go.RowKit Go.Sort Go.Lib in
theorem Tryz.strconv_AppendInt_10(B n:Nat)(i:Int)(h0 : -9223372036854775808≤i)(h1:i≤9223372036854775807)(sv:Value)(xs:List Value)(w:World)(hown:w.ownsRow B 5 1 sv n xs)(hBw:B≤w.heap.size)(hlim:n+21≤140737488355328)(htab:Lib.TabBelow Tryz.prog B w "internal/strconv.uint64pow10" .u64 Lib.pow10Tab) :
  Calls Tryz.prog 121 #[sv,.int .i64 i,.int .i64 10] w fun e w'=>∃v',e=.returned v'∧w'.ownsRow B 5 1 v' (n+(Lib.itoa i).length) (xs++Lib.byteCells (Lib.itoa i))∧Below B w w'∧Lib.OthersKept 5 none w w':=Any.strconv_AppendInt_10 Tryz.laysM176 B n i h0 h1 sv xs w hown hBw hlim htab
end Go.Proofs
namespace Go.Proofs.YtplldnnnhgnbjaaGreatDoor
open Go.RowKit Go.Maps
abbrev ja:=@List.getElem_cons_zero
abbrev jb:=@List.getElem?_cons_succ
abbrev jc:=@List.getElem?_cons_zero
abbrev jd:=@List.getElem?_toArray
abbrev je:=@List.getElem_cons_succ
abbrev jf:=@List.setIfInBounds_toArray
abbrev jg:=@List.getElem_mem
abbrev jh:=@List.set_cons_zero
abbrev ji:=@List.set_cons_succ
abbrev jj:=@List.take_succ_eq_append_getElem
abbrev jk:=@List.getElem?_eq_getElem
abbrev jl:=@List.length_append
abbrev jm:=@List.length_map
abbrev jn:=@Nat.zero_le
abbrev jo:=@List.take_of_length_le
abbrev jp:=@List.mem_append
abbrev jq:=@Nat.le_refl
abbrev jr:=@List.mem_cons_of_mem
abbrev js:=@Nat.le_trans
abbrev jt:=@List.mem_singleton
abbrev ju:=@List.length_take
abbrev jv:=@List.getElem_of_mem
abbrev jw:=@List.getElem_append_right
abbrev jx:=@List.getElem_append_left
abbrev jy:=@List.getElem_map
abbrev jz:=@List.all_eq_true
abbrev jA:=@List.mem_filter
abbrev jB:=@Nat.lt_or_ge
abbrev jC:=@List.mem_cons
abbrev jD:=@List.length_cons
abbrev jE:=@List.mem_map
abbrev jF:=@List.getD_eq_getElem?_getD
abbrev jG:=@List.length_filter_le
abbrev jH:=@List.getElem?_set_ne
abbrev jI:=@List.map_append
abbrev jJ:=@List.mem_append_left
abbrev jK:=@List.filter_append
abbrev jL:=@List.any_eq_true
abbrev jM:=@Nat.lt_of_lt_of_le
abbrev jO:=@Int.toNat_natCast
abbrev jP:=@Nat.le_succ
abbrev jQ:=@List.flatMap_cons
abbrev jR:=@List.mem_append_right
abbrev jS:=@List.eq_nil_of_length_eq_zero
abbrev jT:=@Array.getElem?_eq_some_iff
abbrev jU:=@List.map_congr_left
abbrev jV:=@List.take_length
abbrev jW:=@Nat.zero_add
abbrev jX:=@List.nil_append
abbrev jY:=@List.ext_getElem
abbrev jZ:=@List.length_drop
abbrev za:=@List.take_append_drop
abbrev zb:=@List.getElem?_eq_none
abbrev zc:=@List.length_set
abbrev ze:=@List.getElem?_append_right
abbrev zf:=@List.map_cons
abbrev zg:=@Nat.mul_le_mul_right
abbrev zh:=@List.getElem?_eq_some_iff
abbrev zi:=@List.getElem?_append_left
abbrev zj:=@List.drop_eq_getElem_cons
abbrev zk:=@List.pairwise_iff_getElem
abbrev zl:=@List.getElem?_set_self
abbrev zm:=@List.foldl_cons
abbrev zn:=@List.length_nil
abbrev zo:=@List.getElem?_take_of_lt
abbrev zq:=@List.append_assoc
abbrev zr:=@List.length_zip
abbrev zu:=@List.drop_of_length_le
abbrev zw:=@List.cons_append
abbrev zx:=@List.flatMap_append
abbrev zy:=@List.mem_take_iff_getElem
abbrev zz:=@List.not_mem_nil
abbrev zA:=@List.getElem_zip
abbrev zB:=@List.mem_flatMap
abbrev zC:=@Nat.sub_self
abbrev zD:=@List.foldl_append
abbrev zE:=@List.getElem_take
abbrev zF:=@List.getElem_drop
abbrev zG:=@List.getElem?_map
abbrev zH:=@Nat.eq_zero_or_pos
abbrev zI:=@List.mem_cons_self
abbrev zJ:=@List.pairwise_cons
abbrev zK:=@List.getElem_range
abbrev zL:=@List.append_nil
abbrev zM:=@List.nodup_cons
abbrev zN:=@Nat.add_mul
abbrev zO:=@Lib.hid
structure Fr(S:Nat→Prop)(w w':World):Prop where
 os:w'.os=w.os
 tape:w'.tape=w.tape
 output:w'.output=w.output
 size:w.heap.size≤w'.heap.size
 block:∀k,k<w.heap.size→¬S k→w'.heap[k]?=w.heap[k]?
def Ext(w w':World):Prop:=Below w.heap.size w w'
theorem Ext.refl(w:World):Ext w w:=Below.refl _ _
theorem Ext.size{w w':World}(h:Ext w w'):w.heap.size≤w'.heap.size:=Below.size h
theorem Ext.trans{a b c:World}(h:Ext a b)(k:Ext b c):Ext a c:=Below.trans h (Below.mono k h.size)
theorem Ext.drew{a w:World}(h:Ext a w):Ext a w.drew:=Below.drew h
theorem Ext.drewN{a w:World}(h:Ext a w)(n:Nat):Ext a (w.drewN n):=⟨h.os,h.tape,h.output,h.size,h.block⟩
theorem Ext.alloc{a w:World}(h:Ext a w)(o:Obj):Ext a (w.alloc o):=Below.alloc h h.size o
theorem Ext.setCell{a w:World}(h:Ext a w){p:Addr}(hp:a.heap.size≤p.block)(u:Value):Ext a (w.setCell p u):=Below.setCell h hp u
theorem Ext.heap{w w':World}(h:Ext w w'){k:Nat}(hk:k<w.heap.size):w'.heap[k]?=w.heap[k]?:=Below.block h k hk
theorem Ext.fr{w w':World}(h:Ext w w')(S:Nat→Prop):Fr S w w':=⟨h.os,h.tape,h.output,h.size,fun _ hk _=>h.heap hk⟩
theorem Fr.refl(S:Nat→Prop)(w:World):Fr S w w:=(Ext.refl w).fr S
theorem Fr.mono{S T:Nat→Prop}{w w':World}(h:Fr S w w')(hs:∀k,k<w.heap.size→S k→T k):Fr T w w':=⟨h.os,h.tape,h.output,h.size,fun k hk hn=>h.block k hk (fun e=>hn (hs k hk e))⟩
theorem Fr.trans{S:Nat→Prop}{a b c:World}(h:Fr S a b)(k:Fr S b c):Fr S a c :=
 ⟨k.os.trans h.os,k.tape.trans h.tape,k.output.trans h.output,js h.size k.size,fun i hi hn=>(k.block i (jM hi h.size) hn).trans (h.block i hi hn)⟩
theorem Fr.comp{S T:Nat→Prop}{a b c:World}(h:Fr S a b)(k:Fr T b c)(hs:∀k,T k→S k∨a.heap.size≤k):Fr S a c :=
 ⟨k.os.trans h.os,k.tape.trans h.tape,k.output.trans h.output,js h.size k.size,fun i hi hn=>(k.block i (jM hi h.size) (fun e=>by rcases hs i e with h1|h1;exact hn h1;omega)).trans (h.block i hi hn)⟩
theorem Fr.ext{S:Nat→Prop}{a b c:World}(h:Fr S a b)(k:Ext b c):Fr S a c:=h.trans (k.fr S)
theorem Fr.new{S:Nat→Prop}{a w w':World}(ha:Ext a w)(h:Fr S w w')(hS:∀k,S k→a.heap.size≤k):Ext a w' :=
 ⟨h.os.trans ha.os,h.tape.trans ha.tape,h.output.trans ha.output,js ha.size h.size,
  fun k hk=>(h.block k (jM hk ha.size) (fun e=>by have:=hS k e;omega)).trans (ha.heap hk)⟩
theorem Fr.grown{S:Nat→Prop}{a w w':World}{row:Option Nat}(h:Fr S a w)(hg:w.grownBy w' row)(hr:∀k,row=some k→S k∨a.heap.size≤k):Fr S a w' :=
 ⟨hg.os.trans h.os,hg.tape.trans h.tape,hg.output.trans h.output,js h.size hg.size,fun k hk hn =>
  (hg.block k (jM hk h.size) (fun e=>by rcases hr k e.symm with h1|h1;exact hn h1;omega)).trans (h.block k hk hn)⟩
theorem Fr.setCell{S:Nat→Prop}{a w:World}(h:Fr S a w){p:Addr}(hp:S p.block∨a.heap.size≤p.block)(u:Value):Fr S a (w.setCell p u) :=
 ⟨h.os,h.tape,h.output,by simpa [World.setCell] using h.size,fun i hi hn=>(Below.heap_setCell w p u i (by
  rintro rfl
  rcases hp with e|e
  ·exact hn e
  ·omega)).trans (h.block i hi hn)⟩
theorem Ext.grown{a w w':World}{row:Option Nat}(h:Ext a w)(hg:w.grownBy w' row)(hr:∀k,row=some k→a.heap.size≤k):Ext a w':=Below.grown h hg h.size hr
theorem grown_fr{w w':World}{row:Option Nat}(hg:w.grownBy w' row):Fr (fun k=>row=some k) w w':=⟨hg.os,hg.tape,hg.output,hg.size,fun k hk hn=>hg.block k hk (fun e=>hn e.symm)⟩
theorem cell_lt{w:World}{p:Addr}{v:Value}(h:w.cell? p=some v):p.block<w.heap.size:=by
 rcases jB p.block w.heap.size with hlt|hge
 ·exact hlt
 ·simp[World.cell?,Array.getElem?_eq_none hge]at h
theorem Ext.cell{w w':World}(h:Ext w w'){p:Addr}{v:Value}(hc:w.cell? p=some v):w'.cell? p=some v:=(Below.cell h (cell_lt hc)).trans hc
theorem Fr.cell{S:Nat→Prop}{w w':World}(h:Fr S w w'){p:Addr}{v:Value}(hc:w.cell? p=some v)(hp:¬S p.block):w'.cell? p=some v :=
 (World.cell?_of_block (h.block _ (cell_lt hc) hp)).trans hc
theorem block_add(a:Addr)(n:Nat):(a.add n).block=a.block:=by unfold Addr.add;split <;> rfl
theorem add_add(a:Addr)(i j:Nat):(a.add i).add j=a.add (i+j):=by
 unfold Addr.add
 by_cases hi:i=0 <;> by_cases hj:j=0 <;> simp[hi,hj,Nat.add_assoc]
theorem add_own(g i:Nat):(⟨g,0,none⟩:Addr).add i=⟨g,i,none⟩:=by rcases i with _|i <;> simp[Addr.add]
def Bk(w:World)(g:Nat)(t:TypeId)(xs:List Value):Prop:=w.heap[g]?=some (.cells xs.toArray t (0,0))
theorem Bk.lt{w:World}{g:Nat}{t:TypeId}{xs:List Value}(h:Bk w g t xs):g<w.heap.size:=by
 rcases jB g w.heap.size with h1|h1
 ·exact h1
 ·unfold Bk at h;rw[Array.getElem?_eq_none h1]at h;cases h
theorem Bk.cell{w:World}{g:Nat}{t:TypeId}{xs:List Value}(h:Bk w g t xs){i:Nat}(hi:i<xs.length):w.cell? ⟨g,i,none⟩=some xs[i]:=by
 unfold Bk at h;simp[World.cell?,h,hi]
theorem Bk.free{w:World}{g:Nat}{t:TypeId}{xs:List Value}(h:Bk w g t xs)(i:Nat):w.frozen? ⟨g,i,none⟩=false:=by
 unfold Bk at h;simp[World.frozen?,h]
theorem Bk.set{w:World}{g:Nat}{t:TypeId}{xs:List Value}(h:Bk w g t xs)(i:Nat)(u:Value):Bk (w.setCell ⟨g,i,none⟩ u) g t (xs.set i u):=by
 unfold Bk at h ⊢;simp[World.setCell,Array.getElem?_modify,h]
theorem Bk.ext{w w':World}{g:Nat}{t:TypeId}{xs:List Value}(h:Bk w g t xs)(he:Ext w w'):Bk w' g t xs:=(he.heap h.lt).trans h
theorem Bk.fr{S:Nat→Prop}{w w':World}{g:Nat}{t:TypeId}{xs:List Value}(h:Bk w g t xs)(hf:Fr S w w')(hg:¬S g):Bk w' g t xs:=(hf.block g h.lt hg).trans h
theorem Bk.alloc{w:World}{g:Nat}{t:TypeId}{xs:List Value}(h:Bk w g t xs)(o:Obj):Bk (w.alloc o) g t xs:=h.ext ((Ext.refl w).alloc o)
theorem Bk.new(w:World)(t:TypeId)(xs:List Value):Bk (w.alloc (.cells xs.toArray t)) w.heap.size t xs:=by
 show (w.heap.push _)[w.heap.size]?=_
 simp
theorem Bk.ne{w:World}{g h:Nat}{t u:TypeId}{xs:List Value}{o:Array Value}(hb:Bk w g t xs)(hc:w.heap[h]?=some (.cells o u (0,0)))(htu:t≠u):g≠h:=fun e=>by
 subst e
 have:=hb.symm.trans hc
 injection this with this;injection this with _ this;exact htu this
def Ret(S:Value→World→Prop)(w:World)(e:Ending)(w':World):Prop:=∃v,e=.returned v∧Ext w w'∧S v w'
theorem Ret.mk{S:Value→World→Prop}{w w':World}{v:Value}(he:Ext w w')(hs:S v w'):Ret S w (.returned v) w':=⟨v,rfl,he,hs⟩
def Cl(F:Nat→Prop)(w:World)(A:Option Addr)(xs:List Value):Prop :=
 xs=[]∨∃ad,A=some ad∧F ad.block∧∀j (h:j<xs.length),w.cell? (ad.add j)=some xs[j]
theorem Cl.ext{F:Nat→Prop}{w w':World}{A:Option Addr}{xs:List Value}(h:Cl F w A xs)(he:Ext w w'):Cl F w' A xs:=by
 rcases h with h|⟨ad,h1,h2,h3⟩
 ·exact .inl h
 ·exact .inr ⟨ad,h1,h2,fun j hj=>he.cell (h3 j hj)⟩
theorem Cl.fr{S F:Nat→Prop}{w w':World}{A:Option Addr}{xs:List Value}(h:Cl F w A xs)(hf:Fr S w w')(hs:∀k,F k→¬S k):Cl F w' A xs:=by
 rcases h with h|⟨ad,h1,h2,h3⟩
 ·exact .inl h
 ·exact .inr ⟨ad,h1,h2,fun j hj=>hf.cell (h3 j hj) (by rw[block_add];exact hs _ h2)⟩
theorem Cl.mono{F G:Nat→Prop}{w:World}{A:Option Addr}{xs:List Value}(h:Cl F w A xs)(hs:∀k,k<w.heap.size→F k→G k):Cl G w A xs:=by
 rcases h with h|⟨ad,h1,h2,h3⟩
 ·exact .inl h
 ·rcases xs with _|⟨x,xs⟩
  ·exact .inl rfl
  ·refine .inr ⟨ad,h1,hs _ ?_ h2,h3⟩
   have:=cell_lt (h3 0 (by simp))
   rwa [block_add]at this
theorem Cl.at'{F:Nat→Prop}{w:World}{A:Option Addr}{xs:List Value}(h:Cl F w A xs){j:Nat}{x:Value}(hj:xs[j]?=some x):∃ad,A=some ad∧F ad.block∧w.cell? (ad.add j)=some x:=by
 rcases h with rfl|⟨ad,h1,h2,h3⟩
 ·simp at hj
 ·obtain⟨hl,e⟩:=zh.1 hj
  exact⟨ad,h1,h2,by rw[h3 j hl,e]⟩
theorem Cl.of_own{w:World}{base size n:Nat}{e:TypeId}{v:Value}{xs:List Value}(h:w.ownsRow base e size v n xs):∃A c,v=.slice A n c∧n≤c∧Cl (fun k=>v.ownBlock=some k∧base≤k) w A xs:=by
 obtain⟨hl,h⟩:=h
 rcases h with ⟨rfl,rfl⟩|⟨g,cap,cur,rfl,hb,hc,hn,hm,hs,hx⟩
 ·exact⟨none,0,rfl,jq _,.inl (by simpa using hl)⟩
 ·refine⟨_,_,rfl,hn,.inr ⟨_,rfl,⟨rfl,hb⟩,fun j hj=>?_⟩⟩
  subst hx
  rw[add_own]
  have hj2:j<cur.size:=by simp at hj;omega
  simp[World.cell?,hc,hj2]
theorem own_slice{w:World}{base size n:Nat}{e:TypeId}{v:Value}{xs:List Value}(h:w.ownsRow base e size v n xs):∃A c,v=.slice A n c:=by
 obtain⟨A,c,h,_⟩:=Cl.of_own h;exact⟨A,c,h⟩
structure Tm where
 var:ByteArray
 kind:Int
 int:Int
 str:ByteArray
deriving DecidableEq
def Tm.cells(t:Tm):List Value:=[.string t.var,.int .i64 t.kind,.int .i64 t.int,.string t.str]
def tcells(ts:List Tm):List Value:=ts.flatMap Tm.cells
theorem tcells_get:∀{ts:List Tm} {i:Nat} (hi:i<ts.length) (j:Nat),j<4→(tcells ts)[4*i+j]?=(ts[i].cells)[j]?
 | t::ts,0,_,j,hj=>by
  simp only[tcells,jQ,Nat.mul_zero,jW,ja]
  rw[zi (by simpa [Tm.cells] using hj)]
 | t::ts,i+1,hi,j,hj=>by
  have ih:=tcells_get (ts:=ts) (i:=i) (by simpa using hi) j hj
  simp only[tcells,jQ,je]at ih ⊢
  rw[ze (by simp[Tm.cells];omega)]
  rw[←ih]
  congr 1
  simp[Tm.cells];omega
def Ts(F:Nat→Prop)(w:World)(v:Value)(ts:List Tm):Prop:=∃A c,v=.slice A ts.length c∧ts.length≤c∧Cl F w A (tcells ts)
theorem Ts.ext{F:Nat→Prop}{w w':World}{v:Value}{ts:List Tm}(h:Ts F w v ts)(he:Ext w w'):Ts F w' v ts:=let ⟨A,c,h1,h2,h3⟩:=h;⟨A,c,h1,h2,h3.ext he⟩
theorem Ts.fr{S F:Nat→Prop}{w w':World}{v:Value}{ts:List Tm}(h:Ts F w v ts)(hf:Fr S w w')(hs:∀k,F k→¬S k):Ts F w' v ts:=let ⟨A,c,h1,h2,h3⟩:=h;⟨A,c,h1,h2,h3.fr hf hs⟩
theorem Ts.mono{F G:Nat→Prop}{w:World}{v:Value}{ts:List Tm}(h:Ts F w v ts)(hs:∀k,k<w.heap.size→F k→G k):Ts G w v ts:=let ⟨A,c,h1,h2,h3⟩:=h;⟨A,c,h1,h2,h3.mono hs⟩
theorem add_succ'(a:Addr)(n j:Nat):a.add (n+(j+1))=⟨(a.add n).block,(a.add n).off+(j+1),none⟩:=by
 rw[←add_add]
 generalize a.add n=p
 simp[Addr.add]
theorem Cl.term{F:Nat→Prop}{w:World}{A:Option Addr}{ts:List Tm}(h:Cl F w A (tcells ts)){i:Nat}(hi:i<ts.length):∃ad,A=some ad∧F ad.block∧w.cell? (ad.add (i*4))=some (.string ts[i].var)∧w.cell? ⟨(ad.add (i*4)).block,(ad.add (i*4)).off+1,none⟩=some (.int .i64 ts[i].kind)∧w.cell? ⟨(ad.add (i*4)).block,(ad.add (i*4)).off+2,none⟩=some (.int .i64 ts[i].int)∧w.cell? ⟨(ad.add (i*4)).block,(ad.add (i*4)).off+3,none⟩=some (.string ts[i].str):=by
 obtain⟨ad,h1,h2,c0⟩:=h.at' ((tcells_get hi 0 (by omega)).trans rfl)
 obtain⟨ad1,e1,_,c1⟩:=h.at' ((tcells_get hi 1 (by omega)).trans rfl)
 obtain⟨ad2,e2,_,c2⟩:=h.at' ((tcells_get hi 2 (by omega)).trans rfl)
 obtain⟨ad3,e3,_,c3⟩:=h.at' ((tcells_get hi 3 (by omega)).trans rfl)
 subst h1
 injection e1 with e1;injection e2 with e2;injection e3 with e3
 subst e1 e2 e3
 rw[show 4*i+0=i*4 by omega]at c0
 rw[show 4*i+1=i*4+(0+1) by omega,add_succ']at c1
 rw[show 4*i+2=i*4+(1+1) by omega,add_succ']at c2
 rw[show 4*i+3=i*4+(2+1) by omega,add_succ']at c3
 exact⟨ad,rfl,h2,c0,c1,c2,c3⟩
def Lands(w:World)(v v':Value):Prop:=v'.ownBlock=v.ownBlock∨v'.ownBlock=some w.heap.size
theorem run_append_at{P:Program}(w:World)(base:Nat)(t ty e:TypeId)(i:TypeInfo)(z:Value)(size bytes:Nat)(ht:P.underlying t=some (.slice e))(hi:P.info? e=some i)(hz:i.zero=some z)(hsize:i.size=size)(hby:i.bytes=bytes)(hzs:z.cells.size=size)(hsz : 0<size)(v:Value)(n:Nat)(xs:List Value)(hown:w.ownsRow base e size v n xs)(a:Addr)(m c:Nat)(news:List Value)(hl:news.length=m*size)(hnews:∀j u,news[j]?=some u→w.cell? (a.add j)=some u)(h1:∀u∈news,u.oneCell'=true)(h63:n+m≤maxLen)(hbytes:(n+m)*bytes≤140737488355328)(hbase:base≤w.heap.size) :
  ∃v' w',(Builtin.append_ #[t,t] ty #[v,.slice (some a) m c]).run P w=.ok v' w'∧w'.ownsRow base e size v' (n+m) (xs++news)∧w.grownBy w' v.ownBlock∧Lands w v v':=by
 obtain⟨v',w',hr,h2,h3,h4⟩:=run_append_own (P:=P) w base t ty e i z size bytes ht hi hz hsize hby hzs hsz v n xs hown a m c news hl hnews h1 h63 hbytes hbase
 refine⟨v',w',hr,h2,h3,?_⟩
 subst hsize
 subst hby
 have hsmall:n+m≤9223372036854775807:=by simp only[maxLen]at h63;omega
 rcases hown.2 with ⟨rfl,rfl⟩|⟨g,cap,cur,rfl,hbg,hg,hnc,hcm,hcs,htake⟩
 ·by_cases hm:m=0
  ·left;rw[h4.2 ⟨rfl,hm⟩]
  ·have hr2:=run_append_nil (P:=P) w t ty e i z ht hi hz a m c news hl hnews (by omega) (by omega) (by have hb:=hbytes;simp only[jW]at hb;omega)
   rw[hr]at hr2
   injection hr2 with e1 _
   subst e1
   right;rfl
 ·by_cases hroom:n+m≤cap
  ·have hfit:n*i.size+news.length≤cur.size:=by rw[hl,hcs,←zN];exact zg _ hroom
   have hr2:=run_append_room (P:=P) w t ty e i ht hi g n cap cur hg a m c news hl hnews h1 hroom hfit
   rw[hr]at hr2
   injection hr2 with e1 _
   subst e1
   left;rfl
  ·have holds:∀j u,xs[j]?=some u→w.cell? ((⟨g,0,none⟩:Addr).add j)=some u:=hown.cells (g:=g) rfl
   have hr2:=run_append_grow (P:=P) w t ty e i z ht hi hz ⟨g,0,none⟩ n cap xs hown.1 holds a m c news hl hnews (by omega) (by omega) (growslice_fits (by omega) hbytes)
   rw[hr]at hr2
   injection hr2 with e1 _
   subst e1
   right;rfl
theorem wpList_append_at{P:Program}{w:World}{ops:Array Oper}{rest:List Oper}{o:Oper}{a:Act}{Q:Exit→Act→World→Prop}(hgd:o.guard=none)(s y:Operand)(t:TypeId)(ho:o.op=.call { callee:=.builtin .append,args:=#[s,y],argTypes:=#[t,t] })(base:Nat)(e:TypeId)(i:TypeInfo)(z:Value)(size bytes:Nat)(ht:P.underlying t=some (.slice e))(hi:P.info? e=some i)(hz:i.zero=some z)(hsize:i.size=size)(hby:i.bytes=bytes)(hzs:z.cells.size=size)(hsz : 0<size)(v:Value)(n:Nat)(xs:List Value)(hs:a.eval s=v)(hown:w.ownsRow base e size v n xs)(ad:Addr)(m c:Nat)(news:List Value)(hx:a.eval y=.slice (some ad) m c)(hl:news.length=m*size)(hnews:∀j u,news[j]?=some u→w.cell? (ad.add j)=some u)(h1:∀u∈news,u.oneCell'=true)(h63:n+m≤maxLen)(hbytes:(n+m)*bytes≤140737488355328)(hbase:base≤w.heap.size)(h:∀v' w',w'.ownsRow base e size v' (n+m) (xs++news)→w.grownBy w' v.ownBlock→Lands w v v'→wpList P ops Q rest (a.put o.dst v') w'):wpList P ops Q (o::rest) a w :=
 wpList_plain hgd fun K hK=>by
  obtain⟨v',w',hr,h2,h3,h4⟩:=run_append_at (P:=P) w base t o.type e i z size bytes ht hi hz hsize hby hzs hsz v n xs hown ad m c news hl hnews h1 h63 hbytes hbase
  unfold Oper.wp execOp
  simp only[ho,resolve,invoke,builtin,Sem.run_bind,Sem.run_pure,Result.andThen_ok,List.map_toArray,zf,List.map_nil,hs,hx,hr]
  exact hK _ _ (h v' w' h2 h3 h4)
theorem laid_news(w:World)(t:TypeId)(xs:List Value):∀j u,xs[j]?=some u→(w.alloc (.cells xs.toArray t)).cell? ((⟨w.heap.size,0,none⟩:Addr).add j)=some u:=by
 intro j u hu
 obtain⟨hj,rfl⟩:=zh.1 hu
 rw[add_own]
 exact(Bk.new w t xs).cell hj
theorem var_empty(s:ByteArray):s.toList.isEmpty=decide (s=⟨#[]⟩):=by
 by_cases h:s=⟨#[]⟩
 ·subst h;rw[ByteArray.toList_eq];rfl
 ·have:s.toList≠[]:=fun e=>h ((toList_nil_iff_emptyBytes s).1 e)
  rw[decide_eq_false h]
  rcases hs:s.toList with _|⟨a,l⟩
  ·exact absurd hs this
  ·rfl
abbrev I64 (n:Int):Value:=.int .i64 n
def Ins(F:Nat→Prop)(w:World)(v:Value)(zs:List Int):Prop:=∃A c,v=.slice A zs.length c∧zs.length≤c∧Cl F w A (zs.map I64)
theorem Ins.ext{F:Nat→Prop}{w w':World}{v:Value}{zs:List Int}(h:Ins F w v zs)(he:Ext w w'):Ins F w' v zs:=let ⟨A,c,h1,h2,h3⟩:=h;⟨A,c,h1,h2,h3.ext he⟩
theorem Ins.fr{S F:Nat→Prop}{w w':World}{v:Value}{zs:List Int}(h:Ins F w v zs)(hf:Fr S w w')(hs:∀k,F k→¬S k):Ins F w' v zs:=let ⟨A,c,h1,h2,h3⟩:=h;⟨A,c,h1,h2,h3.fr hf hs⟩
theorem Ins.mono{F G:Nat→Prop}{w:World}{v:Value}{zs:List Int}(h:Ins F w v zs)(hs:∀k,k<w.heap.size→F k→G k):Ins G w v zs:=let ⟨A,c,h1,h2,h3⟩:=h;⟨A,c,h1,h2,h3.mono hs⟩
theorem Ins.of_own{w:World}{base n:Nat}{e:TypeId}{v:Value}{zs:List Int}(h:w.ownsRow base e 1 v n (zs.map I64)):Ins (fun k=>v.ownBlock=some k∧base≤k) w v zs:=by
 have hn:n=zs.length:=by have:=h.1;simp at this;omega
 subst hn
 obtain⟨A,c,h1,h2,h3⟩:=Cl.of_own h
 exact⟨A,c,h1,h2,h3⟩
theorem Cl.int{F:Nat→Prop}{w:World}{A:Option Addr}{zs:List Int}(h:Cl F w A (zs.map I64)){i:Nat}(hi:i<zs.length):∃ad,A=some ad∧F ad.block∧w.cell? (ad.add i)=some (.int .i64 zs[i]) :=
 h.at' (by simp[hi])
structure At where
 neg:Bool
 rel:ByteArray
 terms:List Tm
def acells:List At→List Value→List Value
 | a::xs,v::vs=>.bool a.neg::.string a.rel::v::acells xs vs
 | _,_=>[]
theorem acells_get:∀{xs:List At} {vs:List Value} {i:Nat} (hi:i<xs.length) (hv:i<vs.length),(acells xs vs)[i*3]?=some (.bool xs[i].neg)∧(acells xs vs)[i*3+1]?=some (.string xs[i].rel)∧(acells xs vs)[i*3+2]?=some vs[i]
 | a::xs,v::vs,0,_,_=>⟨rfl,rfl,rfl⟩
 | a::xs,v::vs,i+1,hi,hv=>by
  obtain⟨h1,h2,h3⟩:=acells_get (xs:=xs) (vs:=vs) (i:=i) (by simpa using hi) (by simpa using hv)
  rw[show (i+1)*3=i*3+1+1+1 by omega]
  exact⟨h1,h2,h3⟩
def Ats(F:Nat→Prop)(w:World)(v:Value)(xs:List At):Prop :=
 ∃A c vs,v=.slice A xs.length c∧xs.length≤c∧vs.length=xs.length∧Cl F w A (acells xs vs)∧∀i (h:i<xs.length) (h':i<vs.length),Ts F w vs[i] xs[i].terms
theorem Ats.ext{F:Nat→Prop}{w w':World}{v:Value}{xs:List At}(h:Ats F w v xs)(he:Ext w w'):Ats F w' v xs:=let ⟨A,c,vs,h1,h2,h3,h4,h5⟩:=h;⟨A,c,vs,h1,h2,h3,h4.ext he,fun i h h'=>(h5 i h h').ext he⟩
theorem Ats.fr{S F:Nat→Prop}{w w':World}{v:Value}{xs:List At}(h:Ats F w v xs)(hf:Fr S w w')(hs:∀k,F k→¬S k):Ats F w' v xs:=let ⟨A,c,vs,h1,h2,h3,h4,h5⟩:=h;⟨A,c,vs,h1,h2,h3,h4.fr hf hs,fun i h h'=>(h5 i h h').fr hf hs⟩
theorem Cl.atom{F:Nat→Prop}{w:World}{A:Option Addr}{xs:List At}{vs:List Value}(h:Cl F w A (acells xs vs)){i:Nat}(hi:i<xs.length)(hv:i<vs.length):∃ad,A=some ad∧F ad.block∧w.cell? (ad.add (i*3))=some (.bool xs[i].neg)∧w.cell? ⟨(ad.add (i*3)).block,(ad.add (i*3)).off+1,none⟩=some (.string xs[i].rel)∧w.cell? ⟨(ad.add (i*3)).block,(ad.add (i*3)).off+2,none⟩=some vs[i]:=by
 obtain⟨g0,g1,g2⟩:=acells_get hi hv
 obtain⟨ad,h1,h2,c0⟩:=h.at' g0
 obtain⟨ad1,e1,_,c1⟩:=h.at' g1
 obtain⟨ad2,e2,_,c2⟩:=h.at' g2
 subst h1
 injection e1 with e1;injection e2 with e2
 subst e1 e2
 rw[show i*3+1=i*3+(0+1) by omega,add_succ']at c1
 rw[show i*3+2=i*3+(1+1) by omega,add_succ']at c2
 exact⟨ad,rfl,h2,c0,c1,c2⟩
theorem own_bk{w:World}{b s n k g:Nat}{e t:TypeId}{v:Value}{xs ys:List Value}(h:w.ownsRow b e s v n xs)(hb:Bk w g t ys)(he:e≠t)(hk:v.ownBlock=some k):k≠g:=by
 rcases h.2 with ⟨rfl,_⟩|⟨g',cap,cur,rfl,_,hc,_⟩
 ·simp[Value.ownBlock]at hk
 ·simp[Value.ownBlock]at hk
  subst hk
  exact(hb.ne hc (fun e'=>he e'.symm)).symm
theorem own_fr{S:Nat→Prop}{w w':World}{b s n:Nat}{e:TypeId}{v:Value}{xs:List Value}(h:w.ownsRow b e s v n xs)(hf:Fr S w w')(hs:∀k,v.ownBlock=some k→¬S k):w'.ownsRow b e s v n xs:=by
 obtain⟨h1,h2⟩:=h
 refine⟨h1,?_⟩
 rcases h2 with h2|⟨g,cap,cur,rfl,h3,h4,h5⟩
 ·exact .inl h2
 ·have hlt:g<w.heap.size:=by
   rcases jB g w.heap.size with h|h
   ·exact h
   ·rw[Array.getElem?_eq_none h]at h4;cases h4
  exact .inr ⟨g,cap,cur,rfl,h3,(hf.block g hlt (hs g rfl)).trans h4,h5⟩
def allT(xs:List At):List Tm:=xs.flatMap (·.terms)
theorem allT_take{xs:List At}{i:Nat}(h:i<xs.length):allT (xs.take (i+1))=allT (xs.take i)++xs[i].terms:=by
 unfold allT
 rw[jj h,zx,jQ,List.flatMap_nil,zL]
theorem allT_le{xs:List At}(i:Nat):(allT (xs.take i)).length≤(allT xs).length:=by
 have h:xs=xs.take i++xs.drop i:=(za i xs).symm
 have e:allT xs=allT (xs.take i)++allT (xs.drop i):=by simp only[allT];rw[←zx,←h]
 rw[e];simp
theorem Ats.at'{F:Nat→Prop}{w:World}{v:Value}{xs:List At}(h:Ats F w v xs):∃A c,v=.slice A xs.length c∧xs.length≤c∧∀i (hi:i<xs.length),∃ad B d,A=some ad∧F ad.block ∧
  w.cell? (ad.add (i*3))=some (.bool xs[i].neg)∧w.cell? ⟨(ad.add (i*3)).block,(ad.add (i*3)).off+1,none⟩=some (.string xs[i].rel)∧w.cell? ⟨(ad.add (i*3)).block,(ad.add (i*3)).off+2,none⟩=some (.slice B xs[i].terms.length d)∧xs[i].terms.length≤d∧Cl F w B (tcells xs[i].terms):=by
 obtain⟨A,c,vs,rfl,hc,hvs,hcl,hts⟩:=h
 refine⟨A,c,rfl,hc,fun i hi=>?_⟩
 obtain⟨ad,h1,h2,c0,c1,c2⟩:=hcl.atom (i:=i) hi (by omega)
 obtain⟨B,d,e,hd,hc2⟩:=hts i hi (by omega)
 rw[e]at c2
 exact⟨ad,B,d,h1,h2,c0,c1,c2,hd,hc2⟩
theorem terms_le{xs:List At}{i:Nat}(hi:i<xs.length):xs[i].terms.length≤(allT xs).length:=by
 have h1:=allT_le (xs:=xs) (i+1)
 rw[allT_take hi,jl]at h1
 omega
theorem var_ne{s:ByteArray}(h:¬s=⟨#[]⟩):s.toList.isEmpty=false:=by rw[var_empty,decide_eq_false h]
theorem var_eq{s:ByteArray}(h:s=⟨#[]⟩):s.toList.isEmpty=true:=by rw[var_empty,decide_eq_true h]
theorem Ats.mono{F G:Nat→Prop}{w:World}{v:Value}{xs:List At}(h:Ats F w v xs)(hs:∀k,k<w.heap.size→F k→G k):Ats G w v xs :=
 let ⟨A,c,vs,h1,h2,h3,h4,h5⟩:=h;⟨A,c,vs,h1,h2,h3,h4.mono hs,fun i h h'=>(h5 i h h').mono hs⟩
theorem law_str:Keyed Tryz.prog 9:=string_keyed Tryz.underlying9
abbrev Rv (v:Value):Option (DataW Value×List MemPlace):=some (.held v,[])
def MapV(w:World)(b n:Nat)(f:ByteArray→Option Value):Prop :=
 ∃D:DataW Value,w.ownsMap Tryz.prog 9 Rv b n D∧Tidy D∧(∀s:ByteArray,∀zd,D.atKey (.string s.data.toList) zd=match f s with|some v=>.held v|none=>zd)∧∀s:ByteArray,Maps.has D (.string s.data.toList)=(f s).isSome
theorem MapV.made(w:World):MapV (w.alloc (.map #[] 0)) w.heap.size 0 (fun _=>none):=⟨.map [],World.ownsMap_made w _ _ _,tidy_empty,fun _ _=>rfl,fun _=>rfl⟩
theorem MapV.lt{w:World}{b n:Nat}{f:ByteArray→Option Value}(h:MapV w b n f):b<w.heap.size:=let ⟨_,h,_⟩:=h;h.lt
theorem MapV.fr{S:Nat→Prop}{w w':World}{b n:Nat}{f:ByteArray→Option Value}(h:MapV w b n f)(hf:Fr S w w')(hb:¬S b):MapV w' b n f:=by
 obtain⟨D,⟨es,clock,h1,h2⟩,h3⟩:=h
 have hlt:b<w.heap.size:=by
  rcases jB b w.heap.size with h|h
  ·exact h
  ·rw[Array.getElem?_eq_none h]at h1;cases h1
 exact⟨D,⟨es,clock,(hf.block b hlt hb).trans h1,h2⟩,h3⟩
theorem MapV.ext{w w':World}{b n:Nat}{f:ByteArray→Option Value}(h:MapV w b n f)(he:Ext w w'):MapV w' b n f:=h.fr (he.fr (fun _=>False)) (fun h=>h)
theorem MapV.mono{w:World}{b n m:Nat}{f:ByteArray→Option Value}(h:MapV w b n f)(hm:n≤m):MapV w b m f:=let ⟨D,h1,h2⟩:=h;⟨D,h1.mono hm,h2⟩
def updV(f:ByteArray→Option Value)(s:ByteArray)(v:Option Value):ByteArray→Option Value:=fun t=>if t=s then v else f t
theorem key_ne{s t:ByteArray}(h:t≠s):(Lit.string t.data.toList)≠.string s.data.toList:=fun e=>by injection e with e;exact h (Go.WideShapes.bytes_inj e)
theorem keyOf_str(s:ByteArray)(hs:s.size≤maxLen):keyOf Tryz.prog 9 (.string s)=some (.string s.data.toList):=Go.WideMaps.keyOf_string_mk Tryz.underlying9 hs
theorem put_view{D:DataW Value}{f:ByteArray→Option Value}(ht:Tidy D)(h1:∀s:ByteArray,∀zd,D.atKey (.string s.data.toList) zd=match f s with|some v=>.held v|none=>zd)(h2:∀s:ByteArray,Maps.has D (.string s.data.toList)=(f s).isSome)(s:ByteArray)(v:Value) :
  Tidy (D.put (.string s.data.toList) (.held v))∧(∀t:ByteArray,∀zd,(D.put (.string s.data.toList) (.held v)).atKey (.string t.data.toList) zd=match updV f s (some v) t with|some v=>.held v|none=>zd)∧∀t:ByteArray,Maps.has (D.put (.string s.data.toList) (.held v)) (.string t.data.toList)=(updV f s (some v) t).isSome:=by
 have hk:WideAt.IsKeyLit (Lit.string s.data.toList):=trivial
 refine⟨ht.put hk _,fun t zd=>?_,fun t=>?_⟩
 ·by_cases e:t=s
  ·subst e;rw[atKey_put_same ht.isMap hk];simp[updV]
  ·rw[atKey_put_other (key_ne e),h1 t zd];simp[updV,e]
 ·by_cases e:t=s
  ·subst e;rw[has_put_same ht.isMap hk];simp[updV]
  ·rw[has_put_other (key_ne e),h2 t];simp[updV,e]
theorem wpList_lookup_V{w:World}{ops:Array Oper}{rest:List Oper}{o:Oper}{a:Act}{Q:Exit→Act→World→Prop}(hg:o.guard=none)(m x:Operand)(t e:TypeId)(hop:o.op=Op.lookup t m x false)(ht:Tryz.prog.underlying t=some (.map 9 e))(z:Value)(hz:(zeroValue e).run Tryz.prog w=.ok z w)(b n:Nat)(f:ByteArray→Option Value)(hm:a.eval m=.map (some b))(hown:MapV w b n f)(s:ByteArray)(hx:a.eval x=.string s)(hs:s.size≤maxLen)(u:Value)(hu:(f s).getD z=u)(hK:wpList Tryz.prog ops Q rest (a.put o.dst u) w):wpList Tryz.prog ops Q (o::rest) a w:=by
 refine wpList_plain hg fun K' hK'=>?_
 obtain⟨D,hD,-,hat,-⟩:=hown
 obtain⟨v,ps,hrun,hv⟩:=hD.lookup law_str ht hz (zd:=.held z) (zp:=[]) rfl (keyOf_str s hs)
 have hvu:v=u:=by
  have h1:=hat s (.held z)
  rw[h1]at hv
  rcases hf:f s with _|y
  ·rw[hf]at hv hu;simp at hv hu;rw[hv.1,hu]
  ·rw[hf]at hv hu;simp at hv hu;rw[hv.1,hu]
 subst hvu
 unfold Oper.wp
 simp[execOp,hop,hm,hx,hrun,Result.andThen]
 exact hK' _ _ hK
theorem wpList_lookup_okV{w:World}{ops:Array Oper}{rest:List Oper}{o:Oper}{a:Act}{Q:Exit→Act→World→Prop}(hg:o.guard=none)(m x:Operand)(t e:TypeId)(hop:o.op=Op.lookup t m x true)(ht:Tryz.prog.underlying t=some (.map 9 e))(z:Value)(hz:(zeroValue e).run Tryz.prog w=.ok z w)(b n:Nat)(f:ByteArray→Option Value)(hm:a.eval m=.map (some b))(hown:MapV w b n f)(s:ByteArray)(hx:a.eval x=.string s)(hs:s.size≤maxLen)(u:Value)(hu:(f s).getD z=u)(ok:Bool)(hok:(f s).isSome=ok)(hK:wpList Tryz.prog ops Q rest (a.put o.dst (.tuple #[u,.bool ok])) w):wpList Tryz.prog ops Q (o::rest) a w:=by
 refine wpList_plain hg fun K' hK'=>?_
 obtain⟨D,hD,-,hat,hhas⟩:=hown
 obtain⟨v,ps,hrun,hv⟩:=hD.look_ok law_str ht hz (zd:=.held z) (zp:=[]) rfl (keyOf_str s hs)
 have hvu:v=u:=by
  have h1:=hat s (.held z)
  rw[h1]at hv
  rcases hf:f s with _|y
  ·rw[hf]at hv hu;simp at hv hu;rw[hv.1,hu]
  ·rw[hf]at hv hu;simp at hv hu;rw[hv.1,hu]
 subst hvu
 rw[hhas s,hok]at hrun
 unfold Oper.wp
 simp[execOp,hop,hm,hx,hrun,Result.andThen]
 exact hK' _ _ hK
theorem wpList_update_V{w:World}{ops:Array Oper}{rest:List Oper}{o:Oper}{a:Act}{Q:Exit→Act→World→Prop}(hg:o.guard=none)(m x v:Operand)(t e:TypeId)(hop:o.op=Op.mapUpdate t m x v)(ht:Tryz.prog.underlying t=some (.map 9 e))(b n:Nat)(f:ByteArray→Option Value)(hm:a.eval m=.map (some b))(hown:MapV w b n f)(hn:n<maxLen)(s:ByteArray)(u:Value)(hx:a.eval x=.string s)(hs:s.size≤maxLen)(hv:a.eval v=u)(hK:∀w',MapV w' b (n+1) (updV f s (some u))→w.grownBy w' (some b)→wpList Tryz.prog ops Q rest (a.put o.dst undef) w'):wpList Tryz.prog ops Q (o::rest) a w:=by
 obtain⟨D,hD,hti,hat,hhas⟩:=hown
 obtain⟨p1,p2,p3⟩:=put_view hti hat hhas s u
 exact wpList_mapUpdate_own w hg m x v t hop 9 e law_str ht Rv b n D hm hD hn (.string s) u (.string s.data.toList) hx hv (keyOf_str s hs) (.held u) [] rfl (fun w' h1 h2=>hK w' ⟨_,h1,p1,p2,p3⟩ h2)
theorem wpList_insert_V{w:World}{ops:Array Oper}{rest:List Oper}{o:Oper}{a:Act}{Q:Exit→Act→World→Prop}(hg:o.guard=none)(m x v:Operand)(t e:TypeId)(hop:o.op=Op.insert t m x v)(ht:Tryz.prog.underlying t=some (.map 9 e))(b n:Nat)(f:ByteArray→Option Value)(hm:a.eval m=.map (some b))(hown:MapV w b n f)(hn:n<maxLen)(s:ByteArray)(u:Value)(hx:a.eval x=.string s)(hs:s.size≤maxLen)(hv:a.eval v=u)(hK:∀w',MapV w' b (n+1) (updV f s (some u))→w.grownBy w' (some b)→wpList Tryz.prog ops Q rest (a.put o.dst undef) w'):wpList Tryz.prog ops Q (o::rest) a w:=by
 obtain⟨D,hD,hti,hat,hhas⟩:=hown
 obtain⟨p1,p2,p3⟩:=put_view hti hat hhas s u
 refine wpList_plain hg fun K' hK'=>?_
 obtain⟨w',hrun,r1,r2⟩:=hD.update law_str ht hn (keyOf_str s hs) (val:=u) (d:=.held u) (ps:=[]) rfl
 unfold Oper.wp
 simp[execOp,hop,hm,hx,hv,hrun,Result.andThen]
 exact hK' _ _ (hK w' ⟨_,r1,p1,p2,p3⟩ r2)
theorem zero_bool(w:World):(zeroValue 4).run Tryz.prog w=.ok (.bool false) w:=by kernel_rfl
theorem info_str:(Tryz.prog.info? 9).map (fun i=>(i.zero,i.size,i.bytes))=some (some (.string ⟨#[]⟩),1,16):=by kernel_rfl
abbrev Sv (s:ByteArray):Value:=.string s
instance memBA (s:ByteArray):(vs:List ByteArray)→Decidable (s∈vs)
 | []=>isFalse (by simp)
 | v::vs=>if h:s=v then isTrue (by simp[h]) else match memBA s vs with
  | isTrue h'=>isTrue (jr _ h')
  | isFalse h'=>isFalse (fun e=>by rcases jC.1 e with e|e;exact h e;exact h' e)
def addV(vs:List ByteArray)(s:ByteArray):List ByteArray:=if s=⟨#[]⟩∨s∈vs then vs else vs++[s]
def seenF(vs:List ByteArray):ByteArray→Option Value:=fun s=>if s=⟨#[]⟩∨s∈vs then some (.bool true) else none
structure VarB(w:World)(base b gs gv n:Nat)(vv:Value)(vs:List ByteArray):Prop where
 map:MapV w b n (seenF vs)
 seen:Bk w gs 121 [.map (some b)]
 vars:Bk w gv 24 [vv]
 row:w.ownsRow base 9 1 vv vs.length (vs.map Sv)
theorem VarB.ext{w w':World}{base b gs gv n:Nat}{vv:Value}{vs:List ByteArray}(h:VarB w base b gs gv n vv vs)(he:Ext w w'):VarB w' base b gs gv n vv vs :=
 ⟨h.map.ext he,h.seen.ext he,h.vars.ext he,own_fr h.row (he.fr (fun _=>False)) (fun _ _ h=>h)⟩
set_option maxRecDepth 20000 in
set_option maxHeartbeats 800000 in
theorem add_old{w:World}{base b gs gv n:Nat}{vv:Value}{vs:List ByteArray}{s:ByteArray}(h:VarB w base b gs gv n vv vs)(hs:s.size≤maxLen)(ho:Hid (s=⟨#[]⟩∨s∈vs)) :
  Calls Tryz.prog 112 #[.string s,.pointer (some ⟨gs,0,none⟩),.pointer (some ⟨gv,0,none⟩)] w (fun e w'=>e=.returned (.tuple #[])∧w=w'):=by
 have d0:=h.seen.cell (i:=0) (by simp)
 simp only[ja]at d0
 have HM:=zO h.map
 clear h
 go_enter Tryz.func112,Tryz.ntmps112
 go_wp2_with (first|(at_lookup;refine wpList_lookup_V rfl _ _ 121 4 rfl Tryz.underlying121 (.bool false) (zero_bool _) b n (seenF vs) rfl HM.out s rfl hs (.bool true) (by rw[seenF,if_pos ho.out];rfl) ?_))
 exact bodyPost_end (results_none rfl _ _ _) rfl ⟨rfl,rfl⟩
theorem MapV.ne{w:World}{b n g:Nat}{f:ByteArray→Option Value}{t:TypeId}{xs:List Value}(h:MapV w b n f)(hb:Bk w g t xs):g≠b:=by
 obtain⟨D,⟨es,clock,h1,_⟩,_⟩:=h
 rintro rfl
 have:=hb.symm.trans h1
 injection this with this;cases this
theorem MapV.ne_own{w:World}{b n base size m k:Nat}{f:ByteArray→Option Value}{e:TypeId}{v:Value}{xs:List Value}(h:MapV w b n f)(hr:w.ownsRow base e size v m xs)(hk:v.ownBlock=some k):k≠b:=by
 obtain⟨D,⟨es,clock,h1,_⟩,_⟩:=h
 rcases hr.2 with ⟨rfl,_⟩|⟨g,cap,cur,rfl,_,hc,_⟩
 ·simp[Value.ownBlock]at hk
 ·simp[Value.ownBlock]at hk
  subst hk
  rintro rfl
  have:=hc.symm.trans h1
  injection this with this;cases this
theorem seenF_add{vs:List ByteArray}{s:ByteArray}(h:¬(s=⟨#[]⟩∨s∈vs)):updV (seenF vs) s (some (.bool true))=seenF (vs++[s]):=by
 funext t
 unfold updV seenF
 by_cases e:t=s
 ·subst e;rw[if_pos rfl,if_pos (.inr (by simp))]
 ·rw[if_neg e]
  by_cases h2:t=⟨#[]⟩∨t∈vs
  ·rw[if_pos h2,if_pos (h2.imp id (fun h=>by simp[h]))]
  ·rw[if_neg h2,if_neg (fun h3=>h2 (h3.imp id (fun h4=>by simp[e]at h4;exact h4)))]
def AddPost(base b gs gv n:Nat)(vv:Value)(vs:List ByteArray)(s:ByteArray)(w:World)(e:Ending)(w':World):Prop :=
 ∃vv',e=.returned (.tuple #[])∧VarB w' base b gs gv (n+1) vv' (addV vs s)∧Fr (fun k=>k=b∨k=gv∨vv.ownBlock=some k) w w'∧(vv'.ownBlock=vv.ownBlock∨∀k,vv'.ownBlock=some k→w.heap.size≤k)
set_option maxRecDepth 20000 in
set_option maxHeartbeats 800000 in
theorem add_new{w:World}{base b gs gv n:Nat}{vv:Value}{vs:List ByteArray}{s:ByteArray}(h:VarB w base b gs gv n vv vs)(hbase:base≤w.heap.size)(hn:n≤2097152)(hl:vs.length≤1048576)(hs:s.size≤maxLen)(ho:Hid (¬(s=⟨#[]⟩∨s∈vs))) :
  Calls Tryz.prog 112 #[.string s,.pointer (some ⟨gs,0,none⟩),.pointer (some ⟨gv,0,none⟩)] w (AddPost base b gs gv n vv vs s w):=by
 obtain⟨A,c,rfl⟩:=own_slice h.row
 have d0:=h.seen.cell (i:=0) (by simp)
 simp only[ja]at d0
 have HH:=zO h
 obtain⟨m,hm⟩:∃m,m=vs.length:=⟨_,rfl⟩
 have HMM:=zO hm
 clear h hm
 obtain⟨i0,hi0,hz0,hz1,hz2⟩:=info_parts info_str
 have HI0:=zO (And.intro hi0 (And.intro hz0 (And.intro hz1 hz2)));clear hi0 hz0 hz1 hz2
 go_enter Tryz.func112,Tryz.ntmps112
 go_wp2_with (first
  | (at_lookup;refine wpList_lookup_V rfl _ _ 121 4 rfl Tryz.underlying121 (.bool false) (zero_bool _) b n (seenF vs) rfl HH.out.map s rfl hs (.bool false) (by rw[seenF,if_neg ho.out];rfl) ?_)
  | (at_mapUpdate;refine wpList_update_V rfl _ _ _ 121 4 rfl Tryz.underlying121 b n (seenF vs) rfl HH.out.map (by simp only[maxLen];omega) s (.bool true) rfl hs rfl ?_;intro w1 hm1 hg1;have hv1:Bk w1 gv 24 [.slice A vs.length c]:=Bk.fr HH.out.vars (grown_fr hg1) (fun e=>by injection e with e;exact HH.out.map.ne HH.out.vars e.symm);have a0:=hv1.cell (i:=0) (by simp);simp only[ja]at a0;have HR1:=zO (own_fr HH.out.row (grown_fr hg1) (fun k hk e=>by injection e with e;exact HH.out.map.ne_own HH.out.row hk e.symm));have HM1:=zO hm1;have HG1:=zO hg1;have HV1:=zO hv1;have hsz1:base≤w1.heap.size:=js hbase hg1.size;clear hm1 hg1 hv1)
  | (at_builtin;refine wpList_append_at rfl _ _ 24 rfl base 9 i0 (.string ⟨#[]⟩) 1 16 Tryz.underlying24 HI0.out.1 HI0.out.2.1 HI0.out.2.2.1 HI0.out.2.2.2 rfl (by omega) _ vs.length (vs.map Sv) rfl (HR1.out.alloc _) ⟨w1.heap.size,0,none⟩ 1 1 [.string s] rfl rfl (laid_news w1 _ _) (by simp[Value.oneCell']) (by simp only[maxLen];omega) (by omega) (by simp;omega) ?_;intro v9 w9 hr9 hg9 hl9;obtain⟨A9,c9,rfl⟩:=own_slice hr9;have hv9:Bk w9 gv 24 [.slice A vs.length c]:=Bk.fr (HV1.out.alloc _) (grown_fr hg9) (fun e=>own_bk HR1.out HV1.out (by decide) e rfl);have b0:=hv9.cell (i:=0) (by simp);have f0:=hv9.free 0;simp only[ja]at b0;have HR9:=zO hr9;have HG9:=zO hg9;have HL9:=zO hl9;have HV9:=zO hv9;clear hr9 hg9 hl9 hv9))
 refine bodyPost_end (results_none rfl _ _ _) rfl ⟨.slice A9 (vs.length+1) c9,rfl,?_,?_,?_⟩
 ·have hgb:gv≠b:=HH.out.map.ne HH.out.vars
  have hsb:gs≠b:=HH.out.map.ne HH.out.seen
  have hgs:gs≠gv:=HH.out.seen.ne (o:=[Value.slice A vs.length c].toArray) HH.out.vars (by decide)
  have hob:∀k,(Value.slice A vs.length c).ownBlock=some k→k≠b∧k≠gs:=fun k hk=>⟨HH.out.map.ne_own HH.out.row hk,own_bk HH.out.row HH.out.seen (by decide) hk⟩
  have hset:Fr (fun k=>k=gv) w9 (w9.setCell ⟨gv,0,none⟩ (.slice A9 (vs.length+1) c9)):=Fr.setCell (S:=fun k=>k=gv) (Fr.refl _ w9) (p:=⟨gv,0,none⟩) (.inl rfl) _
  have e:addV vs s=vs++[s]:=by rw[addV,if_neg ho.out]
  rw[e]
  refine⟨?_,?_,?_,?_⟩
  ·rw[←seenF_add ho.out]
   exact((((HM1.out).ext ((Ext.refl w1).alloc _)).fr (grown_fr HG9.out) (fun e=>(hob b e).1 rfl))).fr hset (fun e=>hgb e.symm)
  ·exact((((HH.out.seen.fr (grown_fr HG1.out) (fun e=>by injection e with e;exact hsb e.symm)).alloc _).fr (grown_fr HG9.out) (fun e=>(hob gs e).2 rfl))).fr hset hgs
  ·exact HV9.out.set 0 _
  ·rw[jl,jI]
   exact own_fr HR9.out hset (fun k hk e=>by subst e;exact own_bk HR9.out HV9.out (by decide) hk rfl)
 ·exact Fr.setCell (Fr.comp (((grown_fr HG1.out).mono (T:=fun k=>k=b∨k=gv∨(Value.slice A vs.length c).ownBlock=some k) (fun k _ e=>.inl (by injection e with e;exact e.symm))).ext ((Ext.refl w1).alloc _)) (grown_fr HG9.out) (fun k hk=>.inl (.inr (.inr hk)))) (.inl (.inr (.inl rfl))) _
 ·rcases HL9.out with h|h
  ·exact .inl h
  ·right;intro k hk;rw[h]at hk;injection hk with hk;subst hk;have:=HG1.out.size;simp;omega
theorem add_any{w:World}{base b gs gv n:Nat}{vv:Value}{vs:List ByteArray}{s:ByteArray}(h:VarB w base b gs gv n vv vs)(hbase:base≤w.heap.size)(hn:n≤2097152)(hl:vs.length≤1048576)(hs:s.size≤maxLen) :
  Calls Tryz.prog 112 #[.string s,.pointer (some ⟨gs,0,none⟩),.pointer (some ⟨gv,0,none⟩)] w (AddPost base b gs gv n vv vs s w):=by
 by_cases ho:s=⟨#[]⟩∨s∈vs
 ·refine(add_old h hs (zO ho)).mono ?_
  rintro e w' ⟨rfl,rfl⟩
  exact⟨vv,rfl,by rw[addV,if_pos ho];exact⟨h.map.mono (by omega),h.seen,h.vars,h.row⟩,Fr.refl _ _,.inl rfl⟩
 ·exact add_new h hbase hn hl hs (zO ho)
def varsT(l:List Tm):List ByteArray:=l.foldl (fun vs t=>addV vs t.var) []
theorem varsT_snoc(l:List Tm)(t:Tm):varsT (l++[t])=addV (varsT l) t.var:=by simp[varsT]
theorem addV_length(vs:List ByteArray)(s:ByteArray):(addV vs s).length≤vs.length+1:=by unfold addV;split <;> simp
theorem foldV_length:∀(l:List Tm) (vs:List ByteArray),(l.foldl (fun vs t=>addV vs t.var) vs).length≤vs.length+l.length
 | [],_=>by simp
 | t::l,vs=>by have:=foldV_length l (addV vs t.var);have:=addV_length vs t.var;simp at *;omega
theorem varsT_length(l:List Tm):(varsT l).length≤l.length:=by have:=foldV_length l [];simpa [varsT] using this
structure VaI(w wr:World)(b gs gv n:Nat)(vv:Value)(l:List Tm)(bx:List Value):Prop where
 vb:VarB wr w.heap.size b gs gv n vv (varsT l)
 ext:Ext w wr
 box:Bk wr w.heap.size 46 bx
 cnt:n≤1+l.length
theorem VaI.fore{w wr w':World}{b gs gv n:Nat}{vv:Value}{l:List Tm}{bx:List Value}(h:VaI w wr b gs gv n vv l bx)(he:Ext wr w'):VaI w w' b gs gv n vv l bx:=⟨h.vb.ext he,h.ext.trans he,h.box.ext he,h.cnt⟩
theorem VaI.step{w wr w1 w2:World}{b gs gv n:Nat}{vv:Value}{l:List Tm}{bx:List Value}{t:Tm}{e:Ending}(h:VaI w wr b gs gv n vv l bx)(hb:w.heap.size≤b)(hg:w.heap.size<gv)(he:Ext wr w1)(hp:AddPost w.heap.size b gs gv n vv (varsT l) t.var w1 e w2) :
  ∃vv',VaI w w2 b gs gv (n+1) vv' (l++[t]) bx:=by
 obtain⟨vv',-,h1,h2,h3⟩:=hp
 have hr:=(h.fore he).vb.row
 refine⟨vv',?_,?_,?_,by have:=h.cnt;simp;omega⟩
 ·rw[varsT_snoc];exact h1
 ·exact Fr.new (h.ext.trans he) h2 (fun k hk=>by
   rcases hk with hk|hk|hk
   ·omega
   ·omega
   ·exact(hr.lt k hk).1)
 ·refine(h.box.ext he).fr h2 (fun hk=>?_)
  rcases hk with hk|hk|hk
  ·exact(h.fore he).vb.map.ne (h.box.ext he) hk
  ·omega
  ·exact own_bk hr (h.box.ext he) (by decide) hk rfl
theorem varsT_nodup(l:List Tm):(varsT l).Nodup:=by
 suffices hs:∀(l:List Tm) (vs:List ByteArray),vs.Nodup→(l.foldl (fun vs t=>addV vs t.var) vs).Nodup from hs l [] List.Pairwise.nil
 intro l
 induction l with
 | nil=>intro vs h;exact h
 | cons t l ih =>
  intro vs h
  refine ih _ ?_
  simp only[addV]
  split
  ·exact h
  ·rename_i hn
   exact List.nodup_append.2 ⟨h,zM.2 ⟨by simp,List.Pairwise.nil⟩,fun a ha b hb e=>by simp at hb;subst hb;subst e;exact hn (.inr ha)⟩
def Strs(F:Nat→Prop)(w:World)(v:Value)(l:List ByteArray):Prop:=∃A c,v=.slice A l.length c∧l.length≤c∧Cl F w A (l.map Sv)
theorem own_ge{w:World}{b s n k:Nat}{e:TypeId}{v:Value}{xs:List Value}(h:w.ownsRow b e s v n xs)(hk:v.ownBlock=some k):b≤k:=by
 rcases h.2 with ⟨rfl,rfl⟩|⟨g,cap,cur,rfl,hb,-⟩
 ·simp[Value.ownBlock]at hk
 ·simp[Value.ownBlock]at hk;omega
theorem foldV_mem{s:ByteArray}:∀(l:List Tm) (vs:List ByteArray),s∈l.foldl (fun vs t=>addV vs t.var) vs↔s∈vs∨∃t∈l,t.var=s∧s≠⟨#[]⟩
 | [],vs=>by simp
 | t::l,vs=>by
  rw[zm,foldV_mem l (addV vs t.var)]
  have hA:s∈addV vs t.var↔s∈vs∨(t.var=s∧s≠⟨#[]⟩):=by
   unfold addV
   by_cases e:t.var=⟨#[]⟩∨t.var∈vs
   ·rw[if_pos e]
    constructor
    ·exact .inl
    ·rintro(h|⟨h1,h2⟩)
     ·exact h
     ·rcases e with e|e
      ·exact absurd (h1.symm.trans e) h2
      ·rwa [h1]at e
   ·rw[if_neg e,jp,jt]
    constructor
    ·rintro(h|h)
     ·exact .inl h
     ·exact .inr ⟨h.symm,fun e2=>e (.inl (h.symm.trans e2))⟩
    ·rintro(h|⟨h1,_⟩)
     ·exact .inl h
     ·exact .inr h1.symm
  rw[hA]
  clear hA
  constructor
  ·rintro((h|h)|⟨u,hu,h⟩)
   ·exact .inl h
   ·exact .inr ⟨t,by simp,h⟩
   ·exact .inr ⟨u,by simp[hu],h⟩
  ·rintro(h|⟨u,hu,h⟩)
   ·exact .inl (.inl h)
   ·rcases jC.1 hu with rfl|hu
    ·exact .inl (.inr h)
    ·exact .inr ⟨u,hu,h⟩
theorem varsT_iff{l:List Tm}{s:ByteArray}:s∈varsT l↔∃t∈l,t.var=s∧s≠⟨#[]⟩:=by
 unfold varsT;rw[foldV_mem];simp
theorem allT_iff{xs:List At}{t:Tm}:t∈allT xs↔∃a∈xs,t∈a.terms:=by unfold allT;simp
theorem Strs.ext{F:Nat→Prop}{w w':World}{v:Value}{l:List ByteArray}(h:Strs F w v l)(he:Ext w w'):Strs F w' v l:=let ⟨A,c,h1,h2,h3⟩:=h;⟨A,c,h1,h2,h3.ext he⟩
theorem Strs.mono{F G:Nat→Prop}{w:World}{v:Value}{l:List ByteArray}(h:Strs F w v l)(hs:∀k,k<w.heap.size→F k→G k):Strs G w v l:=let ⟨A,c,h1,h2,h3⟩:=h;⟨A,c,h1,h2,h3.mono hs⟩
theorem info_atom:(Tryz.prog.info? 49).map (fun i=>(i.zero,i.size,i.bytes))=some (some (.agg #[.bool false,.string ⟨#[]⟩,.slice none 0 0]),3,48):=by kernel_rfl
theorem step_append_at{P:Program}{w:World}{ops:Array Oper}{o:Oper}{a:Act}{K:Act→World→Prop}{Q:Exit→Act→World→Prop}{E:Prop}(hgd:o.guard=none)(s y:Operand)(t:TypeId)(ho:o.op=.call { callee:=.builtin .append,args:=#[s,y],argTypes:=#[t,t] })(base:Nat)(e:TypeId)(i:TypeInfo)(z:Value)(size bytes:Nat)(ht:P.underlying t=some (.slice e))(hi:P.info? e=some i)(hz:i.zero=some z)(hsize:i.size=size)(hby:i.bytes=bytes)(hzs:z.cells.size=size)(hsz : 0<size)(v:Value)(n:Nat)(xs:List Value)(hs:a.eval s=v)(hown:w.ownsRow base e size v n xs)(ad:Addr)(m c:Nat)(news:List Value)(hx:a.eval y=.slice (some ad) m c)(hl:news.length=m*size)(hnews:∀j u,news[j]?=some u→w.cell? (ad.add j)=some u)(h1:∀u∈news,u.oneCell'=true)(h63:n+m≤maxLen)(hbytes:(n+m)*bytes≤140737488355328)(hbase:base≤w.heap.size)(h:∀v' w',w'.ownsRow base e size v' (n+m) (xs++news)→w.grownBy w' v.ownBlock→Lands w v v'→K (a.put o.dst v') w') :
  if Region.wanted o (yielded ops a.tmps)=true then Oper.wp P o a w K Q else E:=by
 have hw:Region.wanted o (yielded ops a.tmps)=true:=by simp[Region.wanted,hgd]
 rw[if_pos hw]
 obtain⟨v',w',hr,h2,h3,h4⟩:=run_append_at (P:=P) w base t o.type e i z size bytes ht hi hz hsize hby hzs hsz v n xs hown ad m c news hl hnews h1 h63 hbytes hbase
 unfold Oper.wp execOp
 simp only[ho,resolve,invoke,builtin,Sem.run_bind,Sem.run_pure,Result.andThen_ok,List.map_toArray,zf,List.map_nil,hs,hx,hr]
 exact h v' w' h2 h3 h4
theorem grown_refl(w:World)(row:Option Nat):w.grownBy w row:=⟨rfl,rfl,rfl,jq _,fun _ _ _=>rfl⟩
theorem run_append_opt{P:Program}(w:World)(base:Nat)(t ty e:TypeId)(i:TypeInfo)(z:Value)(size bytes:Nat)(ht:P.underlying t=some (.slice e))(hi:P.info? e=some i)(hz:i.zero=some z)(hsize:i.size=size)(hby:i.bytes=bytes)(hzs:z.cells.size=size)(hsz : 0<size)(v:Value)(n:Nat)(xs:List Value)(hown:w.ownsRow base e size v n xs)(A:Option Addr)(m c:Nat)(news:List Value)(hl:news.length=m*size)(hnews:∀j u,news[j]?=some u→∃ad,A=some ad∧w.cell? (ad.add j)=some u)(h1:∀u∈news,u.oneCell'=true)(h63:n+m≤maxLen)(hbytes:(n+m)*bytes≤140737488355328)(hbase:base≤w.heap.size) :
  ∃v' w',(Builtin.append_ #[t,t] ty #[v,.slice A m c]).run P w=.ok v' w'∧w'.ownsRow base e size v' (n+m) (xs++news)∧w.grownBy w' v.ownBlock∧Lands w v v':=by
 rcases A with _|a
 ·have hnil:news=[]:=by
   cases news with
   | nil=>rfl
   | cons u l=>obtain⟨ad,e,_⟩:=hnews 0 u rfl;cases e
  subst hnil
  obtain rfl:m=0:=by
   rcases zH m with h|h
   ·exact h
   ·have:=Nat.mul_pos h hsz;simp at hl;omega
  refine⟨v,w,?_,by simpa using hown,grown_refl _ _,.inl rfl⟩
  subst hsize
  rcases hown.2 with ⟨rfl,rfl⟩|⟨g,cap,cur,rfl,hbg,hg,hnc,hcm,hcs,htake⟩
  ·exact run_append_nothing w t t ty e i ht hi none 0 0 (jq _) _ (Src.ofNil (w:=w) ht c)
  ·exact run_append_nothing w t t ty e i ht hi _ n cap hnc _ (Src.ofNil (w:=w) ht c)
 ·exact run_append_at w base t ty e i z size bytes ht hi hz hsize hby hzs hsz v n xs hown a m c news hl (fun j u hu=>by obtain⟨ad,e,h⟩:=hnews j u hu;injection e with e;rw[e];exact h) h1 h63 hbytes hbase
theorem wpList_append_opt{P:Program}{w:World}{ops:Array Oper}{rest:List Oper}{o:Oper}{a:Act}{Q:Exit→Act→World→Prop}(hgd:o.guard=none)(s y:Operand)(t:TypeId)(ho:o.op=.call { callee:=.builtin .append,args:=#[s,y],argTypes:=#[t,t] })(base:Nat)(e:TypeId)(i:TypeInfo)(z:Value)(size bytes:Nat)(ht:P.underlying t=some (.slice e))(hi:P.info? e=some i)(hz:i.zero=some z)(hsize:i.size=size)(hby:i.bytes=bytes)(hzs:z.cells.size=size)(hsz : 0<size)(v:Value)(n:Nat)(xs:List Value)(hs:a.eval s=v)(hown:w.ownsRow base e size v n xs)(A:Option Addr)(m c:Nat)(news:List Value)(hx:a.eval y=.slice A m c)(hl:news.length=m*size)(hnews:∀j u,news[j]?=some u→∃ad,A=some ad∧w.cell? (ad.add j)=some u)(h1:∀u∈news,u.oneCell'=true)(h63:n+m≤maxLen)(hbytes:(n+m)*bytes≤140737488355328)(hbase:base≤w.heap.size)(h:∀v' w',w'.ownsRow base e size v' (n+m) (xs++news)→w.grownBy w' v.ownBlock→Lands w v v'→wpList P ops Q rest (a.put o.dst v') w'):wpList P ops Q (o::rest) a w :=
 wpList_plain hgd fun K hK=>by
  obtain⟨v',w',hr,h2,h3,h4⟩:=run_append_opt (P:=P) w base t o.type e i z size bytes ht hi hz hsize hby hzs hsz v n xs hown A m c news hl hnews h1 h63 hbytes hbase
  unfold Oper.wp execOp
  simp only[ho,resolve,invoke,builtin,Sem.run_bind,Sem.run_pure,Result.andThen_ok,List.map_toArray,zf,List.map_nil,hs,hx,hr]
  exact hK _ _ (h v' w' h2 h3 h4)
theorem step_append_opt{P:Program}{w:World}{ops:Array Oper}{o:Oper}{a:Act}{K:Act→World→Prop}{Q:Exit→Act→World→Prop}{E:Prop}(hgd:o.guard=none)(s y:Operand)(t:TypeId)(ho:o.op=.call { callee:=.builtin .append,args:=#[s,y],argTypes:=#[t,t] })(base:Nat)(e:TypeId)(i:TypeInfo)(z:Value)(size bytes:Nat)(ht:P.underlying t=some (.slice e))(hi:P.info? e=some i)(hz:i.zero=some z)(hsize:i.size=size)(hby:i.bytes=bytes)(hzs:z.cells.size=size)(hsz : 0<size)(v:Value)(n:Nat)(xs:List Value)(hs:a.eval s=v)(hown:w.ownsRow base e size v n xs)(A:Option Addr)(m c:Nat)(news:List Value)(hx:a.eval y=.slice A m c)(hl:news.length=m*size)(hnews:∀j u,news[j]?=some u→∃ad,A=some ad∧w.cell? (ad.add j)=some u)(h1:∀u∈news,u.oneCell'=true)(h63:n+m≤maxLen)(hbytes:(n+m)*bytes≤140737488355328)(hbase:base≤w.heap.size)(h:∀v' w',w'.ownsRow base e size v' (n+m) (xs++news)→w.grownBy w' v.ownBlock→Lands w v v'→K (a.put o.dst v') w') :
  if Region.wanted o (yielded ops a.tmps)=true then Oper.wp P o a w K Q else E:=by
 have hw:Region.wanted o (yielded ops a.tmps)=true:=by simp[Region.wanted,hgd]
 rw[if_pos hw]
 obtain⟨v',w',hr,h2,h3,h4⟩:=run_append_opt (P:=P) w base t o.type e i z size bytes ht hi hz hsize hby hzs hsz v n xs hown A m c news hl hnews h1 h63 hbytes hbase
 unfold Oper.wp execOp
 simp only[ho,resolve,invoke,builtin,Sem.run_bind,Sem.run_pure,Result.andThen_ok,List.map_toArray,zf,List.map_nil,hs,hx,hr]
 exact h v' w' h2 h3 h4
theorem Cl.news{F:Nat→Prop}{w:World}{A:Option Addr}{xs:List Value}(h:Cl F w A xs):∀j u,xs[j]?=some u→∃ad,A=some ad∧w.cell? (ad.add j)=some u:=fun j u hu=>by
 obtain⟨ad,h1,_,h3⟩:=h.at' hu
 exact⟨ad,h1,h3⟩
theorem Strs.of_own{w:World}{base n:Nat}{e:TypeId}{v:Value}{l:List ByteArray}(h:w.ownsRow base e 1 v n (l.map Sv)):Strs (fun k=>v.ownBlock=some k∧base≤k) w v l:=by
 have hn:n=l.length:=by have:=h.1;simp at this;omega
 subst hn
 obtain⟨A,c,rfl,hc,hcl⟩:=Cl.of_own h
 exact⟨A,c,rfl,by simpa using hc,hcl⟩
theorem own_ext'{w w':World}{base size n:Nat}{e:TypeId}{v:Value}{xs:List Value}(h:w.ownsRow base e size v n xs)(he:Ext w w'):w'.ownsRow base e size v n xs:=own_fr h (he.fr (fun _=>False)) (fun _ _ h=>h)
theorem Ats.at2{F:Nat→Prop}{w:World}{A:Option Addr}{n c:Nat}{xs:List At}(h:Ats F w (.slice A n c) xs):∀i (hi:i<xs.length),∃ad B d,A=some ad∧F ad.block ∧
  w.cell? (ad.add (i*3))=some (.bool xs[i].neg)∧w.cell? ⟨(ad.add (i*3)).block,(ad.add (i*3)).off+1,none⟩=some (.string xs[i].rel)∧w.cell? ⟨(ad.add (i*3)).block,(ad.add (i*3)).off+2,none⟩=some (.slice B xs[i].terms.length d)∧xs[i].terms.length≤d∧Cl F w B (tcells xs[i].terms):=by
 obtain⟨A',c',e,-,hh⟩:=h.at'
 injection e with e1 e2 e3
 subst e1
 exact hh
theorem Cl.str{F:Nat→Prop}{w:World}{A:Option Addr}{l:List ByteArray}(h:Cl F w A (l.map Sv)){i:Nat}(hi:i<l.length):∃ad,A=some ad∧F ad.block∧w.cell? (ad.add i)=some (.string l[i]):=h.at' (by simp[hi])
theorem Ats.sl{F:Nat→Prop}{w:World}{v:Value}{xs:List At}(h:Ats F w v xs):∃A c,v=.slice A xs.length c:=let ⟨A,c,_,e,_⟩:=h;⟨A,c,e⟩
theorem MapV.look{w:World}{b n:Nat}{f:ByteArray→Option Value}(h:MapV w b n f){t e:TypeId}(ht:Tryz.prog.underlying t=some (.map 9 e)){z:Value}(hz:(zeroValue e).run Tryz.prog w=.ok z w){s:ByteArray}(hs:s.size≤maxLen){u:Value}(hu:(f s).getD z=u):(Instr.lookup t (.map (some b)) (.string s) false).run Tryz.prog w=.ok u w:=by
 obtain⟨D,hD,-,hat,-⟩:=h
 obtain⟨v,ps,hrun,hv⟩:=hD.lookup law_str ht hz (zd:=.held z) (zp:=[]) rfl (keyOf_str s hs)
 have hvu:v=u:=by
  have h1:=hat s (.held z)
  rw[h1]at hv
  rcases hf:f s with _|y
  ·rw[hf]at hv hu;simp at hv hu;rw[hv.1,hu]
  ·rw[hf]at hv hu;simp at hv hu;rw[hv.1,hu]
 subst hvu
 exact hrun
end Go.Proofs.YtplldnnnhgnbjaaGreatDoor
namespace Go.Proofs.YtplldnnnhgnbjaaGreatDoor
open Go.RowKit Go.Maps
theorem bool_iff{a b:Bool}(h:a=true↔b=true):a=b:=by
 cases a <;> cases b <;> simp_all
theorem Fr.drew{S:Nat→Prop}{a w:World}(h:Fr S a w):Fr S a w.drew:=⟨h.os,h.tape,h.output,h.size,h.block⟩
theorem Fr.alloc{S:Nat→Prop}{a w:World}(h:Fr S a w)(o:Obj):Fr S a (w.alloc o):=h.ext ((Ext.refl w).alloc o)
structure Rdg(α : Type) where
 sz:Nat
 R:(Nat→Prop)→World→List Value→α→Prop
 len:∀{F:Nat→Prop} {w:World} {cs:List Value} {x : α},R F w cs x→cs.length=sz
 fr:∀{F S:Nat→Prop} {w w':World} {cs:List Value} {x : α},R F w cs x→Fr S w w'→(∀k,F k→¬S k)→R F w' cs x
 mono:∀{F G:Nat→Prop} {w:World} {cs:List Value} {x : α},R F w cs x→(∀k,k<w.heap.size→F k→G k)→R G w cs x
theorem Rdg.ext{α : Type}(r:Rdg α){F:Nat→Prop}{w w':World}{cs:List Value}{x : α}(h:r.R F w cs x)(he:Ext w w'):r.R F w' cs x:=r.fr h (he.fr (fun _=>False)) (fun _ _ h=>h)
def flatR{α : Type}(cells : α→List Value)(sz:Nat)(h:∀x,(cells x).length=sz):Rdg α where
 sz:=sz
 R:=fun _ _ cs x=>cs=cells x
 len:=fun {_ _ _ x} e=>e ▸ h x
 fr:=fun e _ _=>e
 mono:=fun e _=>e
def Sl{α : Type}(r:Rdg α)(F:Nat→Prop)(w:World)(v:Value)(xs:List α):Prop :=
 ∃A c,v=.slice A xs.length c∧xs.length≤c∧∀i (hi:i<xs.length),∃ad cs,A=some ad∧F ad.block∧r.R F w cs xs[i]∧∀j (h:j<cs.length),w.cell? (ad.add (i*r.sz+j))=some cs[j]
section
variable {α : Type} {r:Rdg α} {F G S:Nat→Prop} {w w':World} {v:Value} {xs:List α}
theorem Sl.fr(h:Sl r F w v xs)(hf:Fr S w w')(hs:∀k,F k→¬S k):Sl r F w' v xs:=by
 obtain⟨A,c,e,hc,h⟩:=h
 refine⟨A,c,e,hc,fun i hi=>?_⟩
 obtain⟨ad,cs,h1,h2,h3,h4⟩:=h i hi
 exact⟨ad,cs,h1,h2,r.fr h3 hf hs,fun j hj=>hf.cell (h4 j hj) (by rw[block_add];exact hs _ h2)⟩
theorem Sl.ext(h:Sl r F w v xs)(he:Ext w w'):Sl r F w' v xs:=h.fr (he.fr (fun _=>False)) (fun _ _ h=>h)
theorem Sl.mono(h:Sl r F w v xs)(hp : 0<r.sz)(hs:∀k,k<w.heap.size→F k→G k):Sl r G w v xs:=by
 obtain⟨A,c,e,hc,h⟩:=h
 refine⟨A,c,e,hc,fun i hi=>?_⟩
 obtain⟨ad,cs,h1,h2,h3,h4⟩:=h i hi
 have h5:=cell_lt (h4 0 (by rw[r.len h3];exact hp))
 rw[block_add]at h5
 exact⟨ad,cs,h1,hs _ h5 h2,r.mono h3 hs,h4⟩
theorem Sl.sl(h:Sl r F w v xs):∃A c,v=.slice A xs.length c:=let ⟨A,c,e,_⟩:=h;⟨A,c,e⟩
theorem Sl.cap{A:Option Addr}{n c:Nat}(h:Sl r F w (.slice A n c) xs):n=xs.length∧n≤c:=by
 obtain⟨A',c',e,hc,-⟩:=h
 injection e with e1 e2 e3
 omega
theorem Sl.nil(r:Rdg α)(F:Nat→Prop)(w:World):Sl r F w (.slice none 0 0) []:=⟨none,0,rfl,jq _,fun i hi=>by simp at hi⟩
theorem Sl.at{A:Option Addr}{n c:Nat}(h:Sl r F w (.slice A n c) xs){i:Nat}(hi:i<xs.length):∃ad cs,A=some ad∧F ad.block∧r.R F w cs xs[i]∧(∀h : 0<cs.length,w.cell? (ad.add (i*r.sz))=some cs[0])∧∀j (h:j+1<cs.length),w.cell? ⟨(ad.add (i*r.sz)).block,(ad.add (i*r.sz)).off+(j+1),none⟩=some cs[j+1]:=by
 obtain⟨A',c',e,hc,h⟩:=h
 injection e with e1 e2 e3
 subst e1
 obtain⟨ad,cs,h1,h2,h3,h4⟩:=h i hi
 refine⟨ad,cs,h1,h2,h3,fun h0=>by simpa using h4 0 h0,fun j hj=>?_⟩
 rw[←add_succ']
 exact h4 (j+1) hj
end
structure Rw{α : Type}(r:Rdg α)(w:World)(base:Nat)(E:TypeId)(v:Value)(n:Nat)(xs:List α)(css:List (List Value)):Prop where
 len:css.length=xs.length
 own:w.ownsRow base E r.sz v n css.flatten
 rd:∀i (h:i<xs.length) (h':i<css.length),r.R (fun k=>base≤k∧v.ownBlock≠some k) w css[i] xs[i]
section
variable {α : Type} {r:Rdg α} {S:Nat→Prop} {w w' wb w9:World} {base n:Nat} {E:TypeId} {v v9:Value} {xs:List α} {css:List (List Value)} {cs:List Value} {x : α}
theorem flat_len{sz:Nat}:∀{css:List (List Value)},(∀cs∈css,cs.length=sz)→css.flatten.length=css.length*sz
 | [],_=>by simp
 | c::css,h=>by
  rw[List.flatten_cons,jl,flat_len (fun d hd=>h d (jr _ hd)),h c zI,jD,zN]
  omega
theorem flat_get{sz:Nat}:∀{css:List (List Value)} {i j:Nat} (_:∀cs∈css,cs.length=sz) (hi:i<css.length),j<sz→css.flatten[i*sz+j]?=css[i][j]?
 | c::css,0,j,h,_,hj=>by
  rw[List.flatten_cons,zi (by rw[h c zI];omega)]
  simp
 | c::css,i+1,j,h,hi,hj=>by
  have hc:=h c zI
  rw[List.flatten_cons,ze (by rw[hc,zN];omega)]
  have e:(i+1)*sz+j-c.length=i*sz+j:=by rw[hc,zN];omega
  rw[e]
  exact flat_get (fun d hd=>h d (jr _ hd)) (by simpa using hi) hj
theorem Rw.all(h:Rw r w base E v n xs css):∀cs∈css,cs.length=r.sz:=fun cs hcs=>by
 obtain⟨i,hi,rfl⟩:=jv hcs
 exact r.len (h.rd i (by rw[←h.len];exact hi) hi)
theorem Rw.num(h:Rw r w base E v n xs css)(hp : 0<r.sz):n=xs.length:=by
 have h1:=h.own.1
 rw[flat_len h.all,h.len]at h1
 exact(Nat.mul_right_cancel hp h1).symm
theorem Rw.empty(r:Rdg α)(w:World)(base:Nat)(E:TypeId):Rw r w base E (.slice none 0 0) 0 [] []:=⟨rfl,World.ownsRow_nil _ _ _ _,fun i h=>by simp at h⟩
theorem Rw.ext(h:Rw r w base E v n xs css)(he:Ext w w'):Rw r w' base E v n xs css:=⟨h.len,own_ext' h.own he,fun i hi h'=>r.ext (h.rd i hi h') he⟩
theorem Rw.fr(h:Rw r w base E v n xs css)(hf:Fr S w w')(hs:∀k,base≤k→¬S k):Rw r w' base E v n xs css:=⟨h.len,own_fr h.own hf (fun k hk=>hs k (own_ge h.own hk)),fun i hi h'=>r.fr (h.rd i hi h') hf (fun k hk=>hs k hk.1)⟩
theorem Rw.sl(h:Rw r w base E v n xs css)(hp : 0<r.sz):Sl r (fun k=>base≤k) w v xs:=by
 have hn:=h.num hp
 have hall:=h.all
 obtain⟨hl,ho,hr⟩:=h
 subst hn
 obtain⟨A,c,rfl,hc,hcl⟩:=Cl.of_own ho
 refine⟨A,c,rfl,hc,fun i hi=>?_⟩
 have hi':i<css.length:=by omega
 have hlen:css[i].length=r.sz:=hall _ (jg hi')
 have hg:∀j,j<css[i].length→∃ad,A=some ad∧base≤ad.block∧w.cell? (ad.add (i*r.sz+j))=css[i][j]?:=fun j hj=>by
  have h1:=flat_get hall hi' (j:=j) (by omega)
  rw[jk hj]at h1 ⊢
  obtain⟨ad,e,h2,h3⟩:=hcl.at' h1
  exact⟨ad,e,h2.2,h3⟩
 obtain⟨ad,rfl,hb,-⟩:=hg 0 (by omega)
 refine⟨ad,css[i],rfl,hb,r.mono (hr i hi hi') (fun k _ hk=>hk.1),fun j hj=>?_⟩
 obtain⟨ad',e,-,h2⟩:=hg j hj
 injection e with e
 subst e
 rw[h2,jk hj]
theorem Rw.more(h:Rw r w base E v n xs css)(he:Ext w wb)(ht:r.R (fun k=>base≤k∧v.ownBlock≠some k) wb cs x)(hr:w9.ownsRow base E r.sz v9 (n+1) (css.flatten++cs))(hg:wb.grownBy w9 v.ownBlock)(hl:Lands wb v v9):Rw r w9 base E v9 (n+1) (xs++[x]) (css++[cs]):=by
 have hne:∀k,k<wb.heap.size→v.ownBlock≠some k→v9.ownBlock≠some k:=fun k hk h1 h2=>by
  rcases hl with hl|hl
  ·exact h1 (hl ▸ h2)
  ·rw[hl]at h2
   injection h2 with h2
   omega
 have hup:∀{ds:List Value} {y : α},r.R (fun k=>base≤k∧v.ownBlock≠some k) wb ds y→r.R (fun k=>base≤k∧v9.ownBlock≠some k) w9 ds y:=fun {ds y} hh=>by
  have h1:r.R (fun k=>(base≤k∧v.ownBlock≠some k)∧k<wb.heap.size) wb ds y:=r.mono hh (fun k hk h1=>And.intro h1 hk)
  have h2:=r.fr h1 (grown_fr hg) (fun k hk e=>hk.1.2 e)
  exact r.mono h2 (fun k _ hk=>⟨hk.1.1,hne k hk.2 hk.1.2⟩)
 refine⟨by simp[h.len],by rw[List.flatten_append];simpa using hr,fun i hi h'=>?_⟩
 rcases jB i xs.length with hx|hx
 ·rw[jx hx,jx (by rw[h.len];exact hx)]
  exact hup (r.ext (h.rd i hx (by rw[h.len];exact hx)) he)
 ·have e:i=xs.length:=by simp at hi;omega
  subst e
  rw[jw (jq _),jw (by rw[h.len];exact jq _)]
  simp only[h.len,zC,ja]
  exact hup ht
end
structure Cd where
 var:ByteArray
 op:Int
 kind:Int
 int:Int
 str:ByteArray
structure Ky where
 var:ByteArray
 desc:Bool
structure Rl where
 ats:List At
 cds:List Cd
structure Qy where
 hd:List ByteArray
 ag:Int
 av:ByteArray
 rs:List Rl
 od:List Ky
structure Sc where
 name:ByteArray
 kinds:List Int
def Cd.cells(c:Cd):List Value:=[.string c.var,.int .i64 c.op,.int .i64 c.kind,.int .i64 c.int,.string c.str]
def Ky.cells(k:Ky):List Value:=[.string k.var,.bool k.desc]
def rdCd:Rdg Cd:=flatR Cd.cells 5 (fun _=>rfl)
def rdKy:Rdg Ky:=flatR Ky.cells 2 (fun _=>rfl)
def rdSc:Rdg Sc where
 sz:=2
 R:=fun F w cs s=>∃u,cs=[.string s.name,u]∧Ins F w u s.kinds
 len:=fun ⟨_,e,_⟩=>by rw[e];rfl
 fr:=fun ⟨u,e,h⟩ hf hs=>⟨u,e,h.fr hf hs⟩
 mono:=fun ⟨u,e,h⟩ hs=>⟨u,e,h.mono hs⟩
def rdRl:Rdg Rl where
 sz:=2
 R:=fun F w cs r=>∃u v,cs=[u,v]∧Ats F w u r.ats∧Sl rdCd F w v r.cds
 len:=fun ⟨_,_,e,_⟩=>by rw[e];rfl
 fr:=fun ⟨u,v,e,h,k⟩ hf hs=>⟨u,v,e,h.fr hf hs,k.fr hf hs⟩
 mono:=fun {F G w cs x} ⟨u,v,e,h,k⟩ hs=>⟨u,v,e,by
  obtain⟨A,c,vs,h1,h2,h3,h4,h5⟩:=h
  exact⟨A,c,vs,h1,h2,h3,h4.mono hs,fun i hi h'=>(h5 i hi h').mono hs⟩,k.mono (by decide) hs⟩
section
variable {F:Nat→Prop} {w:World} {A:Option Addr} {n c:Nat}
theorem Sl.cd{xs:List Cd}(h:Sl rdCd F w (.slice A n c) xs){i:Nat}(hi:i<xs.length):∃ad,A=some ad∧F ad.block∧w.cell? (ad.add (i*5))=some (.string xs[i].var)∧w.cell? ⟨(ad.add (i*5)).block,(ad.add (i*5)).off+1,none⟩=some (.int .i64 xs[i].op)∧w.cell? ⟨(ad.add (i*5)).block,(ad.add (i*5)).off+2,none⟩=some (.int .i64 xs[i].kind)∧w.cell? ⟨(ad.add (i*5)).block,(ad.add (i*5)).off+3,none⟩=some (.int .i64 xs[i].int)∧w.cell? ⟨(ad.add (i*5)).block,(ad.add (i*5)).off+4,none⟩=some (.string xs[i].str):=by
 obtain⟨ad,cs,h1,h2,h3,h4,h5⟩:=h.at hi
 have e:cs=Cd.cells xs[i]:=h3
 subst e
 exact⟨ad,h1,h2,h4 (by simp[Cd.cells]),h5 0 (by simp[Cd.cells]),h5 1 (by simp[Cd.cells]),h5 2 (by simp[Cd.cells]),h5 3 (by simp[Cd.cells])⟩
theorem Sl.ky{xs:List Ky}(h:Sl rdKy F w (.slice A n c) xs){i:Nat}(hi:i<xs.length):∃ad,A=some ad∧F ad.block∧w.cell? (ad.add (i*2))=some (.string xs[i].var)∧w.cell? ⟨(ad.add (i*2)).block,(ad.add (i*2)).off+1,none⟩=some (.bool xs[i].desc):=by
 obtain⟨ad,cs,h1,h2,h3,h4,h5⟩:=h.at hi
 have e:cs=Ky.cells xs[i]:=h3
 subst e
 exact⟨ad,h1,h2,h4 (by simp[Ky.cells]),h5 0 (by simp[Ky.cells])⟩
theorem Sl.sc{xs:List Sc}(h:Sl rdSc F w (.slice A n c) xs){i:Nat}(hi:i<xs.length):∃ad B d,A=some ad∧F ad.block∧w.cell? (ad.add (i*2))=some (.string xs[i].name)∧w.cell? ⟨(ad.add (i*2)).block,(ad.add (i*2)).off+1,none⟩=some (.slice B xs[i].kinds.length d)∧Ins F w (.slice B xs[i].kinds.length d) xs[i].kinds:=by
 obtain⟨ad,cs,h1,h2,⟨u,rfl,hu⟩,h4,h5⟩:=h.at hi
 obtain⟨B,d,e,hd,hcl⟩:=hu
 subst e
 exact⟨ad,B,d,h1,h2,h4 (by simp),h5 0 (by simp),B,d,rfl,hd,hcl⟩
theorem Sl.rl{xs:List Rl}(h:Sl rdRl F w (.slice A n c) xs){i:Nat}(hi:i<xs.length):∃ad B d C e,A=some ad∧F ad.block∧w.cell? (ad.add (i*2))=some (.slice B xs[i].ats.length d)∧w.cell? ⟨(ad.add (i*2)).block,(ad.add (i*2)).off+1,none⟩=some (.slice C xs[i].cds.length e)∧Ats F w (.slice B xs[i].ats.length d) xs[i].ats∧Sl rdCd F w (.slice C xs[i].cds.length e) xs[i].cds:=by
 obtain⟨ad,cs,h1,h2,⟨u,v,rfl,hu,hv⟩,h4,h5⟩:=h.at hi
 obtain⟨B,d,e1⟩:=hu.sl
 obtain⟨C,e,e2⟩:=hv.sl
 subst e1 e2
 exact⟨ad,B,d,C,e,h1,h2,h4 (by simp),h5 0 (by simp),hu,hv⟩
end
end Go.Proofs.YtplldnnnhgnbjaaGreatDoor
namespace Go.Proofs.YtplldnnnhgnbjaaGreatDoor
open Go.RowKit Go.Maps
def firstE{α : Type}(f : α→Int):List α→Int
 | []=>0
 | a::l=>if f a=0 then firstE f l else f a
section
variable {α : Type} {f g : α→Int} {l:List α}
theorem firstE_zero:firstE f l=0↔∀a∈l,f a=0:=by
 induction l with
 | nil=>simp[firstE]
 | cons a l ih =>
  unfold firstE
  by_cases h:f a=0
  ·rw[if_pos h,ih]
   simp[h]
  ·rw[if_neg h]
   simp[h]
theorem firstE_at{i:Nat}(hi:i<l.length)(h0:∀j (_:j<i) (_:j<l.length),f l[j]=0)(h1:f l[i]≠0):firstE f l=f l[i]:=by
 induction l generalizing i with
 | nil=>simp at hi
 | cons a l ih =>
  unfold firstE
  rcases i with _|i
  ·exact if_neg h1
  ·have ha:f a=0:=h0 0 (by omega) (by simp)
   rw[if_pos ha]
   exact ih (i:=i) (by simpa using hi) (fun j hj hl=>h0 (j+1) (by omega) (by simpa using hl)) h1
theorem firstE_all(h0:∀j (_:j<l.length),f l[j]=0):firstE f l=0:=firstE_zero.2 (fun a ha=>by
 obtain⟨j,hj,rfl⟩:=jv ha
 exact h0 j hj)
end
def firstI(f:Nat→Int)(n:Nat):Int:=firstE f (List.range n)
theorem firstI_zero{f:Nat→Int}{n:Nat}:firstI f n=0↔∀i,i<n→f i=0:=by unfold firstI;rw[firstE_zero];simp
theorem firstI_at{f:Nat→Int}{n i:Nat}(hi:i<n)(h0:∀j,j<i→f j=0)(h1:f i≠0):firstI f n=f i:=by
 unfold firstI
 rw[firstE_at (i:=i) (by simpa using hi) (fun j hj hl=>by simpa using h0 j hj) (by simpa using h1)]
 simp
def runX{σ α : Type}(f : σ→α→Except Int σ):List α→σ→Except Int σ
 | [],s=>.ok s
 | a::l,s=>match f s a with
  | .ok s'=>runX f l s'
  | .error e=>.error e
section
variable {σ α : Type} {f : σ→α→Except Int σ}
theorem runX_append:∀(l m:List α) (s : σ),runX f (l++m) s=match runX f l s with|.ok s'=>runX f m s'|.error e=>.error e
 | [],m,s=>rfl
 | a::l,m,s=>by
  have e1:∀(k:List α),runX f (a::k) s=match f s a with|.ok s'=>runX f k s'|.error e=>.error e:=fun k=>rfl
  rw[zw,e1,e1]
  cases f s a with
  | ok s'=>exact runX_append l m s'
  | error e=>rfl
theorem runX_take{l:List α}{i:Nat}(hi:i<l.length){s s' : σ}(h:runX f (l.take i) s=.ok s'):runX f (l.take (i+1)) s=f s' l[i]:=by
 rw[jj hi,runX_append,h]
 have e1:runX f [l[i]] s'=match f s' l[i] with|.ok s'=>runX f [] s'|.error e=>.error e:=rfl
 show runX f [l[i]] s'=_
 rw[e1]
 cases f s' l[i] <;> rfl
theorem runX_stop{l:List α}{i:Nat}(hi:i<l.length){s s' : σ}{e:Int}(h:runX f (l.take i) s=.ok s')(h1:f s' l[i]=.error e):runX f l s=.error e:=by
 have h2:=runX_take hi h
 rw[h1]at h2
 rw[←za (i+1) l,runX_append,h2]
end
def letB(c:UInt8):Bool:=decide (97≤c.toNat∧c.toNat≤122∨65≤c.toNat∧c.toNat≤90)
def tailB(c:UInt8):Bool:=decide (c.toNat=95∨48≤c.toNat∧c.toNat≤57)
def chB(s:ByteArray)(i:Nat):Bool:=letB (s.data.toList.getD i 0) || (decide (i≠0) && tailB (s.data.toList.getD i 0))
def catB(s:ByteArray):Bool:=decide (s≠⟨#[]⟩) && decide (s.size≤16) && (List.range s.size).all (chB s)
def kwords:List ByteArray:=[⟨#[99,111,117,110,116]⟩,⟨#[100,101,115,99]⟩,⟨#[109,97,120]⟩,⟨#[109,105,110]⟩,⟨#[110,111,116]⟩,⟨#[111,114,100,101,114]⟩,⟨#[115,117,109]⟩]
def nameB(s:ByteArray):Bool:=!(decide (s∈kwords)) && catB s
theorem nameB_ne{s:ByteArray}(h:nameB s=true):s≠⟨#[]⟩:=by
 unfold nameB catB at h
 simp only[Bool.and_eq_true,decide_eq_true_eq]at h
 exact h.2.1.1
def valB(k n:Int)(s:ByteArray):Bool:=if k=1 then decide (s=⟨#[]⟩) else if k=2 then decide (n=0∧s.size≤24) else false
def termE(t:Tm):Int:=if t.var=⟨#[]⟩ then (if valB t.kind t.int t.str=true then 0 else 4) else if nameB t.var=true then (if t.kind=0∧t.int=0∧t.str=⟨#[]⟩ then 0 else 1) else 7
def atomE(a:At):Int:=if nameB a.rel=true then (if a.terms.length≤6 then firstE termE a.terms else 12) else 7
def condE(c:Cd):Int:=if nameB c.var=true then (if 0≤c.op∧c.op≤5 then (if valB c.kind c.int c.str=true then 0 else 4) else 2) else 7
def itemsE(r:Rl):Int:=if r.ats=[] then 10 else if r.ats.length≤8∧r.cds.length≤8 then (if firstE atomE r.ats=0 then firstE condE r.cds else firstE atomE r.ats) else 12
def varsC(r:Rl):List ByteArray:=r.cds.foldl (fun vs c=>addV vs c.var) (varsT (allT r.ats))
def posT(xs:List At):List Tm:=xs.flatMap (fun a=>if a.neg=true then [] else a.terms)
def boundB(r:Rl)(v:ByteArray):Bool:=decide (v≠⟨#[]⟩) && (posT r.ats).any (fun t=>decide (t.var=v))
def ruleE(nd:List ByteArray)(r:Rl):Int:=if itemsE r=0 then (if (varsC r).length≤8 then (if (nd++varsC r).all (boundB r)=true then 0 else 22) else 12) else itemsE r
def headE(hd:List ByteArray):Int:=if hd.length≤6 then firstI (fun i=>if nameB (hd.getD i ⟨#[]⟩)=true then (if hd.getD i ⟨#[]⟩∈hd.take i then 8 else 0) else 7) hd.length else 12
def aggE(ag:Int)(av:ByteArray):Int:=if ag=0∨ag=1 then (if av=⟨#[]⟩ then 0 else 1) else if ag=2∨ag=3∨ag=4 then (if nameB av=true then 0 else 7) else 2
def needV(hd:List ByteArray)(av:ByteArray):List ByteArray:=if av=⟨#[]⟩ then hd else hd++[av]
def orderE(hd:List ByteArray)(od:List Ky):Int:=firstI (fun i=>if (od.map Ky.var).getD i ⟨#[]⟩∈hd then (if (od.map Ky.var).getD i ⟨#[]⟩∈(od.map Ky.var).take i then 8 else 0) else 7) od.length
def astE(q:Qy):Int :=
 if q.rs=[] then 10 else if q.rs.length≤3∧(q.rs.length≤1∨q.ag=0) then
  (if headE q.hd=0 then (if aggE q.ag q.av=0 then (if firstE (ruleE (needV q.hd q.av)) q.rs=0 then orderE q.hd q.od else firstE (ruleE (needV q.hd q.av)) q.rs) else aggE q.ag q.av) else headE q.hd) else 12
abbrev Km:=ByteArray→Option Int
def updK(m:Km)(s:ByteArray)(k:Int):Km:=fun t=>if t=s then some k else m t
def kindT(m:Km)(p:Tm×Int):Except Int Km :=
 if p.1.var=⟨#[]⟩ then (if p.1.kind=p.2 then .ok m else .error 5)
 else match m p.1.var with
  | some k=>if k=p.2 then .ok m else .error 5
  | none=>.ok (updK m p.1.var p.2)
def findS(ss:List Sc)(s:ByteArray):Option Sc:=ss.find? (fun x=>decide (x.name=s))
def kindA(ss:List Sc)(m:Km)(a:At):Except Int Km :=
 match findS ss a.rel with
 | none=>.error 7
 | some s=>if a.terms.length=s.kinds.length then runX kindT (a.terms.zip s.kinds) m else .error 6
def inferX(ss:List Sc)(r:Rl):Except Int Km:=runX (kindA ss) r.ats (fun _=>none)
def errX{σ : Type}:Except Int σ→Int
 | .ok _=>0
 | .error e=>e
def kmOf(ss:List Sc)(r:Rl):Km:=match inferX ss r with|.ok m=>m|.error _=>fun _=>none
def covB(a b:At):Bool:=a.terms.all (fun t=>decide (t.var=⟨#[]⟩) || b.terms.any (fun u=>decide (u.var=t.var)))
def guardI(xs:List At)(a:At):Option Nat:=xs.findIdx? (fun b=>!b.neg && covB a b)
def negE(xs:List At)(a:At):Int:=if a.neg=true then (if (guardI xs a).isSome=true then 0 else 23) else 0
def kindE(m:Km)(c:Cd):Int:=if c.kind=(m c.var).getD 0 then 0 else 5
def verifyE(m:Km)(r:Rl):Int:=if firstE (kindE m) r.cds=0 then firstE (negE r.ats) r.ats else firstE (kindE m) r.cds
def checkE(ss:List Sc)(q:Qy):Int :=
 if astE q=0 then
  (if firstE (fun r=>errX (inferX ss r)) q.rs=0 then
   (if firstE (fun r=>verifyE (kmOf ss r) r) q.rs=0 then
    (if q.rs.all (fun r=>q.hd.all (fun v=>decide ((kmOf ss r v).getD 0=(kmOf ss (q.rs.headD ⟨[],[]⟩) v).getD 0)))=true then
     (if q.ag=2∧(kmOf ss (q.rs.headD ⟨[],[]⟩) q.av).getD 0≠1 then 5 else 0) else 5)
   else firstE (fun r=>verifyE (kmOf ss r) r) q.rs)
  else firstE (fun r=>errX (inferX ss r)) q.rs)
 else astE q
end Go.Proofs.YtplldnnnhgnbjaaGreatDoor
namespace Go.Proofs.YtplldnnnhgnbjaaGreatDoor
open Go.RowKit Go.Maps
set_option maxRecDepth 20000 in
theorem vvalid_any(k n:Int)(s:ByteArray)(w:World)(hs:s.size≤maxLen) :
  Calls Tryz.prog 182 #[.agg #[.int .i64 k,.int .i64 n,.string s]] w (Ret (fun x _=>x=.bool (valB k n s)) w):=by
 have hsz:s.size≤9223372036854775807:=by simpa [maxLen] using hs
 by_cases h1:k=1
 ·have e:valB k n s=s.toList.isEmpty:=by unfold valB;rw[if_pos h1,var_empty]
  rw[e]
  subst h1
  obtain⟨b,hb⟩:∃b,b=s.toList.isEmpty:=⟨_,rfl⟩
  rw[←hb]
  rcases b with _|_
  all_goals
   have hz:=hb.symm
   clear hb e
   go_enter Tryz.func182,Tryz.ntmps182
   go_wp2_with fail
   go_ret
   exact Ret.mk ((Ext.refl w).alloc _) rfl
 ·have h1':(k == 1)=false:=beq_false_of_ne h1
  by_cases h2:k=2
  ·have e:valB k n s=decide (n=0∧s.size≤24):=by unfold valB;rw[if_neg h1,if_pos h2]
   rw[e]
   subst h2
   clear h1 h1' e
   by_cases h3:n=0
   ·subst h3
    by_cases h4:s.size≤24
    ·have h5:(s.size:Int)≤24:=by omega
     rw[show decide ((0:Int)=0∧s.size≤24)=true from decide_eq_true ⟨rfl,h4⟩]
     go_enter Tryz.func182,Tryz.ntmps182
     go_wp2_with fail
     go_ret
     exact Ret.mk ((Ext.refl w).alloc _) rfl
    ·have h5:¬(s.size:Int)≤24:=by omega
     rw[show decide ((0:Int)=0∧s.size≤24)=false from decide_eq_false (fun h=>h4 h.2)]
     go_enter Tryz.func182,Tryz.ntmps182
     go_wp2_with fail
     go_ret
     exact Ret.mk ((Ext.refl w).alloc _) rfl
   ·have h4:(n == 0)=false:=beq_false_of_ne h3
    rw[show decide (n=0∧s.size≤24)=false from decide_eq_false (fun h=>h3 h.1)]
    go_enter Tryz.func182,Tryz.ntmps182
    go_wp2_with fail
    go_ret
    exact Ret.mk ((Ext.refl w).alloc _) rfl
  ·have h2':(k == 2)=false:=beq_false_of_ne h2
   have e:valB k n s=false:=by unfold valB;rw[if_neg h1,if_neg h2]
   rw[e]
   clear e
   go_enter Tryz.func182,Tryz.ntmps182
   go_wp2_with fail
   go_ret
   exact Ret.mk ((Ext.refl w).alloc _) rfl
end Go.Proofs.YtplldnnnhgnbjaaGreatDoor
