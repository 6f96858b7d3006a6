/- What the law 'SegmentMakes' needs of walks and plain Lean, part 2: nothing is assumed beyond the texts that it imports. -/
import Derived.ChangeKeysEq
import Derived.Ground.Names2Prog
import Derived.KernelRfl
import Derived.Laws.IdiomCopy
import Derived.Laws.MakeOwn
import Derived.Laws.StructEq
import Derived.Lib.RuneBytes
import Derived.Lib.SliceRun
import Derived.Maps.OwnSet
import Derived.Shelf.SlGeneric
import Derived.Shelf.Slices.SearchI
import Derived.Shelf.Small.Strs
import Derived.Shelf.Small.Utf8
import Derived.Shelf.Strings.Builder1
import Derived.Shelf.Strings.BuilderRune
import Derived.Shelf.Strings.SlTrimAscii
import Derived.Test.YtohfoenhmkfjkaaGreatDoorProg
import Derived.Test.YtohfoenhmkfjkaaGreatDoorZSegmentMakes1
set_option linter.unusedVariables false
set_option linter.unusedSimpArgs false
theorem ae:type_of% @Go.K.Rg.nil:=@Go.K.Rg.nil
theorem ah:type_of% @Go.K.Step.refl:=@Go.K.Step.refl
theorem aj:type_of% @Go.K.Rg.move:=@Go.K.Rg.move
theorem ak:type_of% @Go.K.T.region:=@Go.K.T.region
theorem al:type_of% @Go.K.Rg.assign:=@Go.K.Rg.assign
theorem an:type_of% @Go.K.aD.cons:=@Go.K.aD.cons
theorem aq:type_of% @Go.K.Rg.aH:=@Go.K.Rg.aH
theorem ar:type_of% @Go.K.Le.refl:=@Go.K.Le.refl
theorem au:type_of% @Go.K.T.seq:=@Go.K.T.seq
theorem aw:type_of% @Go.K.Rg.bA:=@Go.K.Rg.bA
theorem ay:type_of% @Go.Proofs.Tryz.underlying32:=@Go.Proofs.Tryz.underlying32
theorem aA:type_of% @Go.K.Rg.fieldAddr:=@Go.K.Rg.fieldAddr
theorem aB:type_of% @Go.Proofs.Tryz.underlying3:=@Go.Proofs.Tryz.underlying3
theorem aC:type_of% @Go.Proofs.Tryz.underlying107:=@Go.Proofs.Tryz.underlying107
theorem aF:type_of% @List.getElem?_eq_some_iff:=@List.getElem?_eq_some_iff
theorem aG:type_of% @Option.some.inj:=@Option.some.inj
theorem aI:type_of% @List.getElem?_eq_getElem:=@List.getElem?_eq_getElem
theorem aJ:type_of% @Go.Proofs.Tryz.underlying55:=@Go.Proofs.Tryz.underlying55
theorem aK:type_of% @Int.toNat_natCast:=@Int.toNat_natCast
theorem aL:type_of% @Go.K.Rg.bD:=@Go.K.Rg.bD
theorem aM:type_of% @Go.Proofs.Tryz.underlying9:=@Go.Proofs.Tryz.underlying9
theorem aO:type_of% @Go.Proofs.Tryz.underlying62:=@Go.Proofs.Tryz.underlying62
theorem aP:type_of% @Go.Proofs.Tryz.underlying153:=@Go.Proofs.Tryz.underlying153
theorem aQ:type_of% @List.mem_of_getElem?:=@List.mem_of_getElem?
theorem aR:type_of% @Go.K.Rg.bV:=@Go.K.Rg.bV
theorem aS:type_of% @Go.K.Rg.call:=@Go.K.Rg.call
theorem aT:type_of% @Go.K.Le.trans:=@Go.K.Le.trans
theorem aW:type_of% @Go.K.T.ret:=@Go.K.T.ret
theorem aY:type_of% @Go.K.Rg.load:=@Go.K.Rg.load
theorem aZ:type_of% @Go.K.Rg.bN:=@Go.K.Rg.bN
theorem a7:type_of% @Go.Proofs.Tryz.underlying41:=@Go.Proofs.Tryz.underlying41
theorem bg:type_of% @Go.K.T.skip:=@Go.K.T.skip
theorem bh:type_of% @Go.K.Step.le:=@Go.K.Step.le
theorem bj:type_of% @Go.Proofs.Tryz.underlying39:=@Go.Proofs.Tryz.underlying39
theorem bm:type_of% @List.take_of_length_le:=@List.take_of_length_le
theorem br:type_of% @Go.K.Rg.ch:=@Go.K.Rg.ch
theorem bu:type_of% @Go.K.T.block:=@Go.K.T.block
theorem bw:type_of% @Nat.le_refl:=@Nat.le_refl
theorem bz:type_of% @Go.Proofs.Tryz.underlying147:=@Go.Proofs.Tryz.underlying147
theorem bB:type_of% @Go.K.cx.cons:=@Go.K.cx.cons
theorem bF:type_of% @Go.K.Rg.cA:=@Go.K.Rg.cA
theorem bG:type_of% @Go.Proofs.Tryz.underlying47:=@Go.Proofs.Tryz.underlying47
theorem bH:type_of% @Go.Proofs.Tryz.underlying56:=@Go.Proofs.Tryz.underlying56
theorem bI:type_of% @Go.K.Rg.cj:=@Go.K.Rg.cj
theorem bJ:type_of% @Go.K.Rg.nilCheck:=@Go.K.Rg.nilCheck
theorem bK:type_of% @Go.K.Rg.cd:=@Go.K.Rg.cd
theorem bM:type_of% @Nat.zero_le:=@Nat.zero_le
theorem bO:type_of% @Go.K.Rg.eqv:=@Go.K.Rg.eqv
theorem bP:type_of% @List.length_append:=@List.length_append
theorem bQ:type_of% @Go.K.Rg.dg:=@Go.K.Rg.dg
theorem bR:type_of% @Go.Proofs.Tryz.underlying58:=@Go.Proofs.Tryz.underlying58
theorem bS:type_of% @Go.K.Rg.idx:=@Go.K.Rg.idx
theorem bU:type_of% @List.length_take:=@List.length_take
theorem bW:type_of% @Go.K.T.dM:=@Go.K.T.dM
theorem bX:type_of% @List.take_add_one:=@List.take_add_one
theorem bY:type_of% @Eq.symm:=@Eq.symm
theorem bZ:type_of% @Bool.and_eq_true:=@Bool.and_eq_true
theorem b5:type_of% @Go.K.Rg.extract:=@Go.K.Rg.extract
theorem ca:type_of% @Go.K.Rg.dG:=@Go.K.Rg.dG
theorem cb:type_of% @Go.Proofs.Tryz.underlying98:=@Go.Proofs.Tryz.underlying98
theorem cc:type_of% @Go.K.Rg.cG:=@Go.K.Rg.cG
theorem cf:type_of% @Go.Proofs.Tryz.underlying216:=@Go.Proofs.Tryz.underlying216
theorem cg:type_of% @List.mem_iff_getElem?:=@List.mem_iff_getElem?
theorem cn:type_of% @List.mem_cons_self:=@List.mem_cons_self
theorem cq:type_of% @Option.toList_some:=@Option.toList_some
theorem cr:type_of% @List.length_map:=@List.length_map
theorem cu:type_of% @Go.K.Rg.fG:=@Go.K.Rg.fG
theorem cv:type_of% @Go.Proofs.Tryz.underlying127:=@Go.Proofs.Tryz.underlying127
theorem cw:type_of% @Go.K.Rg.cW:=@Go.K.Rg.cW
theorem cy:type_of% @Decidable.not_not:=@Decidable.not_not
theorem cz:type_of% @Go.K.Rg.append:=@Go.K.Rg.append
theorem cE:type_of% @List.length_eq_zero_iff:=@List.length_eq_zero_iff
theorem cF:type_of% @List.mem_cons_of_mem:=@List.mem_cons_of_mem
theorem cI:type_of% @Go.K.Step.aX:=@Go.K.Step.aX
theorem cK:type_of% @List.length_cons:=@List.length_cons
theorem cL:type_of% @List.mem_map:=@List.mem_map
theorem cN:type_of% @Go.Proofs.Tryz.underlying5:=@Go.Proofs.Tryz.underlying5
theorem cP:type_of% @Go.K.T.exit:=@Go.K.T.exit
theorem cR:type_of% @Go.Sem.run_bind:=@Go.Sem.run_bind
theorem cT:type_of% @List.mem_singleton:=@List.mem_singleton
theorem cU:type_of% @Go.Proofs.Tryz.underlying129:=@Go.Proofs.Tryz.underlying129
theorem cV:type_of% @Go.Proofs.Tryz.underlying43:=@Go.Proofs.Tryz.underlying43
theorem de:type_of% @Go.K.T.loop:=@Go.K.T.loop
theorem dh:type_of% @List.length_drop:=@List.length_drop
theorem dp:type_of% @Go.Proofs.Tryz.underlying188:=@Go.Proofs.Tryz.underlying188
theorem dq:type_of% @Go.Proofs.Tryz.underlying191:=@Go.Proofs.Tryz.underlying191
theorem dv:type_of% @Go.K.ju.nil:=@Go.K.ju.nil
theorem dx:type_of% @Go.K.bT.load:=@Go.K.bT.load
theorem dy:type_of% @List.drop_eq_nil_of_le:=@List.drop_eq_nil_of_le
theorem dz:type_of% @Go.Proofs.Tryz.underlying193:=@Go.Proofs.Tryz.underlying193
theorem dC:type_of% @Array.getElem?_setIfInBounds:=@Array.getElem?_setIfInBounds
theorem dD:type_of% @Go.Result.andThen_ok:=@Go.Result.andThen_ok
theorem dE:type_of% @List.mem_append:=@List.mem_append
theorem dF:type_of% @List.map_append:=@List.map_append
theorem dI:type_of% @Go.K.Rg.kf:=@Go.K.Rg.kf
theorem dJ:type_of% @Nat.le_trans:=@Nat.le_trans
theorem dK:type_of% @Go.Proofs.Tryz.underlying37:=@Go.Proofs.Tryz.underlying37
theorem dN:type_of% @List.getD_eq_getElem?_getD:=@List.getD_eq_getElem?_getD
theorem dO:type_of% @Go.K.Own.nil:=@Go.K.Own.nil
theorem dS:type_of% @List.take_succ_eq_append_getElem:=@List.take_succ_eq_append_getElem
theorem dV:type_of% @List.drop_eq_getElem_cons:=@List.drop_eq_getElem_cons
theorem dX:type_of% @Go.Proofs.Tryz.underlying169:=@Go.Proofs.Tryz.underlying169
theorem eh:type_of% @List.all_eq_true:=@List.all_eq_true
theorem eo:type_of% @List.pairwise_map:=@List.pairwise_map
theorem eu:type_of% @Go.K.Rg.alloc:=@Go.K.Rg.alloc
theorem ew:type_of% @List.mem_cons:=@List.mem_cons
theorem ez:type_of% @Go.K.Rg.lH:=@Go.K.Rg.lH
theorem eA:type_of% @Go.K.fj.all:=@Go.K.fj.all
theorem eB:type_of% @Go.K.Rg.ep:=@Go.K.Rg.ep
theorem eC:type_of% @Go.K.Rg.lG:=@Go.K.Rg.lG
theorem eE:type_of% @List.getElem?_take:=@List.getElem?_take
theorem eF:type_of% @Go.K.Rg.build:=@Go.K.Rg.build
theorem eH:type_of% @Go.Proofs.Tryz.underlying125:=@Go.Proofs.Tryz.underlying125
theorem eI:type_of% @Go.Proofs.Tryz.underlying123:=@Go.Proofs.Tryz.underlying123
theorem eJ:type_of% @Go.K.Rg.iH:=@Go.K.Rg.iH
theorem eK:type_of% @Bool.false_and:=@Bool.false_and
theorem eM:type_of% @Go.K.bT.field:=@Go.K.bT.field
theorem eO:type_of% @List.map_cons:=@List.map_cons
theorem eP:type_of% @Bool.true_and:=@Bool.true_and
theorem eT:type_of% @Nat.lt_or_ge:=@Nat.lt_or_ge
theorem eU:type_of% @Go.K.bT.move:=@Go.K.bT.move
theorem eX:type_of% @Go.K.eg.refl:=@Go.K.eg.refl
theorem eZ:type_of% @Option.map_some:=@Option.map_some
theorem fm:type_of% @List.append_assoc:=@List.append_assoc
theorem fo:type_of% @Go.K.Rg.np:=@Go.K.Rg.np
theorem fp:type_of% @Bool.eq_false_iff:=@Bool.eq_false_iff
theorem fq:type_of% @List.getElem?_set:=@List.getElem?_set
theorem fz:type_of% @List.nil_append:=@List.nil_append
theorem fC:type_of% @Go.K.aD.nil:=@Go.K.aD.nil
theorem fH:type_of% @List.mem_map_of_mem:=@List.mem_map_of_mem
theorem fL:type_of% @List.getElem?_eq_none:=@List.getElem?_eq_none
theorem fP:type_of% @Go.K.Rg.not:=@Go.K.Rg.not
theorem fQ:type_of% @Go.K.Own.close:=@Go.K.Own.close
theorem fV:type_of% @List.pairwise_cons:=@List.pairwise_cons
theorem gj:type_of% @Bool.not_eq_true:=@Bool.not_eq_true
theorem gy:type_of% @Go.K.Rg.gS:=@Go.K.Rg.gS
theorem gz:type_of% @Go.K.T.mF:=@Go.K.T.mF
theorem gG:type_of% @List.getElem?_map:=@List.getElem?_map
theorem gQ:type_of% @Go.K.Rg.fS:=@Go.K.Rg.fS
theorem gX:type_of% @Go.K.oO.nil:=@Go.K.oO.nil
theorem hU:type_of% @List.take_eq_take_iff:=@List.take_eq_take_iff
theorem hY:type_of% @Go.K.Rg.qt:=@Go.K.Rg.qt
theorem ir:type_of% @Go.K.T.iff:=@Go.K.T.iff
theorem iy:type_of% @Go.Proofs.Tryz.underlying167:=@Go.Proofs.Tryz.underlying167
theorem iz:type_of% @Go.Proofs.Tryz.underlying195:=@Go.Proofs.Tryz.underlying195
theorem iD:type_of% @Go.Proofs.Tryz.underlying4:=@Go.Proofs.Tryz.underlying4
theorem iE:type_of% @Go.K.Rg.ra:=@Go.K.Rg.ra
theorem iN:type_of% @Go.K.Part.snd:=@Go.K.Part.snd
theorem iO:type_of% @Option.map_none:=@Option.map_none
theorem iP:type_of% @List.append_nil:=@List.append_nil
theorem iX:type_of% @List.getD_cons_zero:=@List.getD_cons_zero
theorem iY:type_of% @List.getD_cons_succ:=@List.getD_cons_succ
theorem jr:type_of% @Nat.lt_irrefl:=@Nat.lt_irrefl
theorem jv:type_of% @Go.K.Rg.makeFunc:=@Go.K.Rg.makeFunc
theorem jL:type_of% @List.contains_iff_mem:=@List.contains_iff_mem
theorem jY:type_of% @Go.Proofs.Tryz.underlying0:=@Go.Proofs.Tryz.underlying0
theorem jZ:type_of% @Go.Proofs.Tryz.underlying190:=@Go.Proofs.Tryz.underlying190
theorem j4:type_of% @List.length_nil:=@List.length_nil
theorem j5:type_of% @Nat.not_lt_zero:=@Nat.not_lt_zero
theorem ka:type_of% @Go.IntWalk.i64_in:=@Go.IntWalk.i64_in
theorem kz:type_of% @Go.K.T.iQ:=@Go.K.T.iQ
theorem kA:type_of% @Go.K.T.draw:=@Go.K.T.draw
theorem kG:type_of% @List.cons_append:=@List.cons_append
theorem kH:type_of% @Go.Proofs.Tryz.zeroValue0:=@Go.Proofs.Tryz.zeroValue0
theorem kI:type_of% @Go.Proofs.Tryz.zeroValue3:=@Go.Proofs.Tryz.zeroValue3
theorem kJ:type_of% @Go.Proofs.Tryz.zeroValue9:=@Go.Proofs.Tryz.zeroValue9
theorem kK:type_of% @List.map_toArray:=@List.map_toArray
theorem lx:type_of% @List.drop_of_length_le:=@List.drop_of_length_le
theorem ly:type_of% @Go.K.Le.close:=@Go.K.Le.close
theorem lz:type_of% @Option.map_eq_some_iff:=@Option.map_eq_some_iff
theorem lJ:type_of% @List.idxOf_cons:=@List.idxOf_cons
theorem lX:type_of% @Go.Proofs.Tryz.underlying227:=@Go.Proofs.Tryz.underlying227
theorem mC:type_of% @Nat.lt_trichotomy:=@Nat.lt_trichotomy
theorem mD:type_of% @List.foldl_append:=@List.foldl_append
theorem mE:type_of% @List.ext_getElem?:=@List.ext_getElem?
theorem mG:type_of% @Go.K.Rg.ku:=@Go.K.Rg.ku
theorem mW:type_of% @List.mem_append_left:=@List.mem_append_left
theorem mX:type_of% @List.mem_of_mem_take:=@List.mem_of_mem_take
theorem nr:type_of% @Go.K.T.kD:=@Go.K.T.kD
theorem nT:type_of% @List.take_succ_cons:=@List.take_succ_cons
theorem nU:type_of% @Go.K.Part.fst:=@Go.K.Part.fst
theorem nV:type_of% @List.length_pos_iff:=@List.length_pos_iff
theorem pq:type_of% @Nat.eq_or_lt_of_le:=@Nat.eq_or_lt_of_le
theorem qc:type_of% @List.filter_cons_of_pos:=@List.filter_cons_of_pos
theorem qQ:type_of% @Prod.ext:=@Prod.ext
theorem qR:type_of% @Go.Proofs.Tryz.sizeOf0:=@Go.Proofs.Tryz.sizeOf0
theorem qS:type_of% @Go.Proofs.Tryz.sizeOf3:=@Go.Proofs.Tryz.sizeOf3
theorem qT:type_of% @Go.Proofs.Tryz.sizeOf9:=@Go.Proofs.Tryz.sizeOf9
theorem qU:type_of% @Go.K.Rg.conv:=@Go.K.Rg.conv
theorem qV:type_of% @Bool.not_eq_true':=@Bool.not_eq_true'
theorem qW:type_of% @List.map_nil:=@List.map_nil
theorem qX:type_of% @List.all_eq_false:=@List.all_eq_false
theorem rK:type_of% @Go.Proofs.Tryz.zeroValue4:=@Go.Proofs.Tryz.zeroValue4
theorem td:type_of% @List.take_append_drop:=@List.take_append_drop
theorem te:type_of% @List.getElem?_toArray:=@List.getElem?_toArray
theorem tf:type_of% @Array.getElem?_modify:=@Array.getElem?_modify
theorem tt:type_of% @List.take_length:=@List.take_length
theorem tu:type_of% @List.any_eq_true:=@List.any_eq_true
theorem uw:type_of% @Go.Proofs.Tryz.underlying26:=@Go.Proofs.Tryz.underlying26
theorem ux:type_of% @Go.Proofs.Tryz.underlying25:=@Go.Proofs.Tryz.underlying25
theorem vr:type_of% @Go.K.Rg.box:=@Go.K.Rg.box
theorem vu:type_of% @Go.World.putObj_heap_same:=@Go.World.putObj_heap_same
theorem vJ:type_of% @Go.K.Rg.lY:=@Go.K.Rg.lY
theorem vK:type_of% @Go.K.bL.fA:=@Go.K.bL.fA
theorem vV:type_of% @Go.Proofs.Tryz.isAgg0:=@Go.Proofs.Tryz.isAgg0
theorem vW:type_of% @Go.Proofs.Tryz.isAgg3:=@Go.Proofs.Tryz.isAgg3
theorem vX:type_of% @Go.Proofs.Tryz.isAgg9:=@Go.Proofs.Tryz.isAgg9
theorem yD:type_of% @Int.toNat_of_nonneg:=@Int.toNat_of_nonneg
theorem yH:type_of% @Go.World.size_alloc:=@Go.World.size_alloc
theorem yI:type_of% @List.map_map:=@List.map_map
namespace Go.K
def put (n:Nat):List UInt8:=if n<128 then[UInt8.ofNat n]else UInt8.ofNat (128+n%128)::put (n/128)
termination_by n
decreasing_by omega
theorem tG {n:Nat} (h:n<128):put n=[UInt8.ofNat n]:=by rw[put,if_pos h]
theorem AB {n:Nat} (h:128≤n):put n=UInt8.ofNat (128+n%128)::put (n/128):=by rw[put,if_neg (by omega)]
theorem vN (n:Nat):0<(put n).length:=by rw[put];split<;>simp
theorem MD {k:Nat}:∀{n:Nat},n<128^(k+1)→(put n).length≤k+1:=by
 induction k with
 |zero=>intro n h;rw[tG (by simpa using h)];simp
 |succ k ih=>
  intro n h;by_cases h1:n<128
  ·rw[tG h1];simp
  ·rw[AB (by omega)];have:=ih (n:=n/128) (by rw[Nat.pow_succ]at h;omega);simp;omega
theorem gp {n:Nat} (h:n≤9223372036854775807):(put n).length≤9:=MD (k:=8) (by omega)
def nB:List UInt8→Nat→Nat→Option (Nat×Nat)
 |[],_,_=>none
 |c::cs,i,n=>if c.toNat<128 then(if c.toNat=0∧0<i then none else some (n+c.toNat%128*128^i,i+1))else nB cs (i+1) (n+c.toNat%128*128^i)
def get (b:List UInt8) (at_:Int):Int×Int×Int:=
 if at_<0∨(b.length:Int)<at_ then(0,0,1)
 else match nB ((b.drop at_.toNat).take 9) 0 0 with
  |some (n,k)=>(n,at_+k,0)
  |none=>(0,0,2)
theorem nC {bs:List UInt8} {k:Nat} {c:UInt8} (h:bs[k]? =some c) (n:Nat):nB (bs.drop k) k n=
  if c.toNat<128 then(if c.toNat=0∧0<k then none else some (n+c.toNat%128*128^k,k+1))else nB (bs.drop (k+1)) (k+1) (n+c.toNat%128*128^k):=by
 obtain⟨ek,he⟩:=aF.1 h;rw[dV ek,nB,he]
theorem P3 (b:List UInt8) (i:Nat):(b.take (min b.length (i+9))).drop i=(b.drop i).take 9:=by
 rw[List.drop_take,hU];simp;omega
def val:List UInt8→Nat
 |[]=>0
 |c::cs=>c.toNat%128+128*val cs
def ec:Int→List Int→Bool
 |_,[]=>true
 |last,x::l=>decide (last<x)&&ec x l
def kO:Int→List Int→List UInt8
 |_,[]=>[]
 |last,x::l=>put (x-last-1).toNat++kO x l
def dY (l:List Int):List UInt8:=put l.length++kO (-1) l
def Ot:Int→List Int→List Int
 |_,[]=>[]
 |last,x::l=>let m:=if x<0 then-(x+1)else x;(last+1+m%1000)::Ot (last+1+m%1000) l
def good (l:List Int) (most:Nat):List Int:=Ot (-1) (l.take most)
theorem tH {b:List UInt8} {at_:Int} (h:(get b at_).2.2=0):0≤at_∧at_<(get b at_).2.1∧(get b at_).2.1≤b.length∧0≤(get b at_).1∧(get b at_).1<9223372036854775808:=by
 unfold get at h ⊢
 split at h
 ·simp at h
 rename_i hr
 rw[if_neg hr]at*
 have key:∀(bs:List UInt8) (i n m k:Nat),nB bs i n=some (m,k)→bs.length+i≤9→n<128^i→i<k∧k≤i+bs.length∧m<128^k:=by
  intro bs
  induction bs with
  |nil=>intro i n m k h;simp[nB]at h
  |cons c cs ih=>
   intro i n m k h hl hn
   have hd:n+c.toNat%128*128^i<128^(i+1):=by
    have:=Nat.mul_le_mul_right (128^i) (show c.toNat%128≤127 from by omega);rw[Nat.pow_succ];omega
   simp only[nB]at h
   split at h
   ·split at h
    ·cases h
    ·cases h;exact⟨by omega,by simp,hd⟩
   ·obtain⟨h1,h2,h3⟩:=ih (i+1) _ m k h (by simp at hl;omega) hd;exact⟨by omega,by simp;omega,h3⟩
 cases hg:nB ((b.drop at_.toNat).take 9) 0 0 with
 |none=>simp[hg]at h
 |some p=>
  obtain⟨m,k⟩:=p;have hlen:((b.drop at_.toNat).take 9).length≤9∧((b.drop at_.toNat).take 9).length≤b.length-at_.toNat:=by rw[bU,dh];omega
  obtain⟨h1,h2,h3⟩:=key _ 0 0 m k hg (by omega) (by decide);have hp:128^k≤128^9:=Nat.pow_le_pow_right (by decide) (by omega);simp only;omega
def iv (b:List UInt8):Nat→Int→Int→Int×List Int×Int
 |0,at_,_=>(0,[],at_)
 |k+1,at_,last=>
  if(get b at_).2.2≠0 then((get b at_).2.2,[],0)
  else if 4611686018427387904-last-1<(get b at_).1 then(2,[],0)
  else if(iv b k (get b at_).2.1 (last+1+(get b at_).1)).1≠0 then((iv b k (get b at_).2.1 (last+1+(get b at_).1)).1,[],0)
  else(0,(last+1+(get b at_).1)::(iv b k (get b at_).2.1 (last+1+(get b at_).1)).2.1,(iv b k (get b at_).2.1 (last+1+(get b at_).1)).2.2)
def gI (b:List UInt8) (at_:Int):Int×List Int×Int:=
 if(get b at_).2.2≠0 then((get b at_).2.2,[],0)else iv b (get b at_).1.toNat (get b at_).2.1 (-1)
theorem eQ {l:List Int} {k:Nat} {x:Int} (h:l[k]? =some x) (last:Int):ec last (l.drop k)=(decide (last<x)&&ec x (l.drop (k+1))):=by
 obtain⟨ek,he⟩:=aF.1 h;rw[dV ek,ec,he]
theorem tI {l:List Int} {k:Nat} {x:Int} (h:l[k]? =some x) (last:Int):kO last (l.drop k)=put (x-last-1).toNat++kO x (l.drop (k+1)):=by
 obtain⟨ek,he⟩:=aF.1 h;rw[dV ek,kO,he]
theorem pz:∀(l:List Int) (last:Int),-1≤last→(∀x∈l,x≤9223372036854775807)→ec last l=true→(kO last l).length≤9*l.length
 |[],_,_,_,_=>by simp[kO]
 |x::l,last,h1,h2,h3=>by
  simp only[ec,bZ,decide_eq_true_eq]at h3;have hx:=h2 x (cn ..);have h4:=pz l x (by omega) (fun y hy=>h2 y (cF _ hy)) h3.2;have h5:=gp (n:=(x-last-1).toNat) (by omega);simp only[kO,bP,cK];omega
theorem AD {l:List Int} {k:Nat} {x last:Int} (h:l[k]? =some x) (hr:ec last (l.drop k)=true):last<x∧ec x (l.drop (k+1))=true:=by
 rw[eQ h]at hr;simpa using hr
theorem wI (b:List UInt8) (a last:Int):iv b 0 a last=(0,[],a):=rfl
theorem rh {b:List UInt8} {k:Nat} {a last:Int} (h:(get b a).2.2≠0):iv b (k+1) a last=((get b a).2.2,[],0):=by rw[iv,if_pos h]
theorem tJ {b:List UInt8} {k:Nat} {a last:Int} (h:(get b a).2.2=0) (h2:4611686018427387904-last-1<(get b a).1):iv b (k+1) a last=(2,[],0):=by
 rw[iv,if_neg (by simpa using h),if_pos h2]
theorem wJ {b:List UInt8} {k:Nat} {a last:Int} (h:(get b a).2.2=0) (h2: ¬4611686018427387904-last-1<(get b a).1):iv b (k+1) a last=
  if(iv b k (get b a).2.1 (last+1+(get b a).1)).1≠0 then((iv b k (get b a).2.1 (last+1+(get b a).1)).1,[],0)
  else(0,(last+1+(get b a).1)::(iv b k (get b a).2.1 (last+1+(get b a).1)).2.1,(iv b k (get b a).2.1 (last+1+(get b a).1)).2.2):=by
 rw[iv,if_neg (by simpa using h),if_neg h2]
def andThen (acc:List Int) (r:Int×List Int×Int):Int×List Int×Int:=if r.1≠0 then(r.1,[],0)else(0,acc++r.2.1,r.2.2)
theorem od {b:List UInt8} {k:Nat} {a last:Int} (acc:List Int) (h:(get b a).2.2=0) (h2: ¬4611686018427387904-last-1<(get b a).1):
  andThen acc (iv b (k+1) a last)=andThen (acc++[last+1+(get b a).1]) (iv b k (get b a).2.1 (last+1+(get b a).1)):=by
 rw[wJ h h2];unfold andThen;by_cases h3:(iv b k (get b a).2.1 (last+1+(get b a).1)).1=0<;>simp[h3]
theorem BZ (r:Int×List Int×Int) (h:r.1≠0→r.2=([],0)):andThen [] r=r:=by
 unfold andThen;by_cases h3:r.1=0
 ·rw[if_neg (by simpa using h3)];ext<;>simp[h3]
 ·rw[if_pos h3,←h h3]
theorem GL (b:List UInt8):∀(k:Nat) (a last:Int),(iv b k a last).1≠0→(iv b k a last).2=([],0)
 |0,a,last,h=>by simp[iv]at h
 |k+1,a,last,h=>by
  rw[iv]at h ⊢
  split
  ·rfl
  ·rename_i h1;rw[if_neg h1]at h
   split
   ·rfl
   ·rename_i h2;rw[if_neg h2]at h
    split
    ·rfl
    ·rename_i h3;rw[if_neg h3]at h;simp at h
theorem oe (b:List UInt8) (a:Int):0≤(get b a).1∧0≤(get b a).2.2∧(get b a).2.2≤2∧((get b a).2.2≠0→(get b a).1=0∧(get b a).2.1=0):=by
 unfold get
 split
 ·simp
 ·split<;>simp<;>omega
theorem zp (b:List UInt8) (a:Int):(get b a).1≤9223372036854775807:=by
 by_cases h:(get b a).2.2=0
 ·have:=tH h;omega
 ·have:=(oe b a).2.2.2 h;omega
theorem IC:∀(k m i acc:Nat) (post:List UInt8),m<128^(k+1)→(0<i→m≠0)→nB ((put m++post).take (k+1)) i acc=some (acc+m*128^i,i+(put m).length):=by
 intro k
 induction k with
 |zero=>
  intro m i acc post h h0;have hm:m<128:=by simpa using h
  have e:(UInt8.ofNat m).toNat=m:=by rw[UInt8.toNat_ofNat'];omega
  rw[tG hm];simp only[kG,fz,nT,nB,e];rw[if_pos hm,if_neg (by omega),Nat.mod_eq_of_lt hm];rfl
 |succ k ih=>
  intro m i acc post h h0;by_cases hm:m<128
  ·have e:(UInt8.ofNat m).toNat=m:=by rw[UInt8.toNat_ofNat'];omega
   rw[tG hm];simp only[kG,fz,nT,nB,e];rw[if_pos hm,if_neg (by omega),Nat.mod_eq_of_lt hm];rfl
  ·have e:(UInt8.ofNat (128+m%128)).toNat=128+m%128:=by rw[UInt8.toNat_ofNat'];omega
   rw[AB (by omega)];simp only[kG,nT,nB,e];rw[if_neg (by omega),ih (m/128) (i+1) _ post (by rw[Nat.pow_succ]at h;omega) (by omega)];have h2:(128+m%128)%128=m%128:=by omega
   rw[h2,Nat.pow_succ];congr 2
   ·have h3:m=m%128+128*(m/128):=by omega
    have h4:m*128^i=(m%128)*128^i+(m/128)*(128^i*128):=by
     conv=>lhs;rw[h3]
     rw[Nat.add_mul,Nat.mul_comm 128 (m/128),Nat.mul_assoc,Nat.mul_comm 128 (128^i)]
    omega
   ·simp;omega
theorem AE (pre post:List UInt8) {n:Nat} (hn:n≤9223372036854775807):get (pre++put n++post) pre.length=((n:Int),((pre.length+(put n).length:Nat):Int),0):=by
 unfold get;rw[if_neg (by simp;omega)]
 have h1:((pre++put n++post).drop (pre.length:Int).toNat).take 9=(put n++post).take (8+1):=by
  rw[aK,fm,List.drop_left]
 rw[h1,IC 8 n 0 0 post (by omega) (by omega)];simp
theorem zq:∀(l:List Int) (pre post:List UInt8) (last:Int),-1≤last→ec last l=true→(∀x∈l,x≤4611686018427387904)→
  iv (pre++kO last l++post) l.length pre.length last=(0,l,((pre.length+(kO last l).length:Nat):Int))
 |[],pre,post,last,_,_,_=>by simp[kO,iv]
 |x::l,pre,post,last,h1,h2,h3=>by
  simp only[ec,bZ,decide_eq_true_eq]at h2;have hx:=h3 x (cn ..);have e0:pre++kO last (x::l)++post=pre++put (x-last-1).toNat++(kO x l++post):=by simp[kO]
  have e1:=AE pre (kO x l++post) (n:=(x-last-1).toNat) (by omega);have e2:pre++put (x-last-1).toNat++(kO x l++post)=(pre++put (x-last-1).toNat)++kO x l++post:=by simp
  have ih:=zq l (pre++put (x-last-1).toNat) post x (by omega) h2.2 (fun y hy=>h3 y (cF _ hy));rw[e0,cK,wJ (by rw[e1]) (by rw[e1];simp only;omega),e1];simp only;have e3:last+1+(((x-last-1).toNat:Nat):Int)=x:=by omega
  rw[e3,e2,show((pre.length+(put (x-last-1).toNat).length:Nat):Int)=((pre++put (x-last-1).toNat).length:Int)from by simp,ih];simp[kO];omega
theorem yM (pre post:List UInt8) {l:List Int} (hr:ec (-1) l=true) (h3:∀x∈l,x≤4611686018427387904) (hl:l.length≤9223372036854775807):
  gI (pre++dY l++post) pre.length=(0,l,((pre.length+(dY l).length:Nat):Int)):=by
 have e0:pre++dY l++post=pre++put l.length++(kO (-1) l++post):=by simp[dY]
 have e1:=AE pre (kO (-1) l++post) (n:=l.length) hl;have e2:pre++put l.length++(kO (-1) l++post)=(pre++put l.length)++kO (-1) l++post:=by simp
 unfold gI;rw[e0,e1,if_neg (by simp)];simp only;have:=zq l (pre++put l.length) post (-1) (by omega) hr h3;rw[e2,show((pre.length+(put l.length).length:Nat):Int)=((pre++put l.length).length:Int)from by simp,aK,this];simp[dY];omega
end Go.K
namespace Go.K
abbrev Po:=Int×List Int
abbrev Bl:=Int×Int×Int×Int
abbrev Li:=List UInt8×List Bl×Int
abbrev RT.po:RT Po:=RT.pair (RT.int .i64) ((RT.int .i64).sl)
abbrev RT.bl:RT Bl:=RT.pair (RT.int .i64) (RT.pair (RT.int .i64) (RT.pair (RT.int .i64) (RT.int .i64)))
abbrev RT.li:RT Li:=RT.pair (RT.u8.sl) (RT.pair ((RT.bl).sl) (RT.int .i64))
theorem na:Part RT.po (RT.int .i64) (fun p=>p.1) 0:=nU _ _
theorem zr:Part RT.po ((RT.int .i64).sl) (fun p=>p.2) 1:=iN _ _
theorem bl0:Part RT.bl (RT.int .i64) (fun b=>b.1) 0:=nU _ _
theorem bl1:Part RT.bl (RT.int .i64) (fun b=>b.2.1) 1:=(iN _ _).trans (nU _ _)
theorem bl2:Part RT.bl (RT.int .i64) (fun b=>b.2.2.1) 2:=(iN _ _).trans ((iN _ _).trans (nU _ _))
theorem bl3:Part RT.bl (RT.int .i64) (fun b=>b.2.2.2) 3:=(iN _ _).trans ((iN _ _).trans (iN _ _))
theorem li0:Part RT.li (RT.u8.sl) (fun x=>x.1) 0:=nU _ _
theorem TP:Part RT.li ((RT.bl).sl) (fun x=>x.2.1) 1:=(iN _ _).trans (nU _ _)
def HR (n:Nat) (k:Int):Bool:=decide (0≤k∧k<n)
def B0 (bs:List Bl) (k:Int):Int:=if HR bs.length k then(bs.getD k.toNat (0,0,0,0)).2.2.1 else-1
def ri (bs:List Bl):Int:=(bs.map fun b=>b.2.2.2).sum
theorem zt (bs:List Bl) (b:Bl):ri (bs++[b])=ri bs+b.2.2.2:=by simp[ri]
theorem GM {bs:List Bl} {k:Nat} {b:Bl} (h:bs[k]? =some b):ri (bs.take (k+1))=ri (bs.take k)+b.2.2.2:=by
 obtain⟨h1,h2⟩:=aF.1 h;rw[dS h1,h2,zt]
theorem ME (bs:List Bl) (h:∀b∈bs,0≤b.2.2.2∧b.2.2.2≤8):0≤ri bs∧ri bs≤8*bs.length:=by
 induction bs with
 |nil=>simp[ri]
 |cons b bs ih=>
  have:=ih fun c hc=>h c (cF _ hc)
  have h0:=h b (cn ..);simp only[ri,eO,List.sum_cons,cK]at this ⊢;omega
def dw:Int→List Po→List UInt8
 |_,[]=>[]
 |last,(d,ps)::l=>put (d-last-1).toNat++dY ps++dw d l
def cH:Int→List Po→Int
 |last,[]=>last
 |_,(d,_)::l=>cH d l
def iw (l:List Po):Int:=(l.map fun p=>(p.2.length:Int)).sum
theorem rW (l l':List Po) (last:Int):dw last (l++l')=dw last l++dw (cH last l) l':=by
 induction l generalizing last with
 |nil=>rfl
 |cons p l ih=>obtain⟨d,ps⟩:=p;simp[dw,cH,ih]
theorem yN (l l':List Po) (last:Int):cH last (l++l')=cH (cH last l) l':=by
 induction l generalizing last with
 |nil=>rfl
 |cons p l ih=>obtain⟨d,ps⟩:=p;simp[cH,ih]
theorem rX (l l':List Po):iw (l++l')=iw l+iw l':=by simp[iw]
def pA (l:List Po) (k:Nat):Bl:=((dw (-1) (l.take (8*k))).length,cH (-1) (l.take (8*k)),cH (-1) (l.take (8*k+8)),((l.drop (8*k)).take 8).length)
def lM (l:List Po) (m:Nat):List Bl:=(List.range m).map (pA l)
def iA (l:List Po):Li:=(dw (-1) l,lM l ((l.length+7)/8),iw l)
def dL (l:List Int):Bool:=ec (-1) l&&l.all (fun n=>decide (n<2147483648))
def dH:Int→List Po→Bool
 |_,[]=>true
 |last,(d,ps)::l=>decide (last<d)&&decide (d<2147483648)&& !ps.isEmpty&&dL ps&&dH d l
theorem l9:∀{l:List Po} {i:Nat} {last d:Int} {ps:List Int},dH last l=true→l[i]? =some (d,ps)→
  cH last (l.take i)<d∧d<2147483648∧ps≠[]∧dL ps=true∧cH last (l.take (i+1))=d∧last≤cH last (l.take i)
 |[],i,_,_,_,_,h=>by simp at h
 |(d0,p0)::l,0,last,d,ps,hm,h=>by
  simp only[List.getElem?_cons_zero,Option.some.injEq,Prod.mk.injEq]at h;obtain⟨rfl,rfl⟩:=h;simp only[dH,bZ,decide_eq_true_eq]at hm;obtain⟨⟨⟨⟨h1,h2⟩,h3⟩,h4⟩,h5⟩:=hm;refine⟨h1,h2,?_,h4,by simp[cH],by simp[cH]⟩;rintro rfl;simp at h3
 |(d0,p0)::l,i+1,last,d,ps,hm,h=>by
  simp only[dH,bZ,decide_eq_true_eq]at hm;obtain⟨⟨⟨⟨h1,h2⟩,h3⟩,h4⟩,h5⟩:=hm;obtain⟨a1,a2,a3,a4,a5,a6⟩:=l9 (i:=i) h5 (by simpa using h);refine⟨by simpa[cH]using a1,a2,a3,a4,by simpa[cH]using a5,?_⟩;simp only[nT,cH];omega
theorem ma {l:List Po} {i:Nat} {d:Int} {ps:List Int} (last:Int) (h:l[i]? =some (d,ps)):
  dw last (l.take (i+1))=dw last (l.take i)++put (d-cH last (l.take i)-1).toNat++dY ps:=by
 obtain⟨h1,h2⟩:=aF.1 h;rw[dS h1,h2,rW];simp[dw]
theorem pB {l:List Po} {i:Nat} (last:Int):dw last l=dw last (l.take i)++dw (cH last (l.take i)) (l.drop i):=by
 conv=>lhs;rw[←td i l]
 exact rW _ _ _
theorem je {l:List Int}:dL l=true↔ec (-1) l=true∧∀x∈l,x<2147483648:=by
 simp[dL]
def qD (b:List UInt8) (at_ ahead:Int):Po×Int×Int:=
 if(get b at_).2.2≠0 then((0,[]),0,(get b at_).2.2)
 else((IntKind.i64.wrap (IntKind.i64.wrap (ahead+1)+(get b at_).1),(gI b (get b at_).2.1).2.1),(gI b (get b at_).2.1).2.2,(gI b (get b at_).2.1).1)
theorem ID {l:List Po} {i:Nat} {d:Int} {ps:List Int} (hm:dH (-1) l=true) (h:l[i]? =some (d,ps)) (hl:ps.length≤1099511627776):
  qD (dw (-1) l) (((dw (-1) (l.take i)).length:Nat):Int) (cH (-1) (l.take i))=((d,ps),(((dw (-1) (l.take (i+1))).length:Nat):Int),0):=by
 obtain⟨h1,h2,h3,h4,h5,h6⟩:=l9 hm h;obtain⟨h7,h8⟩:=je.1 h4;have e1:=pB (l:=l) (i:=i+1) (-1);have e2:=ma (-1) h;generalize Ou:cH (-1) (l.take i)=last at h1 h6 e2 ⊢;generalize Gx:dw (-1) (l.take i)=pre at e2 ⊢;generalize dw (cH (-1) (l.take (i+1))) (l.drop (i+1))=post at e1;rw[e2]at e1 ⊢;have g1:=AE pre (dY ps++post) (n:=(d-last-1).toNat) (by omega);have g2:=yM (pre++put (d-last-1).toNat) post h7 (fun x hx=>by have:=h8 x hx;omega) (by omega);rw[show pre++put (d-last-1).toNat++(dY ps++post)=dw (-1) l from by rw[e1];simp]at g1;rw[←e1]at g2;unfold qD;rw[g1];simp only[ne_eq,not_true_eq_false,if_false];have zk:((pre.length+(put (d-last-1).toNat).length:Nat):Int)=((pre++put (d-last-1).toNat).length:Int):=by simp
 rw[zk,g2];refine qQ (qQ ?_ rfl) (qQ ?_ rfl)
 ·simp only;rw[ka (last+1) (by omega),ka _ (by omega)];omega
 ·simp;omega
theorem pC {l:List Int} {k:Nat} {x:Int} (p:Int→Bool) (h:l[k]? =some x):(l.drop k).all p=(p x&&(l.drop (k+1)).all p):=by
 obtain⟨h1,h2⟩:=aF.1 h;rw[dV h1,h2,List.all_cons]
theorem eR {l:List Po} {k:Nat} {d:Int} {ps:List Int} (h:l[k]? =some (d,ps)) (last:Int):
  dH last (l.drop k)=(decide (last<d)&&decide (d<2147483648)&& !ps.isEmpty&&dL ps&&dH d (l.drop (k+1))):=by
 obtain⟨h1,h2⟩:=aF.1 h;rw[dV h1,h2,dH]
theorem wK {l:List Po} {i:Nat} {d:Int} {ps:List Int} (h:l[i]? =some (d,ps)):iw (l.take (i+1))=iw (l.take i)+ps.length:=by
 obtain⟨h1,h2⟩:=aF.1 h;rw[dS h1,h2,rX];simp[iw]
theorem og (l:List Po):0≤iw l:=by
 induction l with
 |nil=>simp[iw]
 |cons p l ih=>simp only[iw,eO,List.sum_cons]at ih ⊢;omega
theorem B1 (l:List Po) (i:Nat):0≤iw (l.take i)∧iw (l.take i)≤iw l:=by
 refine⟨og _,?_⟩
 conv=>rhs;rw[←td i l,rX]
 have:=og (l.drop i);omega
theorem k8 (l:List Po) (i:Nat):(dw (-1) (l.take i)).length≤(dw (-1) l).length:=by
 rw[pB (l:=l) (i:=i) (-1)];simp
theorem zu (l:List Po) (k:Nat):lM l (k+1)=lM l k++[pA l k]:=by simp[lM,List.range_succ]
theorem j0:∀(l:List Po) (last:Int),dH last l=true→last<2147483648→∀n:Nat,last≤cH last (l.take n)∧cH last (l.take n)<2147483648
 |[],last,_,h,n=>by simp[cH];exact h
 |(d,ps)::l,last,hm,h,0=>by simp[cH];exact h
 |(d,ps)::l,last,hm,h,n+1=>by
  simp only[dH,bZ,decide_eq_true_eq]at hm;obtain⟨⟨⟨⟨h1,h2⟩,h3⟩,h4⟩,h5⟩:=hm;have:=j0 l d h5 h2 n;simp only[nT,cH];omega
theorem abb {M:aU} {w:World} {a b c d:Int} (ha: -9223372036854775808≤a∧a≤9223372036854775807) (hb: -9223372036854775808≤b∧b≤9223372036854775807) (hc: -9223372036854775808≤c∧c≤9223372036854775807) (hd: -9223372036854775808≤d∧d≤9223372036854775807):
  RT.bl.V M w (a,b,c,d) (.agg [.int .i64 a,.int .i64 b,.int .i64 c,.int .i64 d].toArray):=
 ⟨_,⟨[.int .i64 a],[.int .i64 b,.int .i64 c,.int .i64 d],rfl,⟨rfl,ha⟩,[.int .i64 b],[.int .i64 c,.int .i64 d],rfl,⟨rfl,hb⟩,[.int .i64 c],[.int .i64 d],rfl,⟨rfl,hc⟩,⟨rfl,hd⟩⟩,rfl⟩
theorem US {M:aU} {w:World} {bx:Nat} {b:List UInt8} {ks:List Bl} {tot:Int} {vb vk:Value} {e:TypeId} {fr:Nat×Nat} (hx:w.heap[bx]? =some (.cells #[vb,vk,.int .i64 tot] e fr)) (hm: ¬M bx) (hb:(RT.u8.sl).V M w b vb) (hk:((RT.bl).sl).V M w ks vk) (ht: -9223372036854775808≤tot∧tot≤9223372036854775807):
  bL RT.li M w (.pointer (some ⟨bx,0,none⟩)) (b,ks,tot):=
 ⟨bx,0,[vb,vk,.int .i64 tot],rfl,hm,⟨[vb],[vk,.int .i64 tot],rfl,l8 hb rfl rfl,[vk],[.int .i64 tot],rfl,l8 hk rfl rfl,⟨rfl,ht⟩⟩,fun j v hj=>jx hx (by simpa using hj)⟩
theorem IE {l:List Po} {i:Nat} (h8:i%8=0) (hi:i<l.length):lM l ((i+7)/8)++[(((dw (-1) (l.take i)).length:Int),cH (-1) (l.take i),cH (-1) (l.take (min (i+8) l.length)),(((l.drop i).take 8).length:Int))]=lM l ((min (i+8) l.length+7)/8):=by
 rw[show(min (i+8) l.length+7)/8=(i+7)/8+1 from by omega,zu];have e:8*((i+7)/8)=i:=by omega
 have e2:l.take (i+8)=l.take (min (i+8) l.length):=by rw[hU];omega
 simp only[pA,e,e2]
theorem zw (l:List Po):∀m:Nat,ri (lM l m)=((min (8*m) l.length:Nat):Int)
 |0=>by simp[ri,lM]
 |m+1=>by
  rw[zu,zt,zw l m];simp only[pA,bU,dh];omega
theorem GN (l:List Po) (m:Nat):∀b∈lM l m,0≤b.2.2.2∧b.2.2.2≤8:=fun b hb=>by
 simp only[lM,cL]at hb;obtain⟨k,_,rfl⟩:=hb;simp only[pA,bU,dh];omega
theorem pD:∀(l:List Po) (last:Int) (n m:Nat),dH last l=true→last<2147483648→n≤m→cH last (l.take n)≤cH last (l.take m)
 |[],last,n,m,_,_,_=>by simp
 |(d,ps)::l,last,0,m,hm,h,_=>by
  have:=(j0 ((d,ps)::l) last hm h m).1;simpa[cH]using this
 |(d,ps)::l,last,n+1,0,_,_,h=>by omega
 |(d,ps)::l,last,n+1,m+1,hm,h,hnm=>by
  simp only[dH,bZ,decide_eq_true_eq]at hm;obtain⟨⟨⟨⟨h1,h2⟩,h3⟩,h4⟩,h5⟩:=hm;simpa[cH]using pD l d n m h5 h2 (by omega)
theorem B2 {g:List Po} {k:Nat} (hk:k<(g.length+7)/8):B0 (iA g).2.1 (k:Int)=cH (-1) (g.take (8*k+8)):=by
 have hl:(iA g).2.1.length=(g.length+7)/8:=by simp[iA,lM]
 have hb:(iA g).2.1[k]? =some (pA g k):=by simp only[iA,lM,gG];rw[List.getElem?_range hk];rfl
 unfold B0 HR;rw[if_pos (by rw[hl];simp;omega),aK,dN,hb];rfl
theorem IF {M:aU} {w:World} {l:List Po} {v:Value} (h:((RT.po).sl).V M w l v) {i:Nat} {d:Int} {ps:List Int} (hx:l[i]? =some (d,ps)):(-9223372036854775808≤d∧d≤9223372036854775807)∧∃u,((RT.int .i64).sl).V M w ps u:=by
 obtain⟨a,cap,_,_,_,hs⟩:=iZ.1 h;rcases hs with rfl|⟨b,o,_,_,hs⟩
 ·simp at hx
 ·obtain⟨vs,⟨va,vb,_,⟨_,h2⟩,h3⟩,_⟩:=hs i _ hx;exact⟨h2,_,vb,h3,rfl⟩
theorem P4 {M:aU} {w:World} {l:List Po} {v:Value} (h:((RT.po).sl).V M w l v) {i:Nat} {d:Int} {ps:List Int} (hx:l[i]? =some (d,ps)): -9223372036854775808≤d∧d≤9223372036854775807:=(IF h hx).1
theorem P5 {M:aU} {w:World} {l:List Po} {v:Value} (h:((RT.po).sl).V M w l v) {i:Nat} {d:Int} {ps:List Int} (hx:l[i]? =some (d,ps)):ps.length≤140737488355328:=by
 obtain⟨_,u,hu⟩:=IF h hx;exact dr hu
end Go.K
namespace Go.K
section
variable {P:Program} {r:Option Nat} {n:Nat} {L:Sl} {ds:List Deferred} {w:World} {K:Kt} {ops:Array Oper} {rest:List Oper} {d:Nat} {x y:Operand} {ty:TypeId} {pos:String} {af:Array Edge}
theorem Rg.wL {t t' e:TypeId} {p:Option Addr} (ht:P.underlying t=some (.pointer e)) (hx:ev L x=some (.pointer p)) (hy:ev L y=some (.pointer none)) (hd:Nat.blt d n=true)
  (k:Rg P r n ops rest ((d,.bool (decide (p=none)))::L) ds w K):
  Rg P r n ops ({dst:=some d,op:= .binOp .eql t x y t',type:=ty,pos,after:=af,guard:=none}::rest) L ds w K:=
 .op (fun _ h=>by cases h) rfl rfl hd _ w (fun ρ h=>by
  have Ix:P.underlying t=some (.pointer (P.pointee t)):=by simp[Program.pointee,ht]
  have he:=run_equal_pointer_nil (P:=P) w t p Ix;simp only[execOp];rw[h x _ hx,h y _ hy]
  cases p<;>simp[eqGuard,binOp,run_underlying ht,he]) k
theorem Rg.Ov {t t' e:TypeId} {p:Option Addr} (ht:P.underlying t=some (.pointer e)) (hx:ev L x=some (.pointer p)) (hy:ev L y=some (.pointer none)) (hd:Nat.blt d n=true)
  (k:Rg P r n ops rest ((d,.bool (decide (p≠none)))::L) ds w K):
  Rg P r n ops ({dst:=some d,op:= .binOp .neq t x y t',type:=ty,pos,after:=af,guard:=none}::rest) L ds w K:=
 .op (fun _ h=>by cases h) rfl rfl hd _ w (fun ρ h=>by
  have Ix:P.underlying t=some (.pointer (P.pointee t)):=by simp[Program.pointee,ht]
  have he:=run_equal_pointer_nil (P:=P) w t p Ix;simp only[execOp];rw[h x _ hx,h y _ hy]
  cases p<;>simp[eqGuard,binOp,run_underlying ht,he]) k
end
end Go.K
namespace Go.K
def idx:List Po→Int→Nat
 |[],_=>0
 |p::l,to=>if p.1<to then idx l to+1 else 0
theorem IG:∀(l:List Po) (to:Int),idx l to≤l.length
 |[],_=>bw _
 |p::l,to=>by
  have:=IG l to;simp only[idx,cK];split<;>omega
theorem DX:∀{l:List Po} {to:Int} {j:Nat} {p:Po},j<idx l to→l[j]? =some p→p.1<to
 |[],_,_,_,h,_=>by simp[idx]at h
 |q::l,to,j,p,h,hp=>by
  simp only[idx]at h
  split at h
  ·cases j with
   |zero=>simp at hp;subst hp;assumption
   |succ j=>exact DX (l:=l) (j:=j) (by omega) (by simpa using hp)
  ·omega
theorem AF:∀{l:List Po} {to:Int} {p:Po},l[idx l to]? =some p→to≤p.1
 |[],_,_,h=>by simp[idx]at h
 |q::l,to,p,h=>by
  simp only[idx]at h
  split at h
  ·exact AF (by simpa using h)
  ·simp at h;subst h;omega
theorem FG:∀{l:List Po} {to:Int} {e:Nat} {p:Po},l[e]? =some p→to≤p.1→idx l to≤e
 |[],_,_,_,h,_=>by simp at h
 |q::l,to,e,p,h,hp=>by
  simp only[idx]
  split
  ·cases e with
   |zero=>simp at h;subst h;omega
   |succ e=>have:=FG (l:=l) (e:=e) (by simpa using h) hp;omega
  ·omega
theorem idx_eq {l:List Po} {to:Int} {i:Nat} (h1:∀j,j<i→∀p,l[j]? =some p→p.1<to) (h2:∀p,l[i]? =some p→to≤p.1) (h3:i≤l.length):idx l to=i:=by
 rcases mC (idx l to) i with h|h|h
 ·have hx:l[idx l to]? =some l[idx l to]:=aI (by omega);have:=AF hx;have:=h1 _ h _ hx;omega
 ·exact h
 ·have:=IG l to;have hx:l[i]? =some l[i]:=aI (by omega);have:=DX h hx;have:=h2 _ hx;omega
def gY (l:List Po) (i:Int):Int:=if i<0 then-1 else match l[i.toNat]? with|some p=>p.1|none=>2147483648
def nD (l:List Po) (i:Int):List Int:=if i<0 then[]else match l[i.toNat]? with|some p=>p.2|none=>[]
def lC (l:List Po) (i:Int):List Po:=if i<0 then[]else(l.drop i.toNat).take (8-i.toNat%8)
def tK (l:List Po) (i to:Int):Int:=if to≤gY l i then i else idx l to
theorem vP {l:List Po} {i:Nat} {d:Int} {ps:List Int} (hm:dH (-1) l=true) (h:l[i]? =some (d,ps)):0≤d∧d<2147483648:=by
 obtain⟨f1,f2,f3,f4,f5,f6⟩:=l9 hm h;omega
theorem kP {l:List Po} {i:Nat} {d:Int} {ps:List Int} (h:l[i]? =some (d,ps)):gY l (i:Int)=d:=by
 unfold gY;rw[if_neg (by omega),aK,h]
theorem GO {l:List Po} {i:Int} (h:i<0):gY l i= -1:=by unfold gY;rw[if_pos h]
theorem qf {l:List Po} {i:Int} (h:(l.length:Int)≤i):gY l i=2147483648:=by
 unfold gY;rw[if_neg (by omega),fL (by omega)]
theorem mO (l:List Po) (i:Int):(i<0∧gY l i= -1∧nD l i=[])∨(∃j:Nat,∃d ps,i=j∧l[j]? =some (d,ps)∧gY l i=d∧nD l i=ps)∨((l.length:Int)≤i∧gY l i=2147483648∧nD l i=[]):=by
 by_cases h0:i<0
 ·exact .inl ⟨h0,GO h0,by unfold nD;rw[if_pos h0]⟩
 ·by_cases h1:(l.length:Int)≤i
  ·exact .inr (.inr ⟨h1,qf h1,by unfold nD;rw[if_neg h0,fL (by omega)]⟩)
  ·obtain⟨j,rfl⟩:∃j:Nat,i=j:=⟨i.toNat,by omega⟩;obtain⟨⟨d,ps⟩,hx⟩:∃x,l[j]? =some x:=⟨_,aI (by omega)⟩;exact .inr (.inl ⟨j,d,ps,rfl,hx,kP hx,by unfold nD;rw[if_neg h0,aK,hx]⟩)
theorem zx {l:List Po} (hm:dH (-1) l=true) (i:Int): -1≤gY l i∧gY l i≤2147483648:=by
 rcases mO l i with⟨_,h,_⟩|⟨j,d,ps,rfl,hx,h,_⟩|⟨_,h,_⟩
 ·omega
 ·have:=vP hm hx;omega
 ·omega
theorem zy {g:List Po} {i:Nat} {d:Int} {ps:List Int} (h:g[i]? =some (d,ps)) (last:Int):cH last (g.take (i+1))=d:=by
 obtain⟨h1,h2⟩:=aF.1 h;rw[dS h1,h2,yN];rfl
theorem AG {l:List Po} (hm:dH (-1) l=true) {t s:Nat} {p:Po} (hp:l[t]? =some p) (DT:t<s):p.1≤cH (-1) (l.take s):=by
 obtain⟨d,ps⟩:=p;rw[←zy hp (-1)];exact pD l (-1) (t+1) s hm (by decide) DT
theorem FH {l:List Po} (hm:dH (-1) l=true) {t s:Nat} {p q:Po} (hp:l[t]? =some p) (hq:l[s]? =some q) (DT:t<s):p.1<q.1:=by
 obtain⟨e,qs⟩:=q;have h1:=AG hm hp DT;have h2:=(l9 hm hq).1;omega
theorem zz {l lf:List Po} (hm:dH (-1) l=true) {s k:Nat} {to:Int} (h1:8*k≤s) (h2:s<8*k+8) (hs:s<l.length) (GP:cH (-1) (l.take s)<to) (DY:to≤cH (-1) (l.take (8*k+8)))
  (P7:lf=(l.drop s).take (8*k+8-s)):idx l to=s+idx lf to∧idx lf to<lf.length∧idx l to<l.length∧idx l to/8=k∧lf.drop (idx lf to)=lC l (idx l to:Nat):=by
 have L3:s≤idx l to:=by
  rcases eT (idx l to) s with h|h
  ·have hx:l[idx l to]? =some l[idx l to]:=aI (by omega);have:=AF hx;have:=AG hm hx h;omega
  ·exact h
 obtain⟨⟨d,ps⟩,he⟩:∃x,l[min (8*k+8) l.length-1]? =some x:=⟨_,aI (by omega)⟩
 have hde:cH (-1) (l.take (8*k+8))=d:=by
  rw[←zy he (-1),show l.take (8*k+8)=l.take (min (8*k+8) l.length-1+1)from by rw[hU];omega]
 have uB:=FG he (to:=to) (by simp only;omega);have Gz:lf.length=min (8*k+8-s) (l.length-s):=by rw[P7,bU,dh]
 have iI:∀t,t<lf.length→lf[t]? =l[s+t]? :=fun t ht=>by rw[P7,eE,if_pos (by omega),List.getElem?_drop]
 have Z3:idx lf to=idx l to-s:=by
  refine idx_eq (fun j hj p hp=>?_) (fun p hp=>?_) (by omega)
  ·have rI:=(aF.1 hp).1;rw[iI j rI]at hp;exact DX (by omega) hp
  ·have rI:=(aF.1 hp).1;rw[iI _ rI,show s+(idx l to-s)=idx l to from by omega]at hp;exact AF hp
 refine⟨by omega,by omega,by omega,by omega,?_⟩;unfold lC;rw[if_neg (by omega),aK,Z3,P7,List.drop_take,List.drop_drop,show s+(idx l to-s)=idx l to from by omega,hU,dh];omega
theorem MF {l:List Po} (hm:dH (-1) l=true) {to:Int} {n:Nat} (hn:l.length≤n) (GP:cH (-1) (l.take n)<to):idx l to=l.length:=by
 refine idx_eq (fun j hj p hp=>?_) (fun p hp=>?_) (bw _)
 ·have:=AG hm hp (s:=n) (by omega);omega
 ·simp at hp
theorem GQ {l:List Po} (hm:dH (-1) l=true) {i k to:Int} (hi: -1≤i∧i≤l.length) (hk: -1≤k∧k<((l.length+7)/8:Nat)) (MG:i<0→k= -1) (th:0≤i→i<l.length→k=i/8) (UN:gY l i<to):
  cH (-1) (l.take (8*(max k 0).toNat))<to:=by
 rcases mO l i with⟨h0,h,_⟩|⟨j,d,ps,rfl,hx,h,_⟩|⟨h0,h,_⟩
 ·rw[MG h0];simp only[show(max (-1:Int) 0).toNat=0 from by decide,Nat.mul_zero,List.take_zero,cH];omega
 ·have hj:=(aF.1 hx).1;have Mu:=th (by omega) (by omega);have h2:=(l9 hm hx).1;have h3:=pD l (-1) (8*(max k 0).toNat) j hm (by decide) (by omega);omega
 ·have:=(j0 l (-1) hm (by decide) (8*(max k 0).toNat)).2;omega
def Cu (T:TypeId) (l:List Po) (i:Int) (M:aU) (w:World) (bc:Nat):Prop:=
 ∃(p u:Value) (k GR:Int),M bc∧w.heap[bc]? =some (.cells #[p,.int .i64 k,u,.int .i64 (gY l i),.int .i64 GR] T (0,0))∧bL RT.li M w p (iA l)∧((RT.po).sl).V M w (lC l i) u∧
  (-1≤i∧i≤l.length)∧(-1≤k∧k<((l.length+7)/8:Nat))∧(i<0→k= -1)∧(0≤i→i<l.length→k=i/8)
theorem Cu.step {T:TypeId} {l:List Po} {i:Int} {M M' N:aU} {w w':World} {bc:Nat} (h:Cu T l i M w bc) (s:Step M w M' w' N) (hn: ¬N bc):Cu T l i M' w' bc:=by
 obtain⟨p,u,k,GR,h1,h2,h3,h4,h5⟩:=h;exact⟨p,u,k,GR,(s.mem bc (av h2)).2 h1,s.b9 h2 hn,h3.le (by decide) s.le,h4.le s.le,h5⟩
theorem Cu.mem {T:TypeId} {l:List Po} {i:Int} {M:aU} {w:World} {bc:Nat} (h:Cu T l i M w bc):M bc:=by
 obtain⟨p,u,k,GR,h1,_⟩:=h;exact h1
theorem P8 {M:aU} {w:World} {d:Int} {ps:List Int} {v:Value} (h:RT.po.V M w (d,ps) v):∃u,v= .agg #[.int .i64 d,u]∧u.oneCell'=true∧(-9223372036854775808≤d∧d≤9223372036854775807):=by
 obtain⟨vs,⟨va,vb,rfl,⟨rfl,hd⟩,hb⟩,rfl⟩:=h;obtain⟨a,cap,rfl,_⟩:=hb;exact⟨_,rfl,rfl,hd⟩
end Go.K
namespace Go.K
section
variable {P:Program} {r:Option Nat} {n:Nat} {L:Sl} {ds:List Deferred} {w:World}
theorem pE {fn:Func} {Q:Value→World→Prop} {c t b:Nat} {vs:List Value} {fs:TypeDesc} {e:TypeId} {fr:Nat×Nat} {zv:Value} {size bytes:Nat} (hr:fn.results= #[.cell c t]) (hc:lk L c=some (.pointer (some ⟨b,0,none⟩))) (hu:P.underlying t=some fs) (hf:fs.isRow=true) (hi:TI P t zv size bytes) (hl:vs.length=size)
  (hb:w.heap[b]? =some (.cells vs.toArray e fr)) (h:Q (.agg vs.toArray) w):yK P fn Q .ret L [] w:=
 ⟨rfl,fun a ha=>⟨_,by
  obtain⟨i,yE,_,Bx,_⟩:=hi.get;have Iz:w.rangeAt b 0 vs:=fun j v hj=>jx hb (by simpa using hj)
  have:=run_loadVar_mid (P:=P) w b 0 t vs fs Iz hu hf (by simp[yE,Bx,hl]);simp[results,hr,ha _ _ hc,asAddr,this,cR],h⟩⟩
end
end Go.K
namespace Go.K
section
variable {P:Program} {r:Option Nat} {n:Nat} {L:Sl} {ds:List Deferred} {w:World} {K:Kt} {ops:Array Oper} {rest:List Oper} {d:Nat} {x:Operand} {ty:TypeId} {pos:String} {af:Array Edge}
theorem Rg.IH {t e:TypeId} {a:Option Addr} {l c:Nat} (ht:P.underlying t=some (.slice e)) (hx:ev L x=some (.slice a l c)) (hd:Nat.blt d n=true)
  (k:Rg P r n ops rest ((d,.int .i64 (l:Int))::L) ds w K):
  Rg P r n ops ({dst:=some d,op:= .call {callee:= .builtin .len,args:= #[x],argTypes:= #[t]},type:=ty,pos,after:=af,guard:=none}::rest) L ds w K:=by
 refine .op (fun _ h=>by cases h) rfl rfl hd _ w (fun ρ h=>?_) k;simp[execOp,resolve,invoke,builtin,h x _ hx,Builtin.len_,run_underlying ht,goInt]
end
end Go.K
namespace Go.K
open Go.RowKit (Below)
open Go.Maps (Keyed)
open Go.ChangeMaps (putKey delKey notKey)
abbrev DU:=DataW Unit
structure P9 (P:Program) (k:TypeId) (R:Value→Option (DU×List MemPlace)) (M:aU) (w:World) (b:Nat) (m:List (Lit×DU)):Prop where
 mut_:M b
 own:w.ownsMap P k R b m.length (.map m)
section
variable {P:Program} {r:Option Nat} {n:Nat} {L:Sl} {ds:List Deferred} {w:World} {K:Kt} {ops:Array Oper} {rest:List Oper} {d:Nat} {x y z:Operand} {ty:TypeId} {pos:String} {af:Array Edge}
variable {kt:TypeId} {R:Value→Option (DU×List MemPlace)} {M:aU} {b:Nat} {m:List (Lit×DU)}
theorem Step.wM {w w':World} (h:Below w.heap.size w w') (M:aU):Step M w M w' aN:=
 ⟨fun h0 b hb=>Nat.lt_of_lt_of_le (h0 b hb) h.size,h.os,h.tape,h.output,h.size,fun _ _=>Iff.rfl,fun b hb _=>h.block b hb,fun _ h=>h.elim⟩
end
end Go.K
namespace Go.K
def allM:aU:=fun _=>True
theorem Step.all {M M' N:aU} {w w':World} (s:Step M w M' w' N):Step allM w allM w' N:=⟨fun h=>absurd (h w.heap.size trivial) (jr _),s.os,s.tape,s.output,s.size,fun _ _=>Iff.rfl,s.same,fun _ _=>trivial⟩
theorem Step.toAny {M M':aU} {w w':World} (s:Step M w M' w' aN) (M1:aU):Step M1 w M1 w' aN:=s.any M1
theorem fR.int {κ:IntKind} {M M':aU} {w w':World}:∀{xs:List Int} {C:List Value},fR (RT.int κ) M w xs C→fR (RT.int κ) M' w' xs C
 |[],_,h=>h
 |x::xs,C,h=>by
  obtain⟨vs,r,h1,h2,h3⟩:=h;exact⟨vs,r,h1,h2,fR.int h3⟩
theorem Own.MH {κ:IntKind} {e:TypeId} {M:aU} {w:World} {base:Nat} {v:Value} {xs:List Int} (h:Own (RT.int κ) e M w base v xs) {M':aU} (hm:∀b,v.ownBlock=some b→M' b):Own (RT.int κ) e M' w base v xs:=by
 obtain⟨⟨C,h1,h2⟩,_⟩:=h;exact⟨⟨C,h1,fR.int h2⟩,hm⟩
theorem Own.UT {κ:IntKind} {e:TypeId} {N:aU} {w w':World} {base:Nat} {v:Value} {xs:List Int} (h:Own (RT.int κ) e allM w base v xs) (s:Step allM w allM w' N) (hn:∀b,v.ownBlock=some b→¬N b):Own (RT.int κ) e allM w' base v xs:=by
 obtain⟨⟨C,h1,h2⟩,_⟩:=h;refine⟨⟨C,⟨h1.1,?_⟩,fR.int h2⟩,fun _ _=>trivial⟩;rcases h1.2 with h3|⟨g,cap,cur,h3,h4,h5,h6,h7,h8⟩
 ·exact .inl h3
 ·exact .inr ⟨g,cap,cur,h3,h4,by rw[s.same g (av h5) (hn g (by rw[h3];rfl))];exact h5,h6,h7,h8⟩
def qw (v:Value):aU:=fun b=>v.ownBlock=some b
theorem Own.lone {κ:IntKind} {e:TypeId} {M:aU} {w:World} {base:Nat} {v:Value} {xs:List Int} (h:Own (RT.int κ) e M w base v xs):Own (RT.int κ) e (qw v) w base v xs:=h.MH fun _ h=>h
end Go.K
namespace Go.K
def B3 (at':Nat→Nat) (cont:Nat→Bool):Nat×Nat:=
 if at' 0<0x80 then(at' 0,1)
 else if at' 0/32==6&&cont 1 then
  if(at' 0%32)*64+at' 1%64≥0x80 then((at' 0%32)*64+at' 1%64,2)else(65533,1)
 else if at' 0/16==14&&cont 1&&cont 2 then
  if(at' 0%16)*4096+(at' 1%64)*64+at' 2%64≥0x800&&Utf8.valid ((at' 0%16)*4096+(at' 1%64)*64+at' 2%64:Nat)then((at' 0%16)*4096+(at' 1%64)*64+at' 2%64,3)else(65533,1)
 else if at' 0/8==30&&cont 1&&cont 2&&cont 3 then
  if(at' 0%8)*262144+(at' 1%64)*4096+(at' 2%64)*64+at' 3%64≥0x10000&&Utf8.valid ((at' 0%8)*262144+(at' 1%64)*4096+(at' 2%64)*64+at' 3%64:Nat)then((at' 0%8)*262144+(at' 1%64)*4096+(at' 2%64)*64+at' 3%64,4)else(65533,1)
 else(65533,1)
theorem GS (s:ByteArray) (i:Nat):Utf8.decode s i=B3 (fun k=>(s.get! (i+k)).toNat) (fun k=>decide (i+k<s.size)&&(s.get! (i+k)).toNat/64==2):=rfl
def kd (l:List UInt8) (k:Nat):Nat:=(l.getD k 0).toNat
def j7 (l:List UInt8) (k:Nat):Bool:=decide (k<l.length)&&kd l k/64==2
def dec (l:List UInt8):Nat×Nat:=B3 (kd l) (j7 l)
theorem GU (l:List UInt8) (j:Nat):(⟨l.toArray⟩:ByteArray).get! j=l.getD j 0:=by
 show l.toArray[j]! =_;rw[dN,getElem!_def];simp only[te]
 cases l[j]? <;>rfl
theorem DZ (l:List UInt8) (pos:Nat):Utf8.decode ⟨l.toArray⟩ pos=dec (l.drop pos):=by
 rw[GS,dec]
 have h1:(fun k=>((⟨l.toArray⟩:ByteArray).get! (pos+k)).toNat)=kd (l.drop pos):=by
  funext k;rw[GU,kd,dN,dN,List.getElem?_drop]
 have h2:(fun k=>decide (pos+k<(⟨l.toArray⟩:ByteArray).size)&&((⟨l.toArray⟩:ByteArray).get! (pos+k)).toNat/64==2)=j7 (l.drop pos):=by
  funext k;have:=congrFun h1 k;rw[this,j7,dh];congr 1;have hs:(⟨l.toArray⟩:ByteArray).size=l.length:=by simp[ByteArray.size]
  rw[hs];exact decide_eq_decide.2 (by omega)
 rw[h1,h2]
theorem wN {l:List UInt8} {k:Nat} (h:j7 l k=true):k<l.length:=by
 simp only[j7,bZ,decide_eq_true_eq]at h;exact h.1
theorem lU {l:List UInt8} (hl:l≠[]):1≤(dec l).2∧(dec l).2≤l.length:=by
 have h0:0<l.length:=nV.2 hl;unfold dec B3
 split
 ·exact⟨bw _,h0⟩
 ·split
  ·rename_i h
   simp only[bZ]at h;have:=wN h.2
   split<;>(simp only;omega)
  ·split
   ·rename_i h
    simp only[bZ]at h;have:=wN h.2
    split<;>(simp only;omega)
   ·split
    ·rename_i h
     simp only[bZ]at h;have:=wN h.2
     split<;>(simp only;omega)
    ·exact⟨bw _,h0⟩
theorem oh (l:List UInt8) (k:Nat):kd l k<256:=by unfold kd;exact UInt8.toNat_lt _
theorem tL (l:List UInt8):(dec l).1≤1114111:=by
 unfold dec B3
 split
 ·simp only;omega
 ·split
  ·have:=oh l 0
   split<;>(simp only;omega)
  ·split
   ·have:=oh l 0
    split<;>(simp only;omega)
   ·split
    ·split
     ·rename_i h
      simp only[bZ,Utf8.valid,Bool.or_eq_true,decide_eq_true_eq]at h;simp only;omega
     ·simp only;omega
    ·simp only;omega
def fu (l:List UInt8):List Int:=match l with
 |[]=>[]
 |c::r=>((dec (c::r)).1:Int)::fu ((c::r).drop (dec (c::r)).2)
termination_by l.length
decreasing_by
 have:=(lU (l:=c::r) (by simp)).1;simp only[dh,cK];omega
theorem qg:fu []=[]:=by unfold fu;rfl
theorem om {l:List UInt8} (h:l≠[]):fu l=((dec l).1:Int)::fu (l.drop (dec l).2):=by
 cases l with
 |nil=>exact absurd rfl h
 |cons c r=>rw[fu]
theorem iL (l:List UInt8):(fu l).length≤l.length:=by
 induction hn:l.length using Nat.strongRecOn generalizing l with
 |_ n ih=>
  by_cases h:l=[]
  ·subst h;rw[qg];simp
  ·rw[om h,cK];have hw:=lU h;have:=ih _ (by rw[dh];omega) (l.drop (dec l).2) rfl;rw[dh]at this;omega
section
variable {P:Program} {r:Option Nat} {n:Nat} {L:Sl} {ds:List Deferred} {w:World} {K:Kt} {ops:Array Oper} {rest:List Oper} {d:Nat} {x:Operand} {ty:TypeId} {pos:String} {af:Array Edge}
theorem Rg.II {t:TypeId} {l:List UInt8} (M:aU) (ht:P.underlying t=some .string) (hx:ev L x=some (.string ⟨l.toArray⟩)) (hd:Nat.blt d n=true)
  (k:∀b w',w.heap.size≤b→b<w'.heap.size→w'.heap[b]? =some (.stringIter ⟨l.toArray⟩ 0)→Step M w (ins M b) w' aN→Rg P r n ops rest ((d,.pointer (some ⟨b,0,none⟩))::L) ds w' K):
  Rg P r n ops ({dst:=some d,op:= .range t x,type:=ty,pos,after:=af,guard:=none}::rest) L ds w K:=by
 refine .op (fun _ h=>by cases h) rfl rfl hd (.pointer (some ⟨w.heap.size,0,none⟩)) (w.alloc (.stringIter ⟨l.toArray⟩ 0)) (fun ρ hρ=>?_) (k w.heap.size _ (bw _) (by simp) (cO w _) ((dA M w _).own (bw _) (by simp)));simp only[execOp,hρ x _ hx];simp[Instr.range,cR,run_underlying ht,newObj,Sem.run]
theorem jf (M:aU) {b:Nat} {o:Obj} (hm:M b):Step M w M {w with heap:=w.heap.setIfInBounds b o} (fun k=>k=b):=
 ⟨fun h b hb=>by simpa using h b hb,rfl,rfl,rfl,by simp,fun _ _=>Iff.rfl,fun k _ hn=>by simp[dC,Ne.symm hn],fun k hk=>by subst hk;exact hm⟩
theorem pF {b p:Nat} {s:ByteArray} (hb:w.heap[b]? =some (.stringIter s p)):(getObj b).run P w= .ok (.stringIter s p) w:=by simp[getObj,Sem.run,hb]
theorem Rg.MI {l:List UInt8} {b p:Nat} {M:aU} (hx:ev L x=some (.pointer (some ⟨b,0,none⟩))) (hb:w.heap[b]? =some (.stringIter ⟨l.toArray⟩ p)) (hm:M b) (hd:Nat.blt d n=true)
  (k1:p<l.length→∀w',w'.heap[b]? =some (.stringIter ⟨l.toArray⟩ (p+(dec (l.drop p)).2))→Step M w M w' (fun k=>k=b)→Rg P r n ops rest ((d,.tuple #[.bool true,.int .i64 p,.int .i32 ((dec (l.drop p)).1:Nat)])::L) ds w' K)
  (k2: ¬p<l.length→Rg P r n ops rest ((d,.tuple #[.bool false])::L) ds w K):
  Rg P r n ops ({dst:=some d,op:= .next x true,type:=ty,pos,after:=af,guard:=none}::rest) L ds w K:=by
 have hs:(⟨l.toArray⟩:ByteArray).size=l.length:=by simp[ByteArray.size]
 have ek:=av hb;by_cases h:p<l.length
 ·have key:=k1 h {w with heap:=w.heap.setIfInBounds b (.stringIter ⟨l.toArray⟩ (p+(dec (l.drop p)).2))} (by simp[dC,ek]) (jf M hm);refine .op (fun _ h=>by cases h) rfl rfl hd _ _ (fun ρ hρ=>?_) key;simp only[execOp,hρ x _ hx,Instr.next,cR,pF hb,dD];rw[if_pos (by rw[hs];exact h)];simp[DZ,setObj,Sem.run,goInt,hb]
 ·refine .op (fun _ h=>by cases h) rfl rfl hd _ w (fun ρ hρ=>?_) (k2 h);simp only[execOp,hρ x _ hx,Instr.next,cR,pF hb,dD];rw[if_neg (by rw[hs];exact h)];simp
theorem Rg.FI {t:TypeId} {i:Operand} {l:List UInt8} {κ:IntKind} {j:Int} {c:UInt8} (ht:P.underlying t=some .string) (hx:ev L x=some (.string ⟨l.toArray⟩)) (hi:ev L i=some (.int κ j)) (hd:Nat.blt d n=true) (hj:0≤j) (hc:l[j.toNat]? =some c)
  (k:Rg P r n ops rest ((d,.int .u8 (c.toNat:Int))::L) ds w K):
  Rg P r n ops ({dst:=some d,op:= .index t x i,type:=ty,pos,after:=af,guard:=none}::rest) L ds w K:=by
 have ek:=(aF.1 hc).1;have hs:(⟨l.toArray⟩:ByteArray).size=l.length:=by simp[ByteArray.size]
 have hg:(⟨l.toArray⟩:ByteArray)[j.toNat]? =some c:=by
  rw[getElem?_pos _ _ (by rw[hs];exact ek)];congr 1;have:=(aF.1 hc).2;rw[←this];rfl
 refine .op (fun _ h=>by cases h) rfl rfl hd _ w (fun ρ hρ=>?_) k;simp only[execOp,hρ x _ hx,hρ i _ hi,Instr.index,cR,asIntOf,Sem.run_pure,dD,run_underlying ht];simp[hj,hg]
theorem qE (l:List UInt8) (a b:Nat):(⟨l.toArray⟩:ByteArray).extract a b=⟨((l.take b).drop a).toArray⟩:=by
 have:((⟨l.toArray⟩:ByteArray).extract a b).data=((l.take b).drop a).toArray:=by
  rw[ByteArray.data_extract];apply Array.toList_inj.1;rw[Array.toList_extract,List.extract_eq_take_drop,List.drop_take]
 exact congrArg ByteArray.mk this
theorem Rg.MJ {t:TypeId} {i:Operand} {l:List UInt8} {κ:IntKind} {j:Int} (ht:P.underlying t=some .string) (hx:ev L x=some (.string ⟨l.toArray⟩)) (hi:ev L i=some (.int κ j)) (hd:Nat.blt d n=true) (hj:0≤j∧j≤l.length)
  (k:Rg P r n ops rest ((d,.string ⟨(l.drop j.toNat).toArray⟩)::L) ds w K):
  Rg P r n ops ({dst:=some d,op:= .slice t x (some i) none none,type:=ty,pos,after:=af,guard:=none}::rest) L ds w K:=by
 have hs:(⟨l.toArray⟩:ByteArray).size=l.length:=by simp[ByteArray.size]
 refine .op (fun _ h=>by cases h) rfl rfl hd _ w (fun ρ hρ=>?_) k;simp only[execOp,hρ x _ hx,eZ,iO,hρ i _ hi];rw[cR,run_sliceAt_string _ _ _ _ _ _ ht,run_slice_string_l _ _ _ ht _ _ hj.1 (by rw[hs];exact hj.2),qE,hs,tt];simp
theorem Rg.IK {t:TypeId} {i:Operand} {l:List UInt8} {κ:IntKind} {j:Int} (ht:P.underlying t=some .string) (hx:ev L x=some (.string ⟨l.toArray⟩)) (hi:ev L i=some (.int κ j)) (hd:Nat.blt d n=true) (hj:0≤j∧j≤l.length)
  (k:Rg P r n ops rest ((d,.string ⟨(l.take j.toNat).toArray⟩)::L) ds w K):
  Rg P r n ops ({dst:=some d,op:= .slice t x none (some i) none,type:=ty,pos,after:=af,guard:=none}::rest) L ds w K:=by
 have hs:(⟨l.toArray⟩:ByteArray).size=l.length:=by simp[ByteArray.size]
 refine .op (fun _ h=>by cases h) rfl rfl hd _ w (fun ρ hρ=>?_) k;simp only[execOp,hρ x _ hx,eZ,iO,hρ i _ hi];rw[cR,run_sliceAt_string _ _ _ _ _ _ ht,run_slice_string_h _ _ _ ht _ _ hj.1 (by rw[hs];exact hj.2),qE,List.drop_zero];simp
end
theorem Own.dZ {α:Type} {A:RT α} {e:TypeId} {M:aU} {w:World} {base b p:Nat} {s:ByteArray} {v:Value} {xs:List α} (h:Own A e M w base v xs) (hb:w.heap[b]? =some (.stringIter s p)):v.ownBlock≠some b:=fun hv=>by
 obtain⟨⟨C,h1,_⟩,_⟩:=h;rcases h1.2 with⟨h2,_⟩|⟨g,cap,cur,h2,_,h3,_⟩
 ·rw[h2]at hv;cases hv
 ·rw[h2]at hv;cases hv;rw[h3]at hb;cases hb
theorem Own.jg {α β:Type} {A:RT α} {B:RT β} {e e':TypeId} {M M':aU} {w:World} {base FB:Nat} {v u:Value} {xs:List α} {ys:List β} (h:Own A e M w base v xs) (h':Own B e' M' w FB u ys) (ht:e≠e') {b:Nat} (hb:v.ownBlock=some b):u.ownBlock≠some b:=fun hu=>by
 obtain⟨⟨C,h1,_⟩,_⟩:=h;obtain⟨⟨C',IA,_⟩,_⟩:=h';rcases h1.2 with⟨h2,_⟩|⟨g,cap,cur,h2,_,h3,_⟩
 ·rw[h2]at hb;cases hb
 ·rcases IA.2 with⟨As,_⟩|⟨g',Ut,Uu,As,_,h3',_⟩
  ·rw[As]at hu;cases hu
  ·rw[h2]at hb;rw[As]at hu;cases hb;cases hu;rw[h3]at h3';cases h3';exact ht rfl
theorem Own.fc {α:Type} {A:RT α} {e t:TypeId} {M:aU} {w:World} {base b:Nat} {v:Value} {xs:List α} {cs:Array Value} {fr:Nat×Nat} (h:Own A e M w base v xs) (hb:w.heap[b]? =some (.cells cs t fr)) (ht:t≠e):v.ownBlock≠some b:=fun hv=>by
 obtain⟨⟨C,h1,_⟩,_⟩:=h;rcases h1.2 with⟨h2,_⟩|⟨g,cap,cur,h2,_,h3,_⟩
 ·rw[h2]at hv;cases hv
 ·rw[h2]at hv;cases hv;rw[h3]at hb;cases hb;exact ht rfl
end Go.K
namespace Go.K
open Go.Proofs
theorem I3:TI Tryz.prog 3 (.int .i64 0) 1 8:=by unfold TI;kernel_rfl
theorem I5:TI Tryz.prog 5 (.int .u8 0) 1 1:=by unfold TI;kernel_rfl
theorem I9:TI Tryz.prog 9 (.string ⟨#[]⟩) 1 16:=by unfold TI;kernel_rfl
theorem Z4:TI Tryz.prog 26 (.int .i64 0) 1 8:=by unfold TI;kernel_rfl
theorem gT:TI Tryz.prog 32 (.slice none 0 0) 1 24:=by unfold TI;kernel_rfl
theorem qx:TI Tryz.prog 39 (.slice none 0 0) 1 24:=by unfold TI;kernel_rfl
theorem lN:TI Tryz.prog 41 (.agg #[(.int .i64 0),(.slice none 0 0)]) 2 32:=by unfold TI;kernel_rfl
theorem yO:TI Tryz.prog 43 (.agg #[(.int .i64 0),(.slice none 0 0),(.int .i64 0)]) 3 40:=by unfold TI;kernel_rfl
theorem jW:TI Tryz.prog 47 (.agg #[(.string ⟨#[]⟩),(.string ⟨#[]⟩)]) 2 32:=by unfold TI;kernel_rfl
theorem ph:TI Tryz.prog 55 (.slice none 0 0) 1 24:=by unfold TI;kernel_rfl
theorem I98:TI Tryz.prog 98 (.slice none 0 0) 1 24:=by unfold TI;kernel_rfl
theorem jz:TI Tryz.prog 127 (.agg #[(.string ⟨#[]⟩),(.string ⟨#[]⟩)]) 2 32:=by unfold TI;kernel_rfl
theorem oZ:TI Tryz.prog 129 (.pointer none) 1 8:=by unfold TI;kernel_rfl
theorem AH:TI Tryz.prog 147 (.slice none 0 0) 1 24:=by unfold TI;kernel_rfl
theorem dW:TI Tryz.prog 153 (.agg #[(.int .i64 0),(.slice none 0 0)]) 2 32:=by unfold TI;kernel_rfl
theorem AI:TI Tryz.prog 191 (.slice none 0 0) 1 24:=by unfold TI;kernel_rfl
theorem abd:TI Tryz.prog 193 (.agg #[(.slice none 0 0),(.slice none 0 0),(.int .i64 0)]) 3 56:=by unfold TI;kernel_rfl
theorem tM:TI Tryz.prog 195 (.agg #[(.int .i64 0),(.int .i64 0),(.int .i64 0),(.int .i64 0)]) 4 32:=by unfold TI;kernel_rfl
theorem GV:TI Tryz.prog 256 (.agg #[(.string ⟨#[]⟩),(.int .i64 0)]) 2 24:=by unfold TI;kernel_rfl
theorem abe:TI Tryz.prog 309 (.agg #[(.pointer none),(.slice none 0 0)]) 2 32:=by unfold TI;kernel_rfl
theorem UU:placesOf Tryz.prog 41=[(0,1),(1,1)].map some:=by kernel_rfl
theorem B43:placesOf Tryz.prog 43=[(0,2),(2,1)].map some:=by kernel_rfl
theorem TQ:placesOf Tryz.prog 47=[(0,1),(1,1)].map some:=by kernel_rfl
theorem IL:placesOf Tryz.prog 153=[(0,1),(1,1)].map some:=by kernel_rfl
theorem abg:placesOf Tryz.prog 193=[(0,1),(1,1),(2,1)].map some:=by kernel_rfl
theorem abh:placesOf Tryz.prog 195=[(0,1),(1,1),(2,1),(3,1)].map some:=by kernel_rfl
theorem UW:placesOf Tryz.prog 256=[(0,1),(1,1)].map some:=by kernel_rfl
theorem mixed:Tryz.prog.follows .mixedOrders=true:=by kernel_rfl
theorem E65:Enters Tryz.prog 65:=enters Tryz.func65 rfl (by decide)
theorem UX:Enters Tryz.prog 74:=enters Tryz.func74 rfl (by decide)
theorem UY:Enters Tryz.prog 116:=enters Tryz.func116 rfl (by decide)
theorem UZ:Enters Tryz.prog 117:=enters Tryz.func117 rfl (by decide)
theorem IM:Enters Tryz.prog 138:=enters Tryz.func138 rfl (by decide)
theorem abi:Enters Tryz.prog 150:=enters Tryz.func150 rfl (by decide)
theorem abj:Enters Tryz.prog 151:=enters Tryz.func151 rfl (by decide)
theorem abk:Enters Tryz.prog 152:=enters Tryz.func152 rfl (by decide)
theorem abl:Enters Tryz.prog 153:=enters Tryz.func153 rfl (by decide)
theorem U0:Enters Tryz.prog 154:=enters Tryz.func154 rfl (by decide)
theorem abm:Enters Tryz.prog 158:=enters Tryz.func158 rfl (by decide)
theorem abn:Enters Tryz.prog 159:=enters Tryz.func159 rfl (by decide)
theorem abo:Enters Tryz.prog 160:=enters Tryz.func160 rfl (by decide)
theorem abp:Enters Tryz.prog 161:=enters Tryz.func161 rfl (by decide)
theorem abq:Enters Tryz.prog 167:=enters Tryz.func167 rfl (by decide)
theorem U1:Enters Tryz.prog 171:=enters Tryz.func171 rfl (by decide)
theorem abr:Enters Tryz.prog 172:=enters Tryz.func172 rfl (by decide)
theorem Qa:Enters Tryz.prog 173:=enters Tryz.func173 rfl (by decide)
theorem abt:Enters Tryz.prog 174:=enters Tryz.func174 rfl (by decide)
theorem abu:Enters Tryz.prog 187:=enters Tryz.func187 rfl (by decide)
theorem U2:Enters Tryz.prog 191:=enters Tryz.func191 rfl (by decide)
theorem U3:Enters Tryz.prog 192:=enters Tryz.func192 rfl (by decide)
theorem abv:Enters Tryz.prog 193:=enters Tryz.func193 rfl (by decide)
theorem abw:Enters Tryz.prog 194:=enters Tryz.func194 rfl (by decide)
theorem abx:Enters Tryz.prog 195:=enters Tryz.func195 rfl (by decide)
theorem aby:Enters Tryz.prog 196:=enters Tryz.func196 rfl (by decide)
theorem abz:Enters Tryz.prog 197:=enters Tryz.func197 rfl (by decide)
theorem abA:Enters Tryz.prog 199:=enters Tryz.func199 rfl (by decide)
theorem abB:Enters Tryz.prog 212:=enters Tryz.func212 rfl (by decide)
theorem abC:Enters Tryz.prog 213:=enters Tryz.func213 rfl (by decide)
theorem U4:Enters Tryz.prog 214:=enters Tryz.func214 rfl (by decide)
theorem abD:Enters Tryz.prog 215:=enters Tryz.func215 rfl (by decide)
theorem abE:Enters Tryz.prog 216:=enters Tryz.func216 rfl (by decide)
theorem U5:Enters Tryz.prog 217:=enters Tryz.func217 rfl (by decide)
theorem abF:Enters Tryz.prog 218:=enters Tryz.func218 rfl (by decide)
theorem U6:Enters Tryz.prog 219:=enters Tryz.func219 rfl (by decide)
theorem U7:Enters Tryz.prog 220:=enters Tryz.func220 rfl (by decide)
theorem abG:Enters Tryz.prog 221:=enters Tryz.func221 rfl (by decide)
theorem abH:Enters Tryz.prog 222:=enters Tryz.func222 rfl (by decide)
theorem U8:Enters Tryz.prog 223:=enters Tryz.func223 rfl (by decide)
theorem abI:Enters Tryz.prog 224:=enters Tryz.func224 rfl (by decide)
theorem abJ:Enters Tryz.prog 225:=enters Tryz.func225 rfl (by decide)
theorem abK:Enters Tryz.prog 233:=enters Tryz.func233 rfl (by decide)
theorem U9:Enters Tryz.prog 250:=enters Tryz.func250 rfl (by decide)
theorem abL:Enters Tryz.prog 251:=enters Tryz.func251 rfl (by decide)
theorem abM:Enters Tryz.prog 252:=enters Tryz.func252 rfl (by decide)
theorem abN:Enters Tryz.prog 253:=enters Tryz.func253 rfl (by decide)
theorem abO:Enters Tryz.prog 254:=enters Tryz.func254 rfl (by decide)
theorem abP:Enters Tryz.prog 255:=enters Tryz.func255 rfl (by decide)
theorem abQ:Enters Tryz.prog 256:=enters Tryz.func256 rfl (by decide)
theorem Va:Enters Tryz.prog 274:=enters Tryz.func274 rfl (by decide)
theorem abR:Enters Tryz.prog 277:=enters Tryz.func277 rfl (by decide)
end Go.K
namespace Go.K
open Go.Proofs
set_option maxRecDepth 10000
def fK (c:Int):Bool:=decide ((97≤c∧c≤122)∨(65≤c∧c≤90)∨(192≤c∧c≤591∧c≠215∧c≠247))
def ot (c:Int):Bool:=decide (48≤c∧c≤57)
def fM (c:Int):Int:=if(65≤c∧c≤90)∨(192≤c∧c≤222∧c≠215)then c+32 else c
theorem B4 (c:Int) (w0:World):
  Spec Tryz.prog 221 #[.int .i64 c] w0 (fun v w=>v= .bool (fK c)∧w=w0):=by
 refine bE (args:=[_]) (fn:=Tryz.f221) Tryz.func221 rfl (n:=33) Tryz.ntmps221 (au (ak (al rfl rfl (ae (au (ak (aj rfl rfl (dI rfl rfl rfl (aj rfl rfl ?_)))))))));refine aZ (g:=5) rfl (fun iR=>?_) (fun iR=>?_)
 ·refine aq rfl rfl (aj rfl rfl (aq rfl rfl (fo rfl rfl rfl (aR rfl rfl rfl (aj rfl rfl ?_)))));refine aZ (g:=9) rfl (fun AJ=>?_) (fun AJ=>?_)
  ·refine aw rfl rfl rfl rfl (aw rfl rfl rfl rfl (aw rfl rfl rfl rfl (ca rfl rfl rfl (ca rfl rfl rfl (aw rfl rfl rfl rfl (aR rfl rfl rfl (aj rfl rfl (aw rfl rfl rfl rfl (aw rfl rfl rfl rfl (aw rfl rfl rfl rfl (ca rfl rfl rfl ?_)))))))))));refine ca rfl rfl rfl (aw rfl rfl rfl rfl (aw rfl rfl rfl rfl (ca rfl rfl rfl (ca rfl rfl rfl (aw rfl rfl rfl rfl (aw rfl rfl rfl rfl (ca rfl rfl rfl (ca rfl rfl rfl (aw rfl rfl rfl rfl (aR rfl rfl rfl (al rfl rfl ?_)))))))))));refine ae (aW ?_);exact a8 rfl rfl ⟨by simp only[fK];first|rfl|(congr 1;first|(exact(decide_eq_true (by omega)).symm)|(exact(decide_eq_false (by omega)).symm)|(exact decide_eq_decide.2 (by omega))),rfl⟩
  ·refine aq rfl rfl (aj rfl rfl (aq rfl rfl (dI rfl rfl rfl (aq rfl rfl (aj rfl rfl ?_)))));refine aZ (g:=12) rfl (fun rj=>?_) (fun rj=>?_)
   ·refine aq rfl rfl (aj rfl rfl (aq rfl rfl (fo rfl rfl rfl (aq rfl rfl (aR rfl rfl rfl (aL rfl rfl rfl (aj rfl rfl ?_)))))));refine aZ (g:=17) rfl (fun wO=>?_) (fun wO=>?_)
    ·refine aw rfl rfl rfl rfl (aw rfl rfl rfl rfl (aw rfl rfl rfl rfl (ca rfl rfl rfl (ca rfl rfl rfl (aw rfl rfl rfl rfl (aw rfl rfl rfl rfl (ca rfl rfl rfl (ca rfl rfl rfl (aw rfl rfl rfl rfl (aw rfl rfl rfl rfl (ca rfl rfl rfl ?_)))))))))));refine ca rfl rfl rfl (aw rfl rfl rfl rfl (aR rfl rfl rfl (al rfl rfl (ae (aW ?_)))));exact a8 rfl rfl ⟨by simp only[fK];first|rfl|(congr 1;first|(exact(decide_eq_true (by omega)).symm)|(exact(decide_eq_false (by omega)).symm)|(exact decide_eq_decide.2 (by omega))),rfl⟩
    ·refine aq rfl rfl (aj rfl rfl (aq rfl rfl (dI rfl rfl rfl (aq rfl rfl (aj rfl rfl ?_)))));refine aZ (g:=20) rfl (fun mc=>?_) (fun mc=>?_)
     ·refine aq rfl rfl (aj rfl rfl (aq rfl rfl (fo rfl rfl rfl (aq rfl rfl (aR rfl rfl rfl (aq rfl rfl (aj rfl rfl ?_)))))));refine aZ (g:=24) rfl (fun wR=>?_) (fun wR=>?_)
      ·refine aq rfl rfl (aj rfl rfl (aq rfl rfl (eC rfl rfl rfl (aq rfl rfl (aR rfl rfl rfl (aq rfl rfl (aj rfl rfl ?_)))))));refine aZ (g:=28) rfl (fun wT=>?_) (fun wT=>?_)
       ·refine aq rfl rfl (aj rfl rfl (aq rfl rfl (eC rfl rfl rfl (aq rfl rfl (aR rfl rfl rfl (aL rfl rfl rfl (al rfl rfl (ae (aW ?_)))))))));exact a8 rfl rfl ⟨by simp only[fK];first|rfl|(congr 1;first|(exact(decide_eq_true (by omega)).symm)|(exact(decide_eq_false (by omega)).symm)|(exact decide_eq_decide.2 (by omega))),rfl⟩
       ·refine aw rfl rfl rfl rfl (aw rfl rfl rfl rfl (aq rfl rfl (aL rfl rfl rfl (aL rfl rfl rfl (al rfl rfl (ae (aW ?_)))))));exact a8 rfl rfl ⟨by simp only[fK];first|rfl|(congr 1;first|(exact(decide_eq_true (by omega)).symm)|(exact(decide_eq_false (by omega)).symm)|(exact decide_eq_decide.2 (by omega))),rfl⟩
      ·refine aw rfl rfl rfl rfl (aw rfl rfl rfl rfl (aq rfl rfl (aL rfl rfl rfl (aq rfl rfl (aj rfl rfl (aw rfl rfl rfl rfl (aw rfl rfl rfl rfl (aq rfl rfl (aL rfl rfl rfl (aL rfl rfl rfl (al rfl rfl ?_)))))))))));refine ae (aW ?_);exact a8 rfl rfl ⟨by simp only[fK];first|rfl|(congr 1;first|(exact(decide_eq_true (by omega)).symm)|(exact(decide_eq_false (by omega)).symm)|(exact decide_eq_decide.2 (by omega))),rfl⟩
     ·refine aw rfl rfl rfl rfl (aw rfl rfl rfl rfl (aq rfl rfl (aL rfl rfl rfl (aq rfl rfl (aj rfl rfl (aw rfl rfl rfl rfl (aw rfl rfl rfl rfl (aq rfl rfl (aL rfl rfl rfl (aq rfl rfl (aj rfl rfl ?_)))))))))));refine aw rfl rfl rfl rfl (aw rfl rfl rfl rfl (aq rfl rfl (aL rfl rfl rfl (aL rfl rfl rfl (al rfl rfl (ae (aW ?_)))))));exact a8 rfl rfl ⟨by simp only[fK];first|rfl|(congr 1;first|(exact(decide_eq_true (by omega)).symm)|(exact(decide_eq_false (by omega)).symm)|(exact decide_eq_decide.2 (by omega))),rfl⟩
   ·refine aw rfl rfl rfl rfl (aw rfl rfl rfl rfl (aq rfl rfl (aL rfl rfl rfl (aL rfl rfl rfl (aj rfl rfl (aq rfl rfl (aj rfl rfl (aq rfl rfl (dI rfl rfl rfl (aq rfl rfl (aj rfl rfl ?_)))))))))));refine aZ (g:=20) rfl (fun mc=>?_) (fun mc=>?_)
    ·refine aq rfl rfl (aj rfl rfl (aq rfl rfl (fo rfl rfl rfl (aq rfl rfl (aR rfl rfl rfl (aq rfl rfl (aj rfl rfl ?_)))))));refine aZ (g:=24) rfl (fun wR=>?_) (fun wR=>?_)
     ·refine aq rfl rfl (aj rfl rfl (aq rfl rfl (eC rfl rfl rfl (aq rfl rfl (aR rfl rfl rfl (aq rfl rfl (aj rfl rfl ?_)))))));refine aZ (g:=28) rfl (fun wT=>?_) (fun wT=>?_)
      ·refine aq rfl rfl (aj rfl rfl (aq rfl rfl (eC rfl rfl rfl (aq rfl rfl (aR rfl rfl rfl (aL rfl rfl rfl (al rfl rfl (ae (aW ?_)))))))));exact a8 rfl rfl ⟨by simp only[fK];first|rfl|(congr 1;first|(exact(decide_eq_true (by omega)).symm)|(exact(decide_eq_false (by omega)).symm)|(exact decide_eq_decide.2 (by omega))),rfl⟩
      ·refine aw rfl rfl rfl rfl (aw rfl rfl rfl rfl (aq rfl rfl (aL rfl rfl rfl (aL rfl rfl rfl (al rfl rfl (ae (aW ?_)))))));exact a8 rfl rfl ⟨by simp only[fK];first|rfl|(congr 1;first|(exact(decide_eq_true (by omega)).symm)|(exact(decide_eq_false (by omega)).symm)|(exact decide_eq_decide.2 (by omega))),rfl⟩
     ·refine aw rfl rfl rfl rfl (aw rfl rfl rfl rfl (aq rfl rfl (aL rfl rfl rfl (aq rfl rfl (aj rfl rfl (aw rfl rfl rfl rfl (aw rfl rfl rfl rfl (aq rfl rfl (aL rfl rfl rfl (aL rfl rfl rfl (al rfl rfl ?_)))))))))));refine ae (aW ?_);exact a8 rfl rfl ⟨by simp only[fK];first|rfl|(congr 1;first|(exact(decide_eq_true (by omega)).symm)|(exact(decide_eq_false (by omega)).symm)|(exact decide_eq_decide.2 (by omega))),rfl⟩
    ·refine aw rfl rfl rfl rfl (aw rfl rfl rfl rfl (aq rfl rfl (aL rfl rfl rfl (aq rfl rfl (aj rfl rfl (aw rfl rfl rfl rfl (aw rfl rfl rfl rfl (aq rfl rfl (aL rfl rfl rfl (aq rfl rfl (aj rfl rfl ?_)))))))))));refine aw rfl rfl rfl rfl (aw rfl rfl rfl rfl (aq rfl rfl (aL rfl rfl rfl (aL rfl rfl rfl (al rfl rfl (ae (aW ?_)))))));exact a8 rfl rfl ⟨by simp only[fK];first|rfl|(congr 1;first|(exact(decide_eq_true (by omega)).symm)|(exact(decide_eq_false (by omega)).symm)|(exact decide_eq_decide.2 (by omega))),rfl⟩
 ·refine aw rfl rfl rfl rfl (aw rfl rfl rfl rfl (aL rfl rfl rfl (aj rfl rfl (aq rfl rfl (aj rfl rfl (aq rfl rfl (dI rfl rfl rfl (aq rfl rfl (aj rfl rfl ?_)))))))));refine aZ (g:=12) rfl (fun rj=>?_) (fun rj=>?_)
  ·refine aq rfl rfl (aj rfl rfl (aq rfl rfl (fo rfl rfl rfl (aq rfl rfl (aR rfl rfl rfl (aL rfl rfl rfl (aj rfl rfl ?_)))))));refine aZ (g:=17) rfl (fun wO=>?_) (fun wO=>?_)
   ·refine aw rfl rfl rfl rfl (aw rfl rfl rfl rfl (aw rfl rfl rfl rfl (ca rfl rfl rfl (ca rfl rfl rfl (aw rfl rfl rfl rfl (aw rfl rfl rfl rfl (ca rfl rfl rfl (ca rfl rfl rfl (aw rfl rfl rfl rfl (aw rfl rfl rfl rfl (ca rfl rfl rfl ?_)))))))))));refine ca rfl rfl rfl (aw rfl rfl rfl rfl (aR rfl rfl rfl (al rfl rfl (ae (aW ?_)))));exact a8 rfl rfl ⟨by simp only[fK];first|rfl|(congr 1;first|(exact(decide_eq_true (by omega)).symm)|(exact(decide_eq_false (by omega)).symm)|(exact decide_eq_decide.2 (by omega))),rfl⟩
   ·refine aq rfl rfl (aj rfl rfl (aq rfl rfl (dI rfl rfl rfl (aq rfl rfl (aj rfl rfl ?_)))));refine aZ (g:=20) rfl (fun mc=>?_) (fun mc=>?_)
    ·refine aq rfl rfl (aj rfl rfl (aq rfl rfl (fo rfl rfl rfl (aq rfl rfl (aR rfl rfl rfl (aq rfl rfl (aj rfl rfl ?_)))))));refine aZ (g:=24) rfl (fun wR=>?_) (fun wR=>?_)
     ·refine aq rfl rfl (aj rfl rfl (aq rfl rfl (eC rfl rfl rfl (aq rfl rfl (aR rfl rfl rfl (aq rfl rfl (aj rfl rfl ?_)))))));refine aZ (g:=28) rfl (fun wT=>?_) (fun wT=>?_)
      ·refine aq rfl rfl (aj rfl rfl (aq rfl rfl (eC rfl rfl rfl (aq rfl rfl (aR rfl rfl rfl (aL rfl rfl rfl (al rfl rfl (ae (aW ?_)))))))));exact a8 rfl rfl ⟨by simp only[fK];first|rfl|(congr 1;first|(exact(decide_eq_true (by omega)).symm)|(exact(decide_eq_false (by omega)).symm)|(exact decide_eq_decide.2 (by omega))),rfl⟩
      ·refine aw rfl rfl rfl rfl (aw rfl rfl rfl rfl (aq rfl rfl (aL rfl rfl rfl (aL rfl rfl rfl (al rfl rfl (ae (aW ?_)))))));exact a8 rfl rfl ⟨by simp only[fK];first|rfl|(congr 1;first|(exact(decide_eq_true (by omega)).symm)|(exact(decide_eq_false (by omega)).symm)|(exact decide_eq_decide.2 (by omega))),rfl⟩
     ·refine aw rfl rfl rfl rfl (aw rfl rfl rfl rfl (aq rfl rfl (aL rfl rfl rfl (aq rfl rfl (aj rfl rfl (aw rfl rfl rfl rfl (aw rfl rfl rfl rfl (aq rfl rfl (aL rfl rfl rfl (aL rfl rfl rfl (al rfl rfl ?_)))))))))));refine ae (aW ?_);exact a8 rfl rfl ⟨by simp only[fK];first|rfl|(congr 1;first|(exact(decide_eq_true (by omega)).symm)|(exact(decide_eq_false (by omega)).symm)|(exact decide_eq_decide.2 (by omega))),rfl⟩
    ·refine aw rfl rfl rfl rfl (aw rfl rfl rfl rfl (aq rfl rfl (aL rfl rfl rfl (aq rfl rfl (aj rfl rfl (aw rfl rfl rfl rfl (aw rfl rfl rfl rfl (aq rfl rfl (aL rfl rfl rfl (aq rfl rfl (aj rfl rfl ?_)))))))))));refine aw rfl rfl rfl rfl (aw rfl rfl rfl rfl (aq rfl rfl (aL rfl rfl rfl (aL rfl rfl rfl (al rfl rfl (ae (aW ?_)))))));exact a8 rfl rfl ⟨by simp only[fK];first|rfl|(congr 1;first|(exact(decide_eq_true (by omega)).symm)|(exact(decide_eq_false (by omega)).symm)|(exact decide_eq_decide.2 (by omega))),rfl⟩
  ·refine aw rfl rfl rfl rfl (aw rfl rfl rfl rfl (aq rfl rfl (aL rfl rfl rfl (aL rfl rfl rfl (aj rfl rfl (aq rfl rfl (aj rfl rfl (aq rfl rfl (dI rfl rfl rfl (aq rfl rfl (aj rfl rfl ?_)))))))))));refine aZ (g:=20) rfl (fun mc=>?_) (fun mc=>?_)
   ·refine aq rfl rfl (aj rfl rfl (aq rfl rfl (fo rfl rfl rfl (aq rfl rfl (aR rfl rfl rfl (aq rfl rfl (aj rfl rfl ?_)))))));refine aZ (g:=24) rfl (fun wR=>?_) (fun wR=>?_)
    ·refine aq rfl rfl (aj rfl rfl (aq rfl rfl (eC rfl rfl rfl (aq rfl rfl (aR rfl rfl rfl (aq rfl rfl (aj rfl rfl ?_)))))));refine aZ (g:=28) rfl (fun wT=>?_) (fun wT=>?_)
     ·refine aq rfl rfl (aj rfl rfl (aq rfl rfl (eC rfl rfl rfl (aq rfl rfl (aR rfl rfl rfl (aL rfl rfl rfl (al rfl rfl (ae (aW ?_)))))))));exact a8 rfl rfl ⟨by simp only[fK];first|rfl|(congr 1;first|(exact(decide_eq_true (by omega)).symm)|(exact(decide_eq_false (by omega)).symm)|(exact decide_eq_decide.2 (by omega))),rfl⟩
     ·refine aw rfl rfl rfl rfl (aw rfl rfl rfl rfl (aq rfl rfl (aL rfl rfl rfl (aL rfl rfl rfl (al rfl rfl (ae (aW ?_)))))));exact a8 rfl rfl ⟨by simp only[fK];first|rfl|(congr 1;first|(exact(decide_eq_true (by omega)).symm)|(exact(decide_eq_false (by omega)).symm)|(exact decide_eq_decide.2 (by omega))),rfl⟩
    ·refine aw rfl rfl rfl rfl (aw rfl rfl rfl rfl (aq rfl rfl (aL rfl rfl rfl (aq rfl rfl (aj rfl rfl (aw rfl rfl rfl rfl (aw rfl rfl rfl rfl (aq rfl rfl (aL rfl rfl rfl (aL rfl rfl rfl (al rfl rfl ?_)))))))))));refine ae (aW ?_);exact a8 rfl rfl ⟨by simp only[fK];first|rfl|(congr 1;first|(exact(decide_eq_true (by omega)).symm)|(exact(decide_eq_false (by omega)).symm)|(exact decide_eq_decide.2 (by omega))),rfl⟩
   ·refine aw rfl rfl rfl rfl (aw rfl rfl rfl rfl (aq rfl rfl (aL rfl rfl rfl (aq rfl rfl (aj rfl rfl (aw rfl rfl rfl rfl (aw rfl rfl rfl rfl (aq rfl rfl (aL rfl rfl rfl (aq rfl rfl (aj rfl rfl ?_)))))))))));refine aw rfl rfl rfl rfl (aw rfl rfl rfl rfl (aq rfl rfl (aL rfl rfl rfl (aL rfl rfl rfl (al rfl rfl (ae (aW ?_)))))));exact a8 rfl rfl ⟨by simp only[fK];first|rfl|(congr 1;first|(exact(decide_eq_true (by omega)).symm)|(exact(decide_eq_false (by omega)).symm)|(exact decide_eq_decide.2 (by omega))),rfl⟩
theorem D0 (c:Int) (w0:World):
  Spec Tryz.prog 222 #[.int .i64 c] w0 (fun v w=>v= .bool (ot c)∧w=w0):=by
 refine bE (args:=[_]) (fn:=Tryz.f222) Tryz.func222 rfl (n:=9) Tryz.ntmps222 (au (ak (al rfl rfl (ae (au (ak (aj rfl rfl (dI rfl rfl rfl (aj rfl rfl ?_)))))))));refine aZ (g:=5) rfl (fun iR=>?_) (fun iR=>?_)
 ·refine aq rfl rfl (aj rfl rfl (aq rfl rfl (fo rfl rfl rfl (aR rfl rfl rfl (al rfl rfl (ae (aW ?_)))))));exact a8 rfl rfl ⟨by simp only[ot];first|rfl|(congr 1;first|(exact(decide_eq_true (by omega)).symm)|(exact(decide_eq_false (by omega)).symm)|(exact decide_eq_decide.2 (by omega))),rfl⟩
 ·refine aw rfl rfl rfl rfl (aw rfl rfl rfl rfl (aL rfl rfl rfl (al rfl rfl (ae (aW ?_)))));exact a8 rfl rfl ⟨by simp only[ot];first|rfl|(congr 1;first|(exact(decide_eq_true (by omega)).symm)|(exact(decide_eq_false (by omega)).symm)|(exact decide_eq_decide.2 (by omega))),rfl⟩
theorem zA (c:Int) (w0:World) (hc:0≤c∧c≤1114111):
  Spec Tryz.prog 223 #[.int .i64 c] w0 (fun v w=>v= .int .i64 (fM c)∧w=w0):=by
 refine bE (args:=[_]) (fn:=Tryz.f223) Tryz.func223 rfl (n:=24) Tryz.ntmps223 (au (ak (al rfl rfl (ae (au (au (ak (aj rfl rfl (dI rfl rfl rfl (aj rfl rfl ?_))))))))));refine aZ (g:=5) rfl (fun iR=>?_) (fun iR=>?_)
 ·refine aq rfl rfl (aj rfl rfl (aq rfl rfl (fo rfl rfl rfl (aR rfl rfl rfl (aj rfl rfl ?_)))));refine aZ (g:=9) rfl (fun AJ=>?_) (fun AJ=>?_)
  ·refine aw rfl rfl rfl rfl (aw rfl rfl rfl rfl (aw rfl rfl rfl rfl (ca rfl rfl rfl (ca rfl rfl rfl (aw rfl rfl rfl rfl (aw rfl rfl rfl rfl (ca rfl rfl rfl (ca rfl rfl rfl (aw rfl rfl rfl rfl (aR rfl rfl rfl (ae ?_)))))))))));refine gz rfl (au (ak (aj rfl rfl (bQ rfl rfl rfl (by omega) (al rfl rfl (ae (aW ?_)))))));exact a8 rfl rfl ⟨by rw[fM,if_pos (by omega)],rfl⟩
  ·refine aq rfl rfl (aj rfl rfl (aq rfl rfl (dI rfl rfl rfl (aq rfl rfl (aj rfl rfl ?_)))));refine aZ (g:=12) rfl (fun rj=>?_) (fun rj=>?_)
   ·refine aq rfl rfl (aj rfl rfl (aq rfl rfl (fo rfl rfl rfl (aq rfl rfl (aR rfl rfl rfl (aq rfl rfl (aj rfl rfl ?_)))))));refine aZ (g:=16) rfl (fun IN=>?_) (fun IN=>?_)
    ·refine aq rfl rfl (aj rfl rfl (aq rfl rfl (eC rfl rfl rfl (aq rfl rfl (aR rfl rfl rfl (aL rfl rfl rfl (ae ?_)))))));refine bW rfl (fun c1=>?_) (fun c1=>?_)
     ·refine au (ak (aj rfl rfl (bQ rfl rfl rfl (by omega) (al rfl rfl (ae (aW ?_))))));exact a8 rfl rfl ⟨by rw[fM,if_pos (by omega)],rfl⟩
     ·refine bg (au (ak (aj rfl rfl (al rfl rfl (ae (aW ?_))))));exact a8 rfl rfl ⟨by rw[fM,if_neg (by omega)],rfl⟩
    ·refine aw rfl rfl rfl rfl (aw rfl rfl rfl rfl (aq rfl rfl (aL rfl rfl rfl (aL rfl rfl rfl (ae (ir rfl (bg (au (ak (aj rfl rfl (al rfl rfl ?_)))))))))));refine ae (aW ?_);exact a8 rfl rfl ⟨by rw[fM,if_neg (by omega)],rfl⟩
   ·refine aw rfl rfl rfl rfl (aw rfl rfl rfl rfl (aq rfl rfl (aL rfl rfl rfl (aq rfl rfl (aj rfl rfl (aw rfl rfl rfl rfl (aw rfl rfl rfl rfl (aq rfl rfl (aL rfl rfl rfl (aL rfl rfl rfl (ae ?_)))))))))));refine ir rfl (bg (au (ak (aj rfl rfl (al rfl rfl (ae (aW ?_)))))));exact a8 rfl rfl ⟨by rw[fM,if_neg (by omega)],rfl⟩
 ·refine aw rfl rfl rfl rfl (aw rfl rfl rfl rfl (aL rfl rfl rfl (aj rfl rfl (aq rfl rfl (aj rfl rfl (aq rfl rfl (dI rfl rfl rfl (aq rfl rfl (aj rfl rfl ?_)))))))));refine aZ (g:=12) rfl (fun rj=>?_) (fun rj=>?_)
  ·refine aq rfl rfl (aj rfl rfl (aq rfl rfl (fo rfl rfl rfl (aq rfl rfl (aR rfl rfl rfl (aq rfl rfl (aj rfl rfl ?_)))))));refine aZ (g:=16) rfl (fun IN=>?_) (fun IN=>?_)
   ·refine aq rfl rfl (aj rfl rfl (aq rfl rfl (eC rfl rfl rfl (aq rfl rfl (aR rfl rfl rfl (aL rfl rfl rfl (ae ?_)))))));refine bW rfl (fun c1=>?_) (fun c1=>?_)
    ·refine au (ak (aj rfl rfl (bQ rfl rfl rfl (by omega) (al rfl rfl (ae (aW ?_))))));exact a8 rfl rfl ⟨by rw[fM,if_pos (by omega)],rfl⟩
    ·refine bg (au (ak (aj rfl rfl (al rfl rfl (ae (aW ?_))))));exact a8 rfl rfl ⟨by rw[fM,if_neg (by omega)],rfl⟩
   ·refine aw rfl rfl rfl rfl (aw rfl rfl rfl rfl (aq rfl rfl (aL rfl rfl rfl (aL rfl rfl rfl (ae (ir rfl (bg (au (ak (aj rfl rfl (al rfl rfl ?_)))))))))));refine ae (aW ?_);exact a8 rfl rfl ⟨by rw[fM,if_neg (by omega)],rfl⟩
  ·refine aw rfl rfl rfl rfl (aw rfl rfl rfl rfl (aq rfl rfl (aL rfl rfl rfl (aq rfl rfl (aj rfl rfl (aw rfl rfl rfl rfl (aw rfl rfl rfl rfl (aq rfl rfl (aL rfl rfl rfl (aL rfl rfl rfl (ae ?_)))))))))));refine ir rfl (bg (au (ak (aj rfl rfl (al rfl rfl (ae (aW ?_)))))));exact a8 rfl rfl ⟨by rw[fM,if_neg (by omega)],rfl⟩
end Go.K
namespace Go.Proofs
open Go.Shelf
def Tryz.uF:Go.Shelf.Ren:=⟨fun|169=>256|n=>n,fun|70=>307|9=>9|0=>0|72=>309|37=>147|127=>331|3=>3|5=>5|n=>n,fun|n=>n⟩
theorem Tryz.MK:Go.Proofs.Lays.n169 Tryz.prog Tryz.uF:={
 mixed:=by kernel_rfl
 f169:=Tryz.func256.trans (congrArg some (by kernel_rfl))
 t0:=jY
 a0:=vV
 z0:=qR
 v0:=kH
 t3:=aB
 a3:=vW
 z3:=qS
 v3:=kI
 t9:=aM
 a9:=vX
 z9:=qT
 v9:=kJ
 t37:=bz
 a37:=Tryz.isAgg147
 z37:=Tryz.sizeOf147
 v37:=Tryz.zeroValue147
 t70:=Tryz.underlying307
 a70:=Tryz.isAgg307
 z70:=Tryz.sizeOf307
 v70:=Tryz.zeroValue307
 t72:=Tryz.underlying309
 a72:=Tryz.isAgg309
 z72:=Tryz.sizeOf309
 v72:=Tryz.zeroValue309
 t127:=Tryz.underlying331
 a127:=Tryz.isAgg331
 z127:=Tryz.sizeOf331
 v127:=Tryz.zeroValue331}
def Tryz.B5:Go.Shelf.Ren:=⟨fun|119=>277|n=>n,fun|21=>21|4=>4|n=>n,fun|n=>n⟩
theorem Tryz.ML:Go.Proofs.Lays.n119 Tryz.prog Tryz.B5:={
 mixed:=by kernel_rfl
 f119:=Tryz.func277.trans (congrArg some (by kernel_rfl))
 t4:=iD
 a4:=Tryz.isAgg4
 z4:=Tryz.sizeOf4
 v4:=rK
 t21:=Tryz.underlying21
 a21:=Tryz.isAgg21
 z21:=Tryz.sizeOf21
 v21:=Tryz.zeroValue21}
def Tryz.B6:Go.Shelf.Ren:=⟨fun|106=>159|213=>198|265=>235|n=>n,fun|9=>9|3=>3|n=>n,fun|n=>n⟩
theorem Tryz.MM:Go.Proofs.Lays.n106 Tryz.prog Tryz.B6:={
 mixed:=by kernel_rfl
 f106:=Tryz.func159.trans (congrArg some (by kernel_rfl))
 f213:=Tryz.func198.trans (congrArg some (by kernel_rfl))
 f265:=Tryz.func235.trans (congrArg some (by kernel_rfl))
 t3:=aB
 a3:=vW
 z3:=qS
 v3:=kI
 t9:=aM
 a9:=vX
 z9:=qT
 v9:=kJ}
theorem Tryz.rY:Builder.Extra Tryz.prog Tryz.uF:={
 sizeBuilder:=by kernel_rfl
 liesBuilder:=by kernel_rfl
 t5:=cN
 a5:=Tryz.isAgg5
 z5:=Tryz.sizeOf5
 v5:=Tryz.zeroValue5
 infoByte:=by kernel_rfl
 cellsByte:=by kernel_rfl
 sizeByte:=by kernel_rfl
 neB5:=by decide}
def Tryz.uG:Go.Shelf.Ren:=⟨fun|168=>254|240=>275|242=>276|276=>285|278=>286|n=>n,fun|0=>0|3=>3|4=>4|5=>5|9=>9|20=>20|21=>21|37=>147|46=>183|51=>273|70=>307|72=>309|75=>311|80=>315|164=>336|n=>n,fun|n=>n⟩
theorem Tryz.MN:Go.Proofs.Lays.n168 Tryz.prog Tryz.uG:={
 mixed:=by kernel_rfl
 f168:=Tryz.func254.trans (congrArg some (by kernel_rfl))
 f240:=Tryz.func275.trans (congrArg some (by kernel_rfl))
 f242:=Tryz.func276.trans (congrArg some (by kernel_rfl))
 f276:=Tryz.func285.trans (congrArg some (by kernel_rfl))
 f278:=Tryz.func286.trans (congrArg some (by kernel_rfl))
 t0:=jY
 a0:=vV
 z0:=qR
 v0:=kH
 t3:=aB
 a3:=vW
 z3:=qS
 v3:=kI
 t4:=iD
 a4:=Tryz.isAgg4
 z4:=Tryz.sizeOf4
 v4:=rK
 t5:=cN
 a5:=Tryz.isAgg5
 z5:=Tryz.sizeOf5
 v5:=Tryz.zeroValue5
 t9:=aM
 a9:=vX
 z9:=qT
 v9:=kJ
 t20:=Tryz.underlying20
 a20:=Tryz.isAgg20
 z20:=Tryz.sizeOf20
 v20:=Tryz.zeroValue20
 t21:=Tryz.underlying21
 a21:=Tryz.isAgg21
 z21:=Tryz.sizeOf21
 v21:=Tryz.zeroValue21
 t37:=bz
 a37:=Tryz.isAgg147
 z37:=Tryz.sizeOf147
 v37:=Tryz.zeroValue147
 t46:=Tryz.underlying183
 a46:=Tryz.isAgg183
 z46:=Tryz.sizeOf183
 v46:=Tryz.zeroValue183
 t51:=Tryz.underlying273
 a51:=Tryz.isAgg273
 z51:=Tryz.sizeOf273
 v51:=Tryz.zeroValue273
 t70:=Tryz.underlying307
 a70:=Tryz.isAgg307
 z70:=Tryz.sizeOf307
 v70:=Tryz.zeroValue307
 t72:=Tryz.underlying309
 a72:=Tryz.isAgg309
 z72:=Tryz.sizeOf309
 v72:=Tryz.zeroValue309
 t75:=Tryz.underlying311
 a75:=Tryz.isAgg311
 z75:=Tryz.sizeOf311
 v75:=Tryz.zeroValue311
 t164:=Tryz.underlying336
 a164:=Tryz.isAgg336
 z164:=Tryz.sizeOf336
 v164:=Tryz.zeroValue336}
theorem Tryz.rZ:Builder.Extra Tryz.prog Tryz.uG where
 sizeBuilder:=by kernel_rfl
 liesBuilder:=by kernel_rfl
 t5:=cN
 a5:=Tryz.isAgg5
 z5:=Tryz.sizeOf5
 v5:=Tryz.zeroValue5
 infoByte:=by kernel_rfl
 cellsByte:=by kernel_rfl
 sizeByte:=by kernel_rfl
 neB5:=by decide
end Go.Proofs
namespace Go.K
open Go.Proofs
set_option maxRecDepth 10000
open Go.RowKit Go.Shelf
theorem D1 (r:Int) (w:World):Spec Tryz.prog 277 #[.int .i32 r] w (fun v w'=>v= .bool (Lib.validRune r)∧w'=w):=(Any.utf8_ValidRune Tryz.ML r w).mono fun e w' ⟨h1,h2⟩=>⟨_,h1,rfl,h2⟩
theorem GW {B b:Nat} {bs:List Value} {r:Int} (w:World) (hr: -2147483648≤r∧r≤2147483647) (h:Lib.IsBuilderF 309 5 B b bs w) (hl:bs.length+4≤140737488355328) (hB:B≤w.heap.size):
  Spec Tryz.prog 254 #[.pointer (some ⟨b,0,none⟩),.int .i32 r] w (fun v w'=>Lib.IsBuilderF 309 5 B b (bs++Lib.runeCells r) w'∧Below B w w'):=
 (Any.Builder_WriteRune_k Tryz.MN Tryz.rZ B b bs r hr.1 hr.2 w h hl hB).mono fun e w' ⟨h1,h2,h3,_⟩=>⟨_,h1,.inr h2,h3⟩
theorem IP {B b:Nat} {l:List UInt8} (w:World) (h:Lib.IsBuilderF 309 5 B b (Lib.byteCells l) w) (hB:B≤w.heap.size):
  Spec Tryz.prog 256 #[.pointer (some ⟨b,0,none⟩)] w (fun v w'=>v= .string ⟨l.toArray⟩∧Below B w w'):=
 (Any.Builder_String_any_k Tryz.MK Tryz.rY B b l w h hB).mono fun e w' ⟨h1,_,h3,_⟩=>⟨_,h1,rfl,h3⟩
theorem wrap32 {c:Int} (h:0≤c∧c≤1114111):IntKind.i32.wrap c=c:=by
 show(if(true&&decide (c%4294967296≥2147483648))=true then c%4294967296-4294967296 else c%4294967296)=c;rw[if_neg (by simp only[eP,decide_eq_true_eq];omega)];omega
def sc (c:Int):Int:=if c<0∨c>1114111∨Lib.validRune c=false then 65533 else c
theorem FJ (c:Int):0≤sc c∧sc c≤1114111:=by unfold sc;split<;>omega
def kE (l:List Int):List UInt8:=l.flatMap fun c=>Lib.encodeRune (sc c)
theorem me (l:List Int) (c:Int):kE (l++[c])=kE l++Lib.encodeRune (sc c):=by simp[kE]
theorem MO (r:Int):(Lib.encodeRune r).length≤4:=by have:=(Lib.encodeRuneZ_length r).2;simpa[Lib.encodeRune]using this
theorem gm (l:List Int):(kE l).length≤4*l.length:=by
 induction l with
 |nil=>simp[kE]
 |cons c l ih=>
  have:=MO (sc c);simp only[kE,List.flatMap_cons,bP,cK]at ih ⊢;omega
theorem wU (l:List Int) (c:Int):Lib.byteCells (kE l)++Lib.runeCells (sc c)=Lib.byteCells (kE (l++[c])):=by
 rw[me,←Lib.byteCells_encodeRune];simp[Lib.byteCells]
theorem IQ (c:Int) (w0:World):
  Spec Tryz.prog 255 #[.int .i64 c] w0 (fun v w=>v= .int .i32 (sc c)∧w=w0):=by
 refine bE (args:=[_]) (fn:=Tryz.f255) Tryz.func255 rfl (n:=17) Tryz.ntmps255 (au (ak (al rfl rfl (ae (au (au (ak (aj rfl rfl (cu rfl rfl rfl (aj rfl rfl ?_))))))))));refine aZ (g:=5) rfl (fun iR=>?_) (fun iR=>?_)
 ·refine aw rfl rfl rfl rfl (aw rfl rfl rfl rfl (aR rfl rfl rfl (aj rfl rfl (aw rfl rfl rfl rfl (aw rfl rfl rfl rfl (aw rfl rfl rfl rfl (aw rfl rfl rfl rfl (aR rfl rfl rfl (ae (gz rfl (au ?_)))))))))));refine ak (al rfl rfl (ae (aW ?_)));exact a8 rfl rfl ⟨by rw[sc,if_pos (by first|exact .inl (by omega)|exact .inr (.inl (by omega))|exact .inr (.inr (by assumption)))],rfl⟩
 ·refine aq rfl rfl (aj rfl rfl (aq rfl rfl (hY rfl rfl rfl (aL rfl rfl rfl (aj rfl rfl ?_)))));refine aZ (g:=9) rfl (fun AJ=>?_) (fun AJ=>?_)
  ·refine aw rfl rfl rfl rfl (aw rfl rfl rfl rfl (aw rfl rfl rfl rfl (aw rfl rfl rfl rfl (aR rfl rfl rfl (ae (gz rfl (au (ak (al rfl rfl (ae (aW ?_)))))))))));exact a8 rfl rfl ⟨by rw[sc,if_pos (by first|exact .inl (by omega)|exact .inr (.inl (by omega))|exact .inr (.inr (by assumption)))],rfl⟩
  ·refine aq rfl rfl (aj rfl rfl (aq rfl rfl (qU aB Tryz.underlying21 rfl rfl (bO (v':= .int .i32 c) (congrArg (Value.int .i32) (wrap32 (by omega))) (aq rfl rfl ?_)))));refine aS rfl rfl abR (D1 _ _) (fun r wc hc=>?_);obtain⟨rfl,rfl⟩:=hc;refine aq rfl rfl (fP rfl rfl (bO (v':= .bool (decide (Lib.validRune c=false))) (by cases Lib.validRune c<;>rfl) (aL rfl rfl rfl (ae ?_))));refine bW rfl (fun c1=>?_) (fun c1=>?_)
   ·refine au (ak (al rfl rfl (ae (aW ?_))));exact a8 rfl rfl ⟨by rw[sc,if_pos (by first|exact .inl (by omega)|exact .inr (.inl (by omega))|exact .inr (.inr (by assumption)))],rfl⟩
   ·refine bg (au (ak (aj rfl rfl (qU aB Tryz.underlying21 rfl rfl (bO (v':= .int .i32 c) (congrArg (Value.int .i32) (wrap32 (by omega))) (al rfl rfl (ae (aW ?_))))))));exact a8 rfl rfl ⟨by rw[sc,if_neg (by rintro(h|h|h)<;>first|omega|exact absurd h (by assumption))],rfl⟩
theorem GX {M:aU} {xs:List Int} {v0:Value} (w0:World) (hM:Lt M w0) (hv:((RT.int .i64).sl).V M w0 xs v0) (hl:xs.length≤1000000):
  Spec Tryz.prog 224 #[v0] w0 (fun v w=>v= .string ⟨(kE xs).toArray⟩∧Step M w0 M w aN):=by
 refine bE (args:=[_]) (fn:=Tryz.f224) Tryz.func224 rfl (n:=17) Tryz.ntmps224 (au (ak (al rfl rfl (ae (au (ak ?_))))));refine eu M abe rfl (fun b w1 p1 q1 g1 s1=>?_);have BC:Lib.IsBuilderF 309 5 w0.heap.size b (Lib.byteCells (kE (xs.take 0))) w1:= .of (.inl ⟨p1,.slice none 0 0,g1,World.ownsRow_nil _ _ _ _,by simp[Value.ownBlock]⟩);have S1:Below w0.heap.size w0 w1:=s1.below;refine ae (au (au (ak (aj rfl rfl (bF ay rfl hv rfl (aj rfl rfl (ae (bu ?_))))))));refine de (σ:=Nat) (fun k=>[(3,.pointer (some ⟨b,0,none⟩)),(6,v0),(7,.int .i64 (xs.length:Int)),(8,.int .i64 (k:Int))]) (fun k w=>Lib.IsBuilderF 309 5 w0.heap.size b (Lib.byteCells (kE (xs.take k))) w∧Below w0.heap.size w0 w∧k≤xs.length) (fun k=>xs.length-k) 0 (.cons rfl (.cons rfl (.cons rfl (.cons rfl .nil)))) ?_ ?_
 ·exact⟨BC,S1,bM _⟩
 ·rintro k w ⟨hb,S,hk⟩;refine au (ak (cu rfl rfl rfl (ae (au ?_))));refine bW rfl (fun c3=>?_) (fun c3=>?_)
  ·refine bg (au (bu (au (ak ?_))));refine bS (M:=M) ay I3 rfl rfl rfl hv (Step.wM S M).le (by omega) (fun u4 c BD iM=>?_);refine bK (M:=M) aB rfl rfl iM (ar _ _) (fun in4=>?_);refine al rfl rfl (ae (ak (aj rfl rfl ?_)));refine aS rfl rfl abP (IQ c _) (fun r wc hc=>?_);obtain⟨rfl,rfl⟩:=hc;refine aS rfl rfl abO (GW _ (by have:=FJ c;omega) hb (by rw[Lib.byteCells_length];have:=gm (xs.take k);rw[bU]at this;omega) S.size) (fun r5 w5 hc=>?_);obtain⟨Ow,S5⟩:=hc;have tk:xs.take (k+1)=xs.take k++[c]:=by rw[bX];simp only[aK]at BD;rw[BD];rfl
   rw[wU,←tk]at Ow;have S6:=S.trans S5;refine ae (ak (bQ rfl rfl rfl (by omega) (aj rfl rfl (ae ?_))));refine⟨rfl,k+1,(.cons rfl (.cons rfl (.cons rfl (.cons rfl .nil)))),?_,?_⟩
   ·exact⟨Ow,S6,by omega⟩
   ·omega
  ·refine cP (au (ak ?_));refine aS rfl rfl abQ (IP _ hb S.size) (fun r7 w7 hc=>?_);obtain⟨rfl,S7⟩:=hc;refine al rfl rfl (ae (aW ?_));have e:xs.take k=xs:=bm (by omega);rw[e];exact a8 rfl rfl ⟨rfl,Step.wM (S.trans S7) M⟩
end Go.K
namespace Go.K
def nO (c:Int):Int:=if 194≤c∧c<224 then 2 else if 224≤c∧c<240 then 3 else if 240≤c∧c<245 then 4 else 0
def gU (c:Int):Int:=if 194≤c∧c<224 then 128 else if 224≤c∧c<240 then 2048 else if 240≤c∧c<245 then 65536 else 0
def tN (c:Int):Int:=if 194≤c∧c<224 then c-192 else if 224≤c∧c<240 then c-224 else if 240≤c∧c<245 then c-240 else 0
def vO (l:List UInt8):Nat→Int
 |0=>tN (kd l 0)
 |k+1=>64*vO l k+kd l (k+1)-128
theorem gJ {l:List UInt8} {k:Nat}:j7 l k=true↔k<l.length∧128≤kd l k∧kd l k<192:=by
 unfold j7;simp only[bZ,decide_eq_true_eq,beq_iff_eq];omega
theorem zB {n:Nat}:Utf8.valid (n:Int)=true↔(n<55296∨(57344≤n∧n≤1114111)):=by
 simp only[Utf8.valid,Bool.or_eq_true,bZ,decide_eq_true_eq];omega
theorem Vb {l:List UInt8} (h:(kd l 0:Int)<128):dec l=(kd l 0,1):=by
 unfold dec B3;rw[if_pos (by omega)]
theorem FK {l:List UInt8} (h0:128≤(kd l 0:Int)) (h:nO (kd l 0)=0∨∃k:Nat,1≤k∧(k:Int)<nO (kd l 0)∧j7 l k=false):dec l=(65533,1):=by
 have hb:=oh l 0;unfold dec B3;rw[if_neg (by omega)]
 have hk:nO (kd l 0)=0∨(2≤nO (kd l 0)∧j7 l 1=false)∨(3≤nO (kd l 0)∧j7 l 2=false)∨(4≤nO (kd l 0)∧j7 l 3=false):=by
  rcases h with h|⟨k,h1,h2,h3⟩
  ·exact .inl h
  ·have:nO (kd l 0)≤4:=by
    unfold nO
    split
    ·omega
    ·split
     ·omega
     ·split<;>omega
   have hk:k=1∨k=2∨k=3:=by omega
   rcases hk with rfl|rfl|rfl
   ·exact .inr (.inl ⟨by omega,h3⟩)
   ·exact .inr (.inr (.inl ⟨by omega,h3⟩))
   ·exact .inr (.inr (.inr ⟨by omega,h3⟩))
 simp only[beq_iff_eq,bZ,decide_eq_true_eq,ge_iff_le,zB];have hn:nO (kd l 0)=if 194≤(kd l 0:Int)∧(kd l 0:Int)<224 then 2 else if 224≤(kd l 0:Int)∧(kd l 0:Int)<240 then 3 else if 240≤(kd l 0:Int)∧(kd l 0:Int)<245 then 4 else 0:=rfl
 rw[hn]at hk
 split
 ·rename_i hc
  obtain⟨Z5,L4⟩:=hc
  split
  ·rename_i hv
   exfalso;by_cases akV:194≤(kd l 0:Int)
   ·rw[if_pos (by omega)]at hk;rcases hk with hk|⟨_,hk⟩|⟨hk,_⟩|⟨hk,_⟩
    ·omega
    ·rw[hk]at L4;cases L4
    ·omega
    ·omega
   ·omega
  ·rfl
 ·split
  ·rename_i hc
   obtain⟨⟨Z5,L4⟩,Vc⟩:=hc
   split
   ·exfalso;rw[if_neg (by omega),if_pos (by omega)]at hk;rcases hk with hk|⟨_,hk⟩|⟨_,hk⟩|⟨hk,_⟩
    ·omega
    ·rw[hk]at L4;cases L4
    ·rw[hk]at Vc;cases Vc
    ·omega
   ·rfl
  ·split
   ·rename_i hc
    obtain⟨⟨⟨Z5,L4⟩,Vc⟩,hc4⟩:=hc
    split
    ·rename_i hv
     exfalso;by_cases akW:(kd l 0:Int)<245
     ·rw[if_neg (by omega),if_neg (by omega),if_pos (by omega)]at hk;rcases hk with hk|⟨_,hk⟩|⟨_,hk⟩|⟨_,hk⟩
      ·omega
      ·rw[hk]at L4;cases L4
      ·rw[hk]at Vc;cases Vc
      ·rw[hk]at hc4;cases hc4
     ·omega
    ·rfl
   ·rfl
theorem nE {c:Int} (h:nO c≠0):(nO c=2∧gU c=128∧tN c=c-192∧194≤c∧c<224)∨(nO c=3∧gU c=2048∧tN c=c-224∧224≤c∧c<240)∨(nO c=4∧gU c=65536∧tN c=c-240∧240≤c∧c<245):=by
 by_cases h1:194≤c∧c<224
 ·exact .inl ⟨if_pos h1,if_pos h1,if_pos h1,h1.1,h1.2⟩
 ·by_cases h2:224≤c∧c<240
  ·exact .inr (.inl ⟨(if_neg h1).trans (if_pos h2),(if_neg h1).trans (if_pos h2),(if_neg h1).trans (if_pos h2),h2.1,h2.2⟩)
  ·by_cases h3:240≤c∧c<245
   ·exact .inr (.inr ⟨(if_neg h1).trans ((if_neg h2).trans (if_pos h3)),(if_neg h1).trans ((if_neg h2).trans (if_pos h3)),(if_neg h1).trans ((if_neg h2).trans (if_pos h3)),h3.1,h3.2⟩)
   ·exact absurd ((if_neg h1).trans ((if_neg h2).trans (if_neg h3))) h
theorem B7 {l:List UInt8} (hn:nO (kd l 0)≠0) (hc:∀k:Nat,1≤k→(k:Int)<nO (kd l 0)→j7 l k=true) (v:Int) (hv:v=vO l (nO (kd l 0)-1).toNat):
  dec l=if v<gU (kd l 0)∨v>1114111∨(55296≤v∧v≤57343)then(65533,1)else(v.toNat,(nO (kd l 0)).toNat):=by
 have hb:=oh l 0;have b1:=oh l 1;have b2:=oh l 2;have b3:=oh l 3;unfold dec B3;simp only[beq_iff_eq,bZ,decide_eq_true_eq,ge_iff_le,zB];rcases nE hn with⟨e1,e2,e3,e4,e5⟩|⟨e1,e2,e3,e4,e5⟩|⟨e1,e2,e3,e4,e5⟩
 ·have c1:=hc 1 (by omega) (by omega);have d1:=gJ.1 c1;rw[e1]at hv;have kB:v=64*((kd l 0:Int)-192)+kd l 1-128:=by rw[hv];show 64*tN (kd l 0)+_-_=_;rw[e3]
  rw[if_neg (by omega),if_pos ⟨by omega,c1⟩,e2,e1];by_cases hx:v<128∨v>1114111∨(55296≤v∧v≤57343)
  ·rw[if_pos hx,if_neg (by omega)]
  ·rw[if_neg hx,if_pos (by omega)];simp only[Prod.mk.injEq];omega
 ·have c1:=hc 1 (by omega) (by omega);have c2:=hc 2 (by omega) (by omega);have d1:=gJ.1 c1;have d2:=gJ.1 c2;rw[e1]at hv;have kB:v=64*(64*((kd l 0:Int)-224)+kd l 1-128)+kd l 2-128:=by rw[hv];show 64*(64*tN (kd l 0)+_-_)+_-_=_;rw[e3]
  rw[if_neg (by omega),if_neg (by omega),if_pos ⟨⟨by omega,c1⟩,c2⟩,e2,e1];by_cases hx:v<2048∨v>1114111∨(55296≤v∧v≤57343)
  ·rw[if_pos hx,if_neg (by omega)]
  ·rw[if_neg hx,if_pos (by omega)];simp only[Prod.mk.injEq];omega
 ·have c1:=hc 1 (by omega) (by omega);have c2:=hc 2 (by omega) (by omega);have c3:=hc 3 (by omega) (by omega);have d1:=gJ.1 c1;have d2:=gJ.1 c2;have d3:=gJ.1 c3;rw[e1]at hv;have kB:v=64*(64*(64*((kd l 0:Int)-240)+kd l 1-128)+kd l 2-128)+kd l 3-128:=by rw[hv];show 64*(64*(64*tN (kd l 0)+_-_)+_-_)+_-_=_;rw[e3]
  rw[if_neg (by omega),if_neg (by omega),if_neg (by omega),if_pos ⟨⟨⟨by omega,c1⟩,c2⟩,c3⟩,e2,e1];by_cases hx:v<65536∨v>1114111∨(55296≤v∧v≤57343)
  ·rw[if_pos hx,if_neg (by omega)]
  ·rw[if_neg hx,if_pos (by omega)];simp only[Prod.mk.injEq];omega
end Go.K
namespace Go.K
open Go.Proofs
set_option maxRecDepth 10000
theorem AK (c:Int) (w0:World):
  Spec Tryz.prog 253 #[.int .i64 c] w0 (fun v w=>v= .bool (fK c)∧w=w0):=by
 refine bE (args:=[_]) (fn:=Tryz.f253) Tryz.func253 rfl (n:=31) Tryz.ntmps253 (au (ak (al rfl rfl (ae (au (au (ak (aj rfl rfl (dI rfl rfl rfl (aj rfl rfl ?_))))))))));refine aZ (g:=5) rfl (fun iR=>?_) (fun iR=>?_)
 ·refine aq rfl rfl (aj rfl rfl (aq rfl rfl (fo rfl rfl rfl (aR rfl rfl rfl (aj rfl rfl ?_)))));refine aZ (g:=9) rfl (fun AJ=>?_) (fun AJ=>?_)
  ·refine aw rfl rfl rfl rfl (aw rfl rfl rfl rfl (aw rfl rfl rfl rfl (ca rfl rfl rfl (ca rfl rfl rfl (aw rfl rfl rfl rfl (aR rfl rfl rfl (ae (gz rfl (au (ak (al rfl rfl ?_)))))))))));refine ae (aW ?_);exact a8 rfl rfl ⟨by simp only[fK];first|rfl|(congr 1;first|(exact(decide_eq_true (by omega)).symm)|(exact(decide_eq_false (by omega)).symm)|(exact decide_eq_decide.2 (by omega))),rfl⟩
  ·refine aq rfl rfl (aj rfl rfl (aq rfl rfl (dI rfl rfl rfl (aq rfl rfl (aj rfl rfl ?_)))));refine aZ (g:=12) rfl (fun rj=>?_) (fun rj=>?_)
   ·refine aq rfl rfl (aj rfl rfl (aq rfl rfl (fo rfl rfl rfl (aq rfl rfl (aR rfl rfl rfl (aL rfl rfl rfl (ae ?_)))))));refine bW rfl (fun c1=>?_) (fun c1=>?_)
    ·refine au (ak (al rfl rfl (ae (aW ?_))));exact a8 rfl rfl ⟨by simp only[fK];first|rfl|(congr 1;first|(exact(decide_eq_true (by omega)).symm)|(exact(decide_eq_false (by omega)).symm)|(exact decide_eq_decide.2 (by omega))),rfl⟩
    ·refine bg (au (ak (aj rfl rfl (dI rfl rfl rfl (aj rfl rfl ?_)))));refine aZ (g:=19) rfl (fun D2=>?_) (fun D2=>?_)
     ·refine aq rfl rfl (aj rfl rfl (aq rfl rfl (fo rfl rfl rfl (aR rfl rfl rfl (aj rfl rfl ?_)))));refine aZ (g:=23) rfl (fun yP=>?_) (fun yP=>?_)
      ·refine aq rfl rfl (aj rfl rfl (aq rfl rfl (eC rfl rfl rfl (aR rfl rfl rfl (aj rfl rfl ?_)))));refine aZ (g:=27) rfl (fun wV=>?_) (fun wV=>?_)
       ·refine aq rfl rfl (aj rfl rfl (aq rfl rfl (eC rfl rfl rfl (aR rfl rfl rfl (al rfl rfl (ae (aW ?_)))))));exact a8 rfl rfl ⟨by simp only[fK];first|rfl|(congr 1;first|(exact(decide_eq_true (by omega)).symm)|(exact(decide_eq_false (by omega)).symm)|(exact decide_eq_decide.2 (by omega))),rfl⟩
       ·refine aw rfl rfl rfl rfl (aw rfl rfl rfl rfl (aL rfl rfl rfl (al rfl rfl (ae (aW ?_)))));exact a8 rfl rfl ⟨by simp only[fK];first|rfl|(congr 1;first|(exact(decide_eq_true (by omega)).symm)|(exact(decide_eq_false (by omega)).symm)|(exact decide_eq_decide.2 (by omega))),rfl⟩
      ·refine aw rfl rfl rfl rfl (aw rfl rfl rfl rfl (aL rfl rfl rfl (aj rfl rfl (aw rfl rfl rfl rfl (aw rfl rfl rfl rfl (aL rfl rfl rfl (al rfl rfl (ae (aW ?_)))))))));exact a8 rfl rfl ⟨by simp only[fK];first|rfl|(congr 1;first|(exact(decide_eq_true (by omega)).symm)|(exact(decide_eq_false (by omega)).symm)|(exact decide_eq_decide.2 (by omega))),rfl⟩
     ·refine aw rfl rfl rfl rfl (aw rfl rfl rfl rfl (aL rfl rfl rfl (aj rfl rfl (aw rfl rfl rfl rfl (aw rfl rfl rfl rfl (aL rfl rfl rfl (aj rfl rfl (aw rfl rfl rfl rfl (aw rfl rfl rfl rfl (aL rfl rfl rfl (al rfl rfl ?_)))))))))));refine ae (aW ?_);exact a8 rfl rfl ⟨by simp only[fK];first|rfl|(congr 1;first|(exact(decide_eq_true (by omega)).symm)|(exact(decide_eq_false (by omega)).symm)|(exact decide_eq_decide.2 (by omega))),rfl⟩
   ·refine aw rfl rfl rfl rfl (aw rfl rfl rfl rfl (aq rfl rfl (aL rfl rfl rfl (aL rfl rfl rfl (ae (ir rfl (bg (au (ak (aj rfl rfl (dI rfl rfl rfl ?_)))))))))));refine aj rfl rfl ?_;refine aZ (g:=19) rfl (fun D2=>?_) (fun D2=>?_)
    ·refine aq rfl rfl (aj rfl rfl (aq rfl rfl (fo rfl rfl rfl (aR rfl rfl rfl (aj rfl rfl ?_)))));refine aZ (g:=23) rfl (fun yP=>?_) (fun yP=>?_)
     ·refine aq rfl rfl (aj rfl rfl (aq rfl rfl (eC rfl rfl rfl (aR rfl rfl rfl (aj rfl rfl ?_)))));refine aZ (g:=27) rfl (fun wV=>?_) (fun wV=>?_)
      ·refine aq rfl rfl (aj rfl rfl (aq rfl rfl (eC rfl rfl rfl (aR rfl rfl rfl (al rfl rfl (ae (aW ?_)))))));exact a8 rfl rfl ⟨by simp only[fK];first|rfl|(congr 1;first|(exact(decide_eq_true (by omega)).symm)|(exact(decide_eq_false (by omega)).symm)|(exact decide_eq_decide.2 (by omega))),rfl⟩
      ·refine aw rfl rfl rfl rfl (aw rfl rfl rfl rfl (aL rfl rfl rfl (al rfl rfl (ae (aW ?_)))));exact a8 rfl rfl ⟨by simp only[fK];first|rfl|(congr 1;first|(exact(decide_eq_true (by omega)).symm)|(exact(decide_eq_false (by omega)).symm)|(exact decide_eq_decide.2 (by omega))),rfl⟩
     ·refine aw rfl rfl rfl rfl (aw rfl rfl rfl rfl (aL rfl rfl rfl (aj rfl rfl (aw rfl rfl rfl rfl (aw rfl rfl rfl rfl (aL rfl rfl rfl (al rfl rfl (ae (aW ?_)))))))));exact a8 rfl rfl ⟨by simp only[fK];first|rfl|(congr 1;first|(exact(decide_eq_true (by omega)).symm)|(exact(decide_eq_false (by omega)).symm)|(exact decide_eq_decide.2 (by omega))),rfl⟩
    ·refine aw rfl rfl rfl rfl (aw rfl rfl rfl rfl (aL rfl rfl rfl (aj rfl rfl (aw rfl rfl rfl rfl (aw rfl rfl rfl rfl (aL rfl rfl rfl (aj rfl rfl (aw rfl rfl rfl rfl (aw rfl rfl rfl rfl (aL rfl rfl rfl (al rfl rfl ?_)))))))))));refine ae (aW ?_);exact a8 rfl rfl ⟨by simp only[fK];first|rfl|(congr 1;first|(exact(decide_eq_true (by omega)).symm)|(exact(decide_eq_false (by omega)).symm)|(exact decide_eq_decide.2 (by omega))),rfl⟩
 ·refine aw rfl rfl rfl rfl (aw rfl rfl rfl rfl (aL rfl rfl rfl (aj rfl rfl (aq rfl rfl (aj rfl rfl (aq rfl rfl (dI rfl rfl rfl (aq rfl rfl (aj rfl rfl ?_)))))))));refine aZ (g:=12) rfl (fun rj=>?_) (fun rj=>?_)
  ·refine aq rfl rfl (aj rfl rfl (aq rfl rfl (fo rfl rfl rfl (aq rfl rfl (aR rfl rfl rfl (aL rfl rfl rfl (ae ?_)))))));refine bW rfl (fun c1=>?_) (fun c1=>?_)
   ·refine au (ak (al rfl rfl (ae (aW ?_))));exact a8 rfl rfl ⟨by simp only[fK];first|rfl|(congr 1;first|(exact(decide_eq_true (by omega)).symm)|(exact(decide_eq_false (by omega)).symm)|(exact decide_eq_decide.2 (by omega))),rfl⟩
   ·refine bg (au (ak (aj rfl rfl (dI rfl rfl rfl (aj rfl rfl ?_)))));refine aZ (g:=19) rfl (fun D2=>?_) (fun D2=>?_)
    ·refine aq rfl rfl (aj rfl rfl (aq rfl rfl (fo rfl rfl rfl (aR rfl rfl rfl (aj rfl rfl ?_)))));refine aZ (g:=23) rfl (fun yP=>?_) (fun yP=>?_)
     ·refine aq rfl rfl (aj rfl rfl (aq rfl rfl (eC rfl rfl rfl (aR rfl rfl rfl (aj rfl rfl ?_)))));refine aZ (g:=27) rfl (fun wV=>?_) (fun wV=>?_)
      ·refine aq rfl rfl (aj rfl rfl (aq rfl rfl (eC rfl rfl rfl (aR rfl rfl rfl (al rfl rfl (ae (aW ?_)))))));exact a8 rfl rfl ⟨by simp only[fK];first|rfl|(congr 1;first|(exact(decide_eq_true (by omega)).symm)|(exact(decide_eq_false (by omega)).symm)|(exact decide_eq_decide.2 (by omega))),rfl⟩
      ·refine aw rfl rfl rfl rfl (aw rfl rfl rfl rfl (aL rfl rfl rfl (al rfl rfl (ae (aW ?_)))));exact a8 rfl rfl ⟨by simp only[fK];first|rfl|(congr 1;first|(exact(decide_eq_true (by omega)).symm)|(exact(decide_eq_false (by omega)).symm)|(exact decide_eq_decide.2 (by omega))),rfl⟩
     ·refine aw rfl rfl rfl rfl (aw rfl rfl rfl rfl (aL rfl rfl rfl (aj rfl rfl (aw rfl rfl rfl rfl (aw rfl rfl rfl rfl (aL rfl rfl rfl (al rfl rfl (ae (aW ?_)))))))));exact a8 rfl rfl ⟨by simp only[fK];first|rfl|(congr 1;first|(exact(decide_eq_true (by omega)).symm)|(exact(decide_eq_false (by omega)).symm)|(exact decide_eq_decide.2 (by omega))),rfl⟩
    ·refine aw rfl rfl rfl rfl (aw rfl rfl rfl rfl (aL rfl rfl rfl (aj rfl rfl (aw rfl rfl rfl rfl (aw rfl rfl rfl rfl (aL rfl rfl rfl (aj rfl rfl (aw rfl rfl rfl rfl (aw rfl rfl rfl rfl (aL rfl rfl rfl (al rfl rfl ?_)))))))))));refine ae (aW ?_);exact a8 rfl rfl ⟨by simp only[fK];first|rfl|(congr 1;first|(exact(decide_eq_true (by omega)).symm)|(exact(decide_eq_false (by omega)).symm)|(exact decide_eq_decide.2 (by omega))),rfl⟩
  ·refine aw rfl rfl rfl rfl (aw rfl rfl rfl rfl (aq rfl rfl (aL rfl rfl rfl (aL rfl rfl rfl (ae (ir rfl (bg (au (ak (aj rfl rfl (dI rfl rfl rfl ?_)))))))))));refine aj rfl rfl ?_;refine aZ (g:=19) rfl (fun D2=>?_) (fun D2=>?_)
   ·refine aq rfl rfl (aj rfl rfl (aq rfl rfl (fo rfl rfl rfl (aR rfl rfl rfl (aj rfl rfl ?_)))));refine aZ (g:=23) rfl (fun yP=>?_) (fun yP=>?_)
    ·refine aq rfl rfl (aj rfl rfl (aq rfl rfl (eC rfl rfl rfl (aR rfl rfl rfl (aj rfl rfl ?_)))));refine aZ (g:=27) rfl (fun wV=>?_) (fun wV=>?_)
     ·refine aq rfl rfl (aj rfl rfl (aq rfl rfl (eC rfl rfl rfl (aR rfl rfl rfl (al rfl rfl (ae (aW ?_)))))));exact a8 rfl rfl ⟨by simp only[fK];first|rfl|(congr 1;first|(exact(decide_eq_true (by omega)).symm)|(exact(decide_eq_false (by omega)).symm)|(exact decide_eq_decide.2 (by omega))),rfl⟩
     ·refine aw rfl rfl rfl rfl (aw rfl rfl rfl rfl (aL rfl rfl rfl (al rfl rfl (ae (aW ?_)))));exact a8 rfl rfl ⟨by simp only[fK];first|rfl|(congr 1;first|(exact(decide_eq_true (by omega)).symm)|(exact(decide_eq_false (by omega)).symm)|(exact decide_eq_decide.2 (by omega))),rfl⟩
    ·refine aw rfl rfl rfl rfl (aw rfl rfl rfl rfl (aL rfl rfl rfl (aj rfl rfl (aw rfl rfl rfl rfl (aw rfl rfl rfl rfl (aL rfl rfl rfl (al rfl rfl (ae (aW ?_)))))))));exact a8 rfl rfl ⟨by simp only[fK];first|rfl|(congr 1;first|(exact(decide_eq_true (by omega)).symm)|(exact(decide_eq_false (by omega)).symm)|(exact decide_eq_decide.2 (by omega))),rfl⟩
   ·refine aw rfl rfl rfl rfl (aw rfl rfl rfl rfl (aL rfl rfl rfl (aj rfl rfl (aw rfl rfl rfl rfl (aw rfl rfl rfl rfl (aL rfl rfl rfl (aj rfl rfl (aw rfl rfl rfl rfl (aw rfl rfl rfl rfl (aL rfl rfl rfl (al rfl rfl ?_)))))))))));refine ae (aW ?_);exact a8 rfl rfl ⟨by simp only[fK];first|rfl|(congr 1;first|(exact(decide_eq_true (by omega)).symm)|(exact(decide_eq_false (by omega)).symm)|(exact decide_eq_decide.2 (by omega))),rfl⟩
theorem D3 (c:Int) (w0:World) (hc:0≤c∧c≤1114111):
  Spec Tryz.prog 218 #[.int .i64 c] w0 (fun v w=>v= .int .i64 (fM c)∧w=w0):=by
 refine bE (args:=[_]) (fn:=Tryz.f218) Tryz.func218 rfl (n:=28) Tryz.ntmps218 (au (ak (al rfl rfl (ae (au (au (ak (aj rfl rfl (dI rfl rfl rfl (aj rfl rfl ?_))))))))));refine aZ (g:=5) rfl (fun iR=>?_) (fun iR=>?_)
 ·refine aq rfl rfl (aj rfl rfl (aq rfl rfl (fo rfl rfl rfl (aR rfl rfl rfl (aj rfl rfl ?_)))));refine aZ (g:=9) rfl (fun AJ=>?_) (fun AJ=>?_)
  ·refine aw rfl rfl rfl rfl (aw rfl rfl rfl rfl (aw rfl rfl rfl rfl (ca rfl rfl rfl (ca rfl rfl rfl (aw rfl rfl rfl rfl (aR rfl rfl rfl (aj rfl rfl (aw rfl rfl rfl rfl (aw rfl rfl rfl rfl (aw rfl rfl rfl rfl (ca rfl rfl rfl ?_)))))))))));refine ca rfl rfl rfl (aw rfl rfl rfl rfl (aR rfl rfl rfl (ae (gz rfl (au (ak (aj rfl rfl (bQ rfl rfl rfl (by omega) (al rfl rfl (ae (aW ?_)))))))))));exact a8 rfl rfl ⟨by rw[fM,if_pos (by omega)],rfl⟩
  ·refine aq rfl rfl (aj rfl rfl (aq rfl rfl (dI rfl rfl rfl (aq rfl rfl (aj rfl rfl ?_)))));refine aZ (g:=12) rfl (fun rj=>?_) (fun rj=>?_)
   ·refine aq rfl rfl (aj rfl rfl (aq rfl rfl (fo rfl rfl rfl (aq rfl rfl (aR rfl rfl rfl (aL rfl rfl rfl (aj rfl rfl ?_)))))));refine aZ (g:=17) rfl (fun wO=>?_) (fun wO=>?_)
    ·refine aw rfl rfl rfl rfl (aw rfl rfl rfl rfl (aw rfl rfl rfl rfl (ca rfl rfl rfl (ca rfl rfl rfl (aw rfl rfl rfl rfl (aR rfl rfl rfl (ae (gz rfl (au (ak (aj rfl rfl ?_)))))))))));refine bQ rfl rfl rfl (by omega) (al rfl rfl (ae (aW ?_)));exact a8 rfl rfl ⟨by rw[fM,if_pos (by omega)],rfl⟩
    ·refine aq rfl rfl (aj rfl rfl (aq rfl rfl (dI rfl rfl rfl (aq rfl rfl (aj rfl rfl ?_)))));refine aZ (g:=20) rfl (fun mc=>?_) (fun mc=>?_)
     ·refine aq rfl rfl (aj rfl rfl (aq rfl rfl (fo rfl rfl rfl (aq rfl rfl (aR rfl rfl rfl (aL rfl rfl rfl (ae ?_)))))));refine bW rfl (fun c1=>?_) (fun c1=>?_)
      ·refine au (ak (aj rfl rfl (bQ rfl rfl rfl (by omega) (al rfl rfl (ae (aW ?_))))));exact a8 rfl rfl ⟨by rw[fM,if_pos (by omega)],rfl⟩
      ·refine bg (au (ak (aj rfl rfl (al rfl rfl (ae (aW ?_))))));exact a8 rfl rfl ⟨by rw[fM,if_neg (by omega)],rfl⟩
     ·refine aw rfl rfl rfl rfl (aw rfl rfl rfl rfl (aq rfl rfl (aL rfl rfl rfl (aL rfl rfl rfl (ae (ir rfl (bg (au (ak (aj rfl rfl (al rfl rfl ?_)))))))))));refine ae (aW ?_);exact a8 rfl rfl ⟨by rw[fM,if_neg (by omega)],rfl⟩
   ·refine aw rfl rfl rfl rfl (aw rfl rfl rfl rfl (aq rfl rfl (aL rfl rfl rfl (aL rfl rfl rfl (aj rfl rfl (aq rfl rfl (aj rfl rfl (aq rfl rfl (dI rfl rfl rfl (aq rfl rfl (aj rfl rfl ?_)))))))))));refine aZ (g:=20) rfl (fun mc=>?_) (fun mc=>?_)
    ·refine aq rfl rfl (aj rfl rfl (aq rfl rfl (fo rfl rfl rfl (aq rfl rfl (aR rfl rfl rfl (aL rfl rfl rfl (ae ?_)))))));refine bW rfl (fun c1=>?_) (fun c1=>?_)
     ·refine au (ak (aj rfl rfl (bQ rfl rfl rfl (by omega) (al rfl rfl (ae (aW ?_))))));exact a8 rfl rfl ⟨by rw[fM,if_pos (by omega)],rfl⟩
     ·refine bg (au (ak (aj rfl rfl (al rfl rfl (ae (aW ?_))))));exact a8 rfl rfl ⟨by rw[fM,if_neg (by omega)],rfl⟩
    ·refine aw rfl rfl rfl rfl (aw rfl rfl rfl rfl (aq rfl rfl (aL rfl rfl rfl (aL rfl rfl rfl (ae (ir rfl (bg (au (ak (aj rfl rfl (al rfl rfl ?_)))))))))));refine ae (aW ?_);exact a8 rfl rfl ⟨by rw[fM,if_neg (by omega)],rfl⟩
 ·refine aw rfl rfl rfl rfl (aw rfl rfl rfl rfl (aL rfl rfl rfl (aj rfl rfl (aq rfl rfl (aj rfl rfl (aq rfl rfl (dI rfl rfl rfl (aq rfl rfl (aj rfl rfl ?_)))))))));refine aZ (g:=12) rfl (fun rj=>?_) (fun rj=>?_)
  ·refine aq rfl rfl (aj rfl rfl (aq rfl rfl (fo rfl rfl rfl (aq rfl rfl (aR rfl rfl rfl (aL rfl rfl rfl (aj rfl rfl ?_)))))));refine aZ (g:=17) rfl (fun wO=>?_) (fun wO=>?_)
   ·refine aw rfl rfl rfl rfl (aw rfl rfl rfl rfl (aw rfl rfl rfl rfl (ca rfl rfl rfl (ca rfl rfl rfl (aw rfl rfl rfl rfl (aR rfl rfl rfl (ae (gz rfl (au (ak (aj rfl rfl ?_)))))))))));refine bQ rfl rfl rfl (by omega) (al rfl rfl (ae (aW ?_)));exact a8 rfl rfl ⟨by rw[fM,if_pos (by omega)],rfl⟩
   ·refine aq rfl rfl (aj rfl rfl (aq rfl rfl (dI rfl rfl rfl (aq rfl rfl (aj rfl rfl ?_)))));refine aZ (g:=20) rfl (fun mc=>?_) (fun mc=>?_)
    ·refine aq rfl rfl (aj rfl rfl (aq rfl rfl (fo rfl rfl rfl (aq rfl rfl (aR rfl rfl rfl (aL rfl rfl rfl (ae ?_)))))));refine bW rfl (fun c1=>?_) (fun c1=>?_)
     ·refine au (ak (aj rfl rfl (bQ rfl rfl rfl (by omega) (al rfl rfl (ae (aW ?_))))));exact a8 rfl rfl ⟨by rw[fM,if_pos (by omega)],rfl⟩
     ·refine bg (au (ak (aj rfl rfl (al rfl rfl (ae (aW ?_))))));exact a8 rfl rfl ⟨by rw[fM,if_neg (by omega)],rfl⟩
    ·refine aw rfl rfl rfl rfl (aw rfl rfl rfl rfl (aq rfl rfl (aL rfl rfl rfl (aL rfl rfl rfl (ae (ir rfl (bg (au (ak (aj rfl rfl (al rfl rfl ?_)))))))))));refine ae (aW ?_);exact a8 rfl rfl ⟨by rw[fM,if_neg (by omega)],rfl⟩
  ·refine aw rfl rfl rfl rfl (aw rfl rfl rfl rfl (aq rfl rfl (aL rfl rfl rfl (aL rfl rfl rfl (aj rfl rfl (aq rfl rfl (aj rfl rfl (aq rfl rfl (dI rfl rfl rfl (aq rfl rfl (aj rfl rfl ?_)))))))))));refine aZ (g:=20) rfl (fun mc=>?_) (fun mc=>?_)
   ·refine aq rfl rfl (aj rfl rfl (aq rfl rfl (fo rfl rfl rfl (aq rfl rfl (aR rfl rfl rfl (aL rfl rfl rfl (ae ?_)))))));refine bW rfl (fun c1=>?_) (fun c1=>?_)
    ·refine au (ak (aj rfl rfl (bQ rfl rfl rfl (by omega) (al rfl rfl (ae (aW ?_))))));exact a8 rfl rfl ⟨by rw[fM,if_pos (by omega)],rfl⟩
    ·refine bg (au (ak (aj rfl rfl (al rfl rfl (ae (aW ?_))))));exact a8 rfl rfl ⟨by rw[fM,if_neg (by omega)],rfl⟩
   ·refine aw rfl rfl rfl rfl (aw rfl rfl rfl rfl (aq rfl rfl (aL rfl rfl rfl (aL rfl rfl rfl (ae (ir rfl (bg (au (ak (aj rfl rfl (al rfl rfl ?_)))))))))));refine ae (aW ?_);exact a8 rfl rfl ⟨by rw[fM,if_neg (by omega)],rfl⟩
def vQ (c:Int):Bool:=decide (fK c=true∨ot c=true)
theorem B8 (c:Int) (w0:World):
  Spec Tryz.prog 217 #[.int .i64 c] w0 (fun v w=>v= .bool (vQ c)∧w=w0):=by
 refine bE (args:=[_]) (fn:=Tryz.f217) Tryz.func217 rfl (n:=13) Tryz.ntmps217 (au (ak (al rfl rfl (ae (au (ak (aj rfl rfl ?_)))))));refine aS rfl rfl abN (AK _ _) (fun r wc hc=>?_);obtain⟨rfl,rfl⟩:=hc;refine bO (v':= .bool (decide (fK c=true))) (by cases fK c<;>rfl) (aj rfl rfl ?_);refine aZ (g:=5) rfl (fun iR=>?_) (fun iR=>?_)
 ·refine aw rfl rfl rfl rfl (aw rfl rfl rfl rfl (aw rfl rfl rfl rfl (ca rfl rfl rfl (ca rfl rfl rfl (aw rfl rfl rfl rfl (aR rfl rfl rfl (al rfl rfl (ae (aW ?_)))))))));have e:(ot c=true)=(48≤c∧c≤57):=by simp[ot]
  exact a8 rfl rfl ⟨by simp only[vQ,e];first|(congr 1;first|(exact(decide_eq_true (.inl (by assumption))).symm)|(exact(decide_eq_true (.inr (by omega))).symm)|(exact(decide_eq_false (by rintro(h|h)<;>first|exact absurd h (by assumption)|omega)).symm)|(exact decide_eq_decide.2 ⟨fun h=> .inr (by omega),fun h=>h.elim (fun h=>absurd h (by assumption)) (fun h=>by omega)⟩)),rfl⟩
 ·refine aq rfl rfl (aj rfl rfl (aq rfl rfl (dI rfl rfl rfl (aq rfl rfl (aj rfl rfl ?_)))));refine aZ (g:=8) rfl (fun tO=>?_) (fun tO=>?_)
  ·refine aq rfl rfl (aj rfl rfl (aq rfl rfl (fo rfl rfl rfl (aq rfl rfl (aR rfl rfl rfl (aL rfl rfl rfl (al rfl rfl (ae (aW ?_)))))))));have e:(ot c=true)=(48≤c∧c≤57):=by simp[ot]
   exact a8 rfl rfl ⟨by simp only[vQ,e];first|(congr 1;first|(exact(decide_eq_true (.inl (by assumption))).symm)|(exact(decide_eq_true (.inr (by omega))).symm)|(exact(decide_eq_false (by rintro(h|h)<;>first|exact absurd h (by assumption)|omega)).symm)|(exact decide_eq_decide.2 ⟨fun h=> .inr (by omega),fun h=>h.elim (fun h=>absurd h (by assumption)) (fun h=>by omega)⟩)),rfl⟩
  ·refine aw rfl rfl rfl rfl (aw rfl rfl rfl rfl (aq rfl rfl (aL rfl rfl rfl (aL rfl rfl rfl (al rfl rfl (ae (aW ?_)))))));have e:(ot c=true)=(48≤c∧c≤57):=by simp[ot]
   exact a8 rfl rfl ⟨by simp only[vQ,e];first|(congr 1;first|(exact(decide_eq_true (.inl (by assumption))).symm)|(exact(decide_eq_true (.inr (by omega))).symm)|(exact(decide_eq_false (by rintro(h|h)<;>first|exact absurd h (by assumption)|omega)).symm)|(exact decide_eq_decide.2 ⟨fun h=> .inr (by omega),fun h=>h.elim (fun h=>absurd h (by assumption)) (fun h=>by omega)⟩)),rfl⟩
theorem Qb {l:List UInt8} {c:Int} (hc:c=(kd l 0:Int)) (hn:nO c≠0):∀{k:Nat},(∀j:Nat,1≤j→j<k+1→j7 l j=true)→k≤3→0≤vO l k∧vO l k≤100000000:=by
 have key:∀k:Nat,(∀j:Nat,1≤j→j<k+1→j7 l j=true)→0≤vO l k∧vO l k≤33*64^k-1:=by
  intro k
  induction k with
  |zero=>
   intro _;have:=nE hn;show 0≤tN (kd l 0:Int)∧tN (kd l 0:Int)≤33*64^0-1;rw[←hc];simp only[Int.pow_zero];omega
  |succ k ih=>
   intro h;have h1:=ih fun j h2 h3=>h j h2 (by omega)
   have h2:=gJ.1 (h (k+1) (by omega) (by omega));show 0≤64*vO l k+_-128∧64*vO l k+_-128≤_;rw[Int.pow_succ];omega
 intro k h hk;have:=key k h
 have h3:(64:Int)^k≤262144:=by
  rcases(show k=0∨k=1∨k=2∨k=3 by omega)with rfl|rfl|rfl|rfl<;>decide
 omega
theorem IS {l:List UInt8} (w0:World) (hl:l≠[]) (hlen:l.length≤1000000):
  Spec Tryz.prog 252 #[.string ⟨l.toArray⟩] w0 (fun v w=>v= .tuple #[.int .i64 ((dec l).1:Int),.int .i64 ((dec l).2:Int)]∧w=w0):=by
 have BK:0<l.length:=nV.2 hl;have hb0:=oh l 0;obtain⟨c,hc⟩:∃c:Int,c=(kd l 0:Int):=⟨_,rfl⟩;have hcr:0≤c∧c<256:=by omega
 refine bE (args:=[_]) (fn:=Tryz.f252) Tryz.func252 rfl (n:=85) Tryz.ntmps252 (au (ak (al rfl rfl (al rfl rfl (ae (au (ak (aj rfl rfl ?_))))))));refine Rg.FI (c:=l.getD 0 0) aM rfl rfl rfl (by decide) (by rw[dN];show l[0]? =_;rw[aI BK];rfl) ?_;refine bO (v':= .int .u8 c) (by rw[hc];rfl) (Rg.Ao cN aB rfl rfl (by omega) (al rfl rfl (ae (au (au (ak (aj rfl rfl (cu rfl rfl rfl (ae ?_)))))))));refine bW rfl (fun c2=>?_) (fun c2=>?_)
 ·refine au (ak (aj rfl rfl (al rfl rfl (al rfl rfl (ae (aW ?_))))));exact fw rfl rfl rfl ⟨by rw[Vb (by omega),hc];rfl,rfl⟩
 ·refine bg (au (ak (al rfl rfl (ae (au (ak (al rfl rfl (ae (au (ak (al rfl rfl ?_)))))))))));refine ae ?_;refine T.qe [(0,.string ⟨l.toArray⟩),(4,.int .i64 c),(5,.int .i64 (nO c)),(6,.int .i64 (gU c)),(7,.int .i64 (tN c))] ?_ ?_
  ·refine au (ak (aj rfl rfl (dI rfl rfl rfl (aj rfl rfl ?_))));refine aZ (g:=18) rfl (fun abT=>?_) (fun abT=>?_)
   ·refine aq rfl rfl (aj rfl rfl (aq rfl rfl (cu rfl rfl rfl (aR rfl rfl rfl (ae ?_)))));refine bW rfl (fun c7=>?_) (fun c7=>?_)
    ·refine au (ak (al rfl rfl (ae (au (ak (al rfl rfl (ae (ak (aj rfl rfl (eJ rfl rfl rfl (by omega) (al rfl rfl ?_)))))))))));refine ae ?_;exact⟨rfl,rfl,rfl,.cons rfl (.cons rfl (.cons (congrArg (fun z=>some (Value.int .i64 z)) (by first|(exfalso;omega)|(unfold nO;repeat (first|rw[if_pos (by omega)]|rw[if_neg (by omega)])))) (.cons (congrArg (fun z=>some (Value.int .i64 z)) (by first|(exfalso;omega)|(unfold gU;repeat (first|rw[if_pos (by omega)]|rw[if_neg (by omega)])))) (.cons (congrArg (fun z=>some (Value.int .i64 z)) (by first|(exfalso;omega)|(unfold tN;repeat (first|rw[if_pos (by omega)]|rw[if_neg (by omega)])))) (.nil)))))⟩
    ·refine au (ak (aj rfl rfl (dI rfl rfl rfl (aj rfl rfl ?_))));refine aZ (g:=26) rfl (fun IT=>?_) (fun IT=>?_)
     ·refine aq rfl rfl (aj rfl rfl (aq rfl rfl (cu rfl rfl rfl (aR rfl rfl rfl (ae ?_)))));refine bW rfl (fun Vd=>?_) (fun Vd=>?_)
      ·refine au (ak (al rfl rfl (ae (au (ak (al rfl rfl (ae (ak (aj rfl rfl (eJ rfl rfl rfl (by omega) (al rfl rfl ?_)))))))))));refine ae ?_;exact⟨rfl,rfl,rfl,.cons rfl (.cons rfl (.cons (congrArg (fun z=>some (Value.int .i64 z)) (by first|(exfalso;omega)|(unfold nO;repeat (first|rw[if_pos (by omega)]|rw[if_neg (by omega)])))) (.cons (congrArg (fun z=>some (Value.int .i64 z)) (by first|(exfalso;omega)|(unfold gU;repeat (first|rw[if_pos (by omega)]|rw[if_neg (by omega)])))) (.cons (congrArg (fun z=>some (Value.int .i64 z)) (by first|(exfalso;omega)|(unfold tN;repeat (first|rw[if_pos (by omega)]|rw[if_neg (by omega)])))) (.nil)))))⟩
      ·refine au (ak (aj rfl rfl (dI rfl rfl rfl (aj rfl rfl ?_))));refine aZ (g:=34) rfl (fun wW=>?_) (fun wW=>?_)
       ·refine aq rfl rfl (aj rfl rfl (aq rfl rfl (cu rfl rfl rfl (aR rfl rfl rfl (ae ?_)))));refine bW rfl (fun Qd=>?_) (fun Qd=>?_)
        ·refine au (ak (al rfl rfl (ae (au (ak (al rfl rfl (ae (ak (aj rfl rfl (eJ rfl rfl rfl (by omega) (al rfl rfl ?_)))))))))));refine ae ?_;exact⟨rfl,rfl,rfl,.cons rfl (.cons rfl (.cons (congrArg (fun z=>some (Value.int .i64 z)) (by first|(exfalso;omega)|(unfold nO;repeat (first|rw[if_pos (by omega)]|rw[if_neg (by omega)])))) (.cons (congrArg (fun z=>some (Value.int .i64 z)) (by first|(exfalso;omega)|(unfold gU;repeat (first|rw[if_pos (by omega)]|rw[if_neg (by omega)])))) (.cons (congrArg (fun z=>some (Value.int .i64 z)) (by first|(exfalso;omega)|(unfold tN;repeat (first|rw[if_pos (by omega)]|rw[if_neg (by omega)])))) (.nil)))))⟩
        ·refine bg ?_;exact⟨rfl,rfl,rfl,.cons rfl (.cons rfl (.cons (congrArg (fun z=>some (Value.int .i64 z)) (by first|(exfalso;omega)|(unfold nO;repeat (first|rw[if_pos (by omega)]|rw[if_neg (by omega)])))) (.cons (congrArg (fun z=>some (Value.int .i64 z)) (by first|(exfalso;omega)|(unfold gU;repeat (first|rw[if_pos (by omega)]|rw[if_neg (by omega)])))) (.cons (congrArg (fun z=>some (Value.int .i64 z)) (by first|(exfalso;omega)|(unfold tN;repeat (first|rw[if_pos (by omega)]|rw[if_neg (by omega)])))) (.nil)))))⟩
       ·refine aw rfl rfl rfl rfl (aw rfl rfl rfl rfl (aL rfl rfl rfl (ae (ir rfl (bg ?_)))));exact⟨rfl,rfl,rfl,.cons rfl (.cons rfl (.cons (congrArg (fun z=>some (Value.int .i64 z)) (by first|(exfalso;omega)|(unfold nO;repeat (first|rw[if_pos (by omega)]|rw[if_neg (by omega)])))) (.cons (congrArg (fun z=>some (Value.int .i64 z)) (by first|(exfalso;omega)|(unfold gU;repeat (first|rw[if_pos (by omega)]|rw[if_neg (by omega)])))) (.cons (congrArg (fun z=>some (Value.int .i64 z)) (by first|(exfalso;omega)|(unfold tN;repeat (first|rw[if_pos (by omega)]|rw[if_neg (by omega)])))) (.nil)))))⟩
     ·refine aw rfl rfl rfl rfl (aw rfl rfl rfl rfl (aL rfl rfl rfl (ae (ir rfl (au (ak (aj rfl rfl (dI rfl rfl rfl (aj rfl rfl ?_)))))))));refine aZ (g:=34) rfl (fun wW=>?_) (fun wW=>?_)
      ·refine aq rfl rfl (aj rfl rfl (aq rfl rfl (cu rfl rfl rfl (aR rfl rfl rfl (ae ?_)))));refine bW rfl (fun Qd=>?_) (fun Qd=>?_)
       ·refine au (ak (al rfl rfl (ae (au (ak (al rfl rfl (ae (ak (aj rfl rfl (eJ rfl rfl rfl (by omega) (al rfl rfl ?_)))))))))));refine ae ?_;exact⟨rfl,rfl,rfl,.cons rfl (.cons rfl (.cons (congrArg (fun z=>some (Value.int .i64 z)) (by first|(exfalso;omega)|(unfold nO;repeat (first|rw[if_pos (by omega)]|rw[if_neg (by omega)])))) (.cons (congrArg (fun z=>some (Value.int .i64 z)) (by first|(exfalso;omega)|(unfold gU;repeat (first|rw[if_pos (by omega)]|rw[if_neg (by omega)])))) (.cons (congrArg (fun z=>some (Value.int .i64 z)) (by first|(exfalso;omega)|(unfold tN;repeat (first|rw[if_pos (by omega)]|rw[if_neg (by omega)])))) (.nil)))))⟩
       ·refine bg ?_;exact⟨rfl,rfl,rfl,.cons rfl (.cons rfl (.cons (congrArg (fun z=>some (Value.int .i64 z)) (by first|(exfalso;omega)|(unfold nO;repeat (first|rw[if_pos (by omega)]|rw[if_neg (by omega)])))) (.cons (congrArg (fun z=>some (Value.int .i64 z)) (by first|(exfalso;omega)|(unfold gU;repeat (first|rw[if_pos (by omega)]|rw[if_neg (by omega)])))) (.cons (congrArg (fun z=>some (Value.int .i64 z)) (by first|(exfalso;omega)|(unfold tN;repeat (first|rw[if_pos (by omega)]|rw[if_neg (by omega)])))) (.nil)))))⟩
      ·refine aw rfl rfl rfl rfl (aw rfl rfl rfl rfl (aL rfl rfl rfl (ae (ir rfl (bg ?_)))));exact⟨rfl,rfl,rfl,.cons rfl (.cons rfl (.cons (congrArg (fun z=>some (Value.int .i64 z)) (by first|(exfalso;omega)|(unfold nO;repeat (first|rw[if_pos (by omega)]|rw[if_neg (by omega)])))) (.cons (congrArg (fun z=>some (Value.int .i64 z)) (by first|(exfalso;omega)|(unfold gU;repeat (first|rw[if_pos (by omega)]|rw[if_neg (by omega)])))) (.cons (congrArg (fun z=>some (Value.int .i64 z)) (by first|(exfalso;omega)|(unfold tN;repeat (first|rw[if_pos (by omega)]|rw[if_neg (by omega)])))) (.nil)))))⟩
   ·refine aw rfl rfl rfl rfl (aw rfl rfl rfl rfl (aL rfl rfl rfl (ae (ir rfl (au (ak (aj rfl rfl (dI rfl rfl rfl (aj rfl rfl ?_)))))))));refine aZ (g:=26) rfl (fun IT=>?_) (fun IT=>?_)
    ·refine aq rfl rfl (aj rfl rfl (aq rfl rfl (cu rfl rfl rfl (aR rfl rfl rfl (ae ?_)))));refine bW rfl (fun Vd=>?_) (fun Vd=>?_)
     ·refine au (ak (al rfl rfl (ae (au (ak (al rfl rfl (ae (ak (aj rfl rfl (eJ rfl rfl rfl (by omega) (al rfl rfl ?_)))))))))));refine ae ?_;exact⟨rfl,rfl,rfl,.cons rfl (.cons rfl (.cons (congrArg (fun z=>some (Value.int .i64 z)) (by first|(exfalso;omega)|(unfold nO;repeat (first|rw[if_pos (by omega)]|rw[if_neg (by omega)])))) (.cons (congrArg (fun z=>some (Value.int .i64 z)) (by first|(exfalso;omega)|(unfold gU;repeat (first|rw[if_pos (by omega)]|rw[if_neg (by omega)])))) (.cons (congrArg (fun z=>some (Value.int .i64 z)) (by first|(exfalso;omega)|(unfold tN;repeat (first|rw[if_pos (by omega)]|rw[if_neg (by omega)])))) (.nil)))))⟩
     ·refine au (ak (aj rfl rfl (dI rfl rfl rfl (aj rfl rfl ?_))));refine aZ (g:=34) rfl (fun wW=>?_) (fun wW=>?_)
      ·refine aq rfl rfl (aj rfl rfl (aq rfl rfl (cu rfl rfl rfl (aR rfl rfl rfl (ae ?_)))));refine bW rfl (fun Qd=>?_) (fun Qd=>?_)
       ·refine au (ak (al rfl rfl (ae (au (ak (al rfl rfl (ae (ak (aj rfl rfl (eJ rfl rfl rfl (by omega) (al rfl rfl ?_)))))))))));refine ae ?_;exact⟨rfl,rfl,rfl,.cons rfl (.cons rfl (.cons (congrArg (fun z=>some (Value.int .i64 z)) (by first|(exfalso;omega)|(unfold nO;repeat (first|rw[if_pos (by omega)]|rw[if_neg (by omega)])))) (.cons (congrArg (fun z=>some (Value.int .i64 z)) (by first|(exfalso;omega)|(unfold gU;repeat (first|rw[if_pos (by omega)]|rw[if_neg (by omega)])))) (.cons (congrArg (fun z=>some (Value.int .i64 z)) (by first|(exfalso;omega)|(unfold tN;repeat (first|rw[if_pos (by omega)]|rw[if_neg (by omega)])))) (.nil)))))⟩
       ·refine bg ?_;exact⟨rfl,rfl,rfl,.cons rfl (.cons rfl (.cons (congrArg (fun z=>some (Value.int .i64 z)) (by first|(exfalso;omega)|(unfold nO;repeat (first|rw[if_pos (by omega)]|rw[if_neg (by omega)])))) (.cons (congrArg (fun z=>some (Value.int .i64 z)) (by first|(exfalso;omega)|(unfold gU;repeat (first|rw[if_pos (by omega)]|rw[if_neg (by omega)])))) (.cons (congrArg (fun z=>some (Value.int .i64 z)) (by first|(exfalso;omega)|(unfold tN;repeat (first|rw[if_pos (by omega)]|rw[if_neg (by omega)])))) (.nil)))))⟩
      ·refine aw rfl rfl rfl rfl (aw rfl rfl rfl rfl (aL rfl rfl rfl (ae (ir rfl (bg ?_)))));exact⟨rfl,rfl,rfl,.cons rfl (.cons rfl (.cons (congrArg (fun z=>some (Value.int .i64 z)) (by first|(exfalso;omega)|(unfold nO;repeat (first|rw[if_pos (by omega)]|rw[if_neg (by omega)])))) (.cons (congrArg (fun z=>some (Value.int .i64 z)) (by first|(exfalso;omega)|(unfold gU;repeat (first|rw[if_pos (by omega)]|rw[if_neg (by omega)])))) (.cons (congrArg (fun z=>some (Value.int .i64 z)) (by first|(exfalso;omega)|(unfold tN;repeat (first|rw[if_pos (by omega)]|rw[if_neg (by omega)])))) (.nil)))))⟩
    ·refine aw rfl rfl rfl rfl (aw rfl rfl rfl rfl (aL rfl rfl rfl (ae (ir rfl (au (ak (aj rfl rfl (dI rfl rfl rfl (aj rfl rfl ?_)))))))));refine aZ (g:=34) rfl (fun wW=>?_) (fun wW=>?_)
     ·refine aq rfl rfl (aj rfl rfl (aq rfl rfl (cu rfl rfl rfl (aR rfl rfl rfl (ae ?_)))));refine bW rfl (fun Qd=>?_) (fun Qd=>?_)
      ·refine au (ak (al rfl rfl (ae (au (ak (al rfl rfl (ae (ak (aj rfl rfl (eJ rfl rfl rfl (by omega) (al rfl rfl ?_)))))))))));refine ae ?_;exact⟨rfl,rfl,rfl,.cons rfl (.cons rfl (.cons (congrArg (fun z=>some (Value.int .i64 z)) (by first|(exfalso;omega)|(unfold nO;repeat (first|rw[if_pos (by omega)]|rw[if_neg (by omega)])))) (.cons (congrArg (fun z=>some (Value.int .i64 z)) (by first|(exfalso;omega)|(unfold gU;repeat (first|rw[if_pos (by omega)]|rw[if_neg (by omega)])))) (.cons (congrArg (fun z=>some (Value.int .i64 z)) (by first|(exfalso;omega)|(unfold tN;repeat (first|rw[if_pos (by omega)]|rw[if_neg (by omega)])))) (.nil)))))⟩
      ·refine bg ?_;exact⟨rfl,rfl,rfl,.cons rfl (.cons rfl (.cons (congrArg (fun z=>some (Value.int .i64 z)) (by first|(exfalso;omega)|(unfold nO;repeat (first|rw[if_pos (by omega)]|rw[if_neg (by omega)])))) (.cons (congrArg (fun z=>some (Value.int .i64 z)) (by first|(exfalso;omega)|(unfold gU;repeat (first|rw[if_pos (by omega)]|rw[if_neg (by omega)])))) (.cons (congrArg (fun z=>some (Value.int .i64 z)) (by first|(exfalso;omega)|(unfold tN;repeat (first|rw[if_pos (by omega)]|rw[if_neg (by omega)])))) (.nil)))))⟩
     ·refine aw rfl rfl rfl rfl (aw rfl rfl rfl rfl (aL rfl rfl rfl (ae (ir rfl (bg ?_)))));exact⟨rfl,rfl,rfl,.cons rfl (.cons rfl (.cons (congrArg (fun z=>some (Value.int .i64 z)) (by first|(exfalso;omega)|(unfold nO;repeat (first|rw[if_pos (by omega)]|rw[if_neg (by omega)])))) (.cons (congrArg (fun z=>some (Value.int .i64 z)) (by first|(exfalso;omega)|(unfold gU;repeat (first|rw[if_pos (by omega)]|rw[if_neg (by omega)])))) (.cons (congrArg (fun z=>some (Value.int .i64 z)) (by first|(exfalso;omega)|(unfold tN;repeat (first|rw[if_pos (by omega)]|rw[if_neg (by omega)])))) (.nil)))))⟩
  ·refine au (au (ak (aj rfl rfl (iE rfl rfl rfl (aj rfl rfl ?_)))));refine aZ (g:=42) rfl (fun Ve=>?_) (fun Ve=>?_)
   ·refine aw rfl rfl rfl rfl (aw rfl rfl rfl rfl (aw rfl rfl rfl rfl (aw rfl rfl rfl rfl (aR rfl rfl rfl (ae (gz rfl (au (ak (al rfl rfl (al rfl rfl (ae ?_)))))))))));refine aW ?_
    have hx:nO (kd l 0:Int)=0∨∃k:Nat,1≤k∧(k:Int)<nO (kd l 0:Int)∧j7 l k=false:=by
     rw[←hc];by_cases h0:nO c=0
     ·exact .inl h0
     ·have hnc:=nE h0;exact .inr ⟨(nO c).toNat-1,by omega,by omega,fp.2 fun h=>by have:=(gJ.1 h).1;omega⟩
    have e:dec l=(65533,1):=FK (by omega) hx;exact fw rfl rfl rfl ⟨by rw[e];rfl,rfl⟩
   ·refine aq rfl rfl (aj rfl rfl (aq rfl rfl (vJ aM rfl rfl (bO (v':= .int .i64 (l.length:Int)) (by simp[ByteArray.size]) (aq rfl rfl (aj rfl rfl (aq rfl rfl (cu rfl rfl rfl (aL rfl rfl rfl (ae ?_))))))))));refine bW rfl (fun c19=>?_) (fun c19=>?_)
    ·refine au (ak (al rfl rfl (al rfl rfl (ae (aW ?_)))))
     have hx:nO (kd l 0:Int)=0∨∃k:Nat,1≤k∧(k:Int)<nO (kd l 0:Int)∧j7 l k=false:=by
      rw[←hc];by_cases h0:nO c=0
      ·exact .inl h0
      ·have hnc:=nE h0;exact .inr ⟨(nO c).toNat-1,by omega,by omega,fp.2 fun h=>by have:=(gJ.1 h).1;omega⟩
     have e:dec l=(65533,1):=FK (by omega) hx;exact fw rfl rfl rfl ⟨by rw[e];rfl,rfl⟩
    ·refine bg (au (au (ak (al rfl rfl (ae (bu ?_))))));refine de (σ:=Nat) (fun i=>[(0,.string ⟨l.toArray⟩),(5,.int .i64 (nO c)),(6,.int .i64 (gU c)),(7,.int .i64 (vO l (i-1))),(8,.int .i64 (i:Int))]) (fun i w=>w=w0∧1≤i∧(i:Int)≤nO c∧∀k:Nat,1≤k→k<i→j7 l k=true) (fun i=>(nO c).toNat-i) 1 (.cons rfl (.cons rfl (.cons rfl (.cons (congrArg (fun z=>some (Value.int .i64 z)) (by show tN c=tN (kd l 0:Int);rw[hc])) (.cons rfl .nil))))) ?_ ?_
     ·exact⟨rfl,bw _,by have:=nE (c:=c) (by omega);omega,fun k h1 h2=>by omega⟩
     ·rintro i w ⟨rfl,yE,Bx,hok⟩;have hnc:=nE (c:=c) (by omega)
      have hvr:0≤vO l (i-1)∧vO l (i-1)≤100000000:=by
       exact Qb (l:=l) (c:=c) (k:=i-1) hc (by omega) (fun j h1 h2=>hok j h1 (by omega)) (by omega)
      refine au (au (ak (aj rfl rfl (aj rfl rfl (cu rfl rfl rfl (ae ?_))))));refine bW rfl (fun c22=>?_) (fun c22=>?_)
      ·refine bg (au (bu (au (ak (aj rfl rfl (aj rfl rfl ?_))))));have jN:i<l.length:=by omega
       refine Rg.FI (c:=l.getD i 0) aM rfl rfl rfl (by omega) (by rw[dN,aK,aI jN];rfl) ?_;refine bO (v':= .int .u8 (kd l i:Int)) rfl ?_;have hbi:=oh l i;refine Rg.Ao cN aB rfl rfl (by omega) (al rfl rfl (ae (au (au (ak (aj rfl rfl (cu rfl rfl rfl (aj rfl rfl ?_))))))));refine aZ (g:=59) rfl (fun Vf=>?_) (fun Vf=>?_)
       ·refine aw rfl rfl rfl rfl (aw rfl rfl rfl rfl (aR rfl rfl rfl (ae (gz rfl (au (ak (al rfl rfl (al rfl rfl (ae (aW ?_))))))))))
        have hx:nO (kd l 0:Int)=0∨∃k:Nat,1≤k∧(k:Int)<nO (kd l 0:Int)∧j7 l k=false:=by
         rw[←hc];exact .inr ⟨i,yE,by omega,fp.2 fun h=>by have:=gJ.1 h;omega⟩
        have e:dec l=(65533,1):=FK (by omega) hx;exact fw rfl rfl rfl ⟨by rw[e];rfl,rfl⟩
       ·refine aq rfl rfl (aj rfl rfl (aq rfl rfl (dI rfl rfl rfl (aL rfl rfl rfl (ae ?_)))));refine bW rfl (fun c25=>?_) (fun c25=>?_)
        ·refine au (ak (al rfl rfl (al rfl rfl (ae (aW ?_)))))
         have hx:nO (kd l 0:Int)=0∨∃k:Nat,1≤k∧(k:Int)<nO (kd l 0:Int)∧j7 l k=false:=by
          rw[←hc];exact .inr ⟨i,yE,by omega,fp.2 fun h=>by have:=gJ.1 h;omega⟩
         have e:dec l=(65533,1):=FK (by omega) hx;exact fw rfl rfl rfl ⟨by rw[e];rfl,rfl⟩
        ·refine bg (ak (aj rfl rfl (Rg.PI rfl rfl rfl (by omega) (aj rfl rfl (bQ rfl rfl rfl (by omega) (eJ rfl rfl rfl (by omega) (al rfl rfl (ae (ak (aj rfl rfl (bQ rfl rfl rfl (by omega) ?_)))))))))));refine al rfl rfl (ae ?_);refine⟨rfl,i+1,(.cons rfl (.cons rfl (.cons rfl (.cons (congrArg (fun z=>some (Value.int .i64 z)) (by obtain⟨q,rfl⟩:∃q,i=q+1:=⟨i-1,by omega⟩;rfl)) (.cons rfl .nil))))),?_,?_⟩
         ·exact⟨rfl,by omega,by omega,fun k h1 h2=>by
           rcases eT k i with h|h
           ·exact hok k h1 h
           ·obtain rfl:k=i:=by omega
            exact gJ.2 (by omega)⟩
         ·omega
      ·refine cP (au (au (ak (aj rfl rfl (aj rfl rfl (cu rfl rfl rfl (aj rfl rfl ?_)))))));refine aZ (g:=71) rfl (fun Vg=>?_) (fun Vg=>?_)
       ·refine aw rfl rfl rfl rfl (aw rfl rfl rfl rfl (aR rfl rfl rfl (aj rfl rfl (aw rfl rfl rfl rfl (aw rfl rfl rfl rfl (aw rfl rfl rfl rfl (ca rfl rfl rfl (ca rfl rfl rfl (aw rfl rfl rfl rfl (aR rfl rfl rfl (ae ?_)))))))))));refine gz rfl (au (ak (al rfl rfl (al rfl rfl (ae (aW ?_))))));have e:=B7 (l:=l) (by rw[←hc];omega) (by rw[←hc];exact fun k h1 h2=>hok k h1 (by omega)) (vO l (i-1)) (by rw[←hc];congr 1;omega);rw[←hc,if_pos (by omega)]at e;exact fw rfl rfl rfl ⟨by rw[e];rfl,rfl⟩
       ·refine aq rfl rfl (aj rfl rfl (aq rfl rfl (hY rfl rfl rfl (aL rfl rfl rfl (aj rfl rfl ?_)))));refine aZ (g:=75) rfl (fun Vh=>?_) (fun Vh=>?_)
        ·refine aw rfl rfl rfl rfl (aw rfl rfl rfl rfl (aw rfl rfl rfl rfl (ca rfl rfl rfl (ca rfl rfl rfl (aw rfl rfl rfl rfl (aR rfl rfl rfl (ae (gz rfl (au (ak (al rfl rfl ?_)))))))))));refine al rfl rfl (ae (aW ?_));have e:=B7 (l:=l) (by rw[←hc];omega) (by rw[←hc];exact fun k h1 h2=>hok k h1 (by omega)) (vO l (i-1)) (by rw[←hc];congr 1;omega);rw[←hc,if_pos (by omega)]at e;exact fw rfl rfl rfl ⟨by rw[e];rfl,rfl⟩
        ·refine aq rfl rfl (aj rfl rfl (aq rfl rfl (dI rfl rfl rfl (aq rfl rfl (aj rfl rfl ?_)))));refine aZ (g:=78) rfl (fun Qe=>?_) (fun Qe=>?_)
         ·refine aq rfl rfl (aj rfl rfl (aq rfl rfl (fo rfl rfl rfl (aq rfl rfl (aR rfl rfl rfl (aL rfl rfl rfl (ae ?_)))))));refine bW rfl (fun c28=>?_) (fun c28=>?_)
          ·refine au (ak (al rfl rfl (al rfl rfl (ae (aW ?_)))));have e:=B7 (l:=l) (by rw[←hc];omega) (by rw[←hc];exact fun k h1 h2=>hok k h1 (by omega)) (vO l (i-1)) (by rw[←hc];congr 1;omega);rw[←hc,if_pos (by omega)]at e;exact fw rfl rfl rfl ⟨by rw[e];rfl,rfl⟩
          ·refine bg (au (ak (aj rfl rfl (aj rfl rfl (al rfl rfl (al rfl rfl (ae (aW ?_))))))));have e:=B7 (l:=l) (by rw[←hc];omega) (by rw[←hc];exact fun k h1 h2=>hok k h1 (by omega)) (vO l (i-1)) (by rw[←hc];congr 1;omega);rw[←hc,if_neg (by omega)]at e;exact fw rfl rfl rfl ⟨by rw[e];simp only[];rw[yD hvr.1,yD (by omega)],rfl⟩
         ·refine aw rfl rfl rfl rfl (aw rfl rfl rfl rfl (aq rfl rfl (aL rfl rfl rfl (aL rfl rfl rfl (ae (ir rfl (bg (au (ak (aj rfl rfl (aj rfl rfl ?_)))))))))));refine al rfl rfl (al rfl rfl (ae (aW ?_)));have e:=B7 (l:=l) (by rw[←hc];omega) (by rw[←hc];exact fun k h1 h2=>hok k h1 (by omega)) (vO l (i-1)) (by rw[←hc];congr 1;omega);rw[←hc,if_neg (by omega)]at e;exact fw rfl rfl rfl ⟨by rw[e];simp only[];rw[yD hvr.1,yD (by omega)],rfl⟩
theorem B9 {M:aU} {l:List UInt8} (w0:World) (hM:Lt M w0) (hl:l.length≤1000000):
  Spec Tryz.prog 216 #[.string ⟨l.toArray⟩] w0 (fun v w=>((RT.int .i64).sl).V M w (fu l) v∧Step M w0 M w aN):=by
 have fZ:=hM;refine bE (args:=[_]) (fn:=Tryz.f216) Tryz.func216 rfl (n:=22) Tryz.ntmps216 ?_;have S:Step M w0 M w0 aN:=(ah _ _).cD (fun _ h=>h.elim) (fun _ h=>h.elim);refine au (ak (al rfl rfl (ae (au (ak (al rfl rfl (ae (au (bu ?_)))))))));refine de (σ:=Nat×List Int×Value) (fun q=>[(0,.string ⟨(l.drop q.1).toArray⟩),(3,q.2.2)]) (fun q w=>∃M',Lt M' w∧Step M w0 M' w aN∧Own (RT.int .i64) 3 M' w w0.heap.size q.2.2 q.2.1∧fu l=q.2.1++fu (l.drop q.1)∧q.1≤l.length) (fun q=>l.length-q.1) (0,[],.slice none 0 0) (.cons rfl (.cons rfl .nil)) ?_ ?_
 ·exact⟨M,hM,S,dO _ _ _ _ _,by simp,by simp⟩
 ·rintro⟨p,xs,u⟩ w ⟨M1,hM,S,ho,yG,hp⟩;dsimp only at ho yG hp ⊢;refine au (au (ak (aj rfl rfl (vJ aM rfl rfl (bO (v':= .int .i64 ((l.drop p).length:Int)) (by simp[ByteArray.size]) (hY rfl rfl rfl (ae ?_)))))));refine bW rfl (fun c2=>?_) (fun c2=>?_)
  ·refine bg (bu (au (ak (aj rfl rfl ?_))));have fE:l.drop p≠[]:=by intro h;rw[h]at c2;simp at c2
   have zk:p<l.length:=by have:=nV.2 fE;rw[dh]at this;omega
   have hwd:=lU fE;refine aS rfl rfl abM (IS (l:=l.drop p) _ fE (by rw[dh];omega)) (fun r3 w3 hc=>?_);obtain⟨rfl,rfl⟩:=hc;refine aj rfl rfl (b5 rfl rfl rfl (b5 rfl rfl rfl (al rfl rfl (al rfl rfl (ae (au (ak (aj rfl rfl (aj rfl rfl ?_)))))))));refine ez (A:=RT.int .i64) (hn:=by decide) (M:=M1) ay I3 (by decide) rfl rfl hM (ie (by have:=tL (l.drop p);omega)) (.inr ⟨rfl,rfl⟩) (fun D4 Qf jO qy=>?_);replace ho:=ho.bC qy;replace hM:=qy.lt hM;have:=S.size;replace S:=S.aE qy;refine cz (M:=M1) (base:=w0.heap.size) ay I3 rfl rfl rfl rfl ho jO (ar _ _) (by simp;have:=iL l;rw[yG]at this;simp at this;omega) (by simp;have:=iL l;rw[yG]at this;simp at this;omega) (S.size) (fun Qg abX ak0 Vi Qh=>?_);replace jO:=jO.le Qh.le;replace hM:=Qh.lt hM;have:=S.size;replace S:=S.cJ Qh ho (bw _);replace ho:=Vi;refine al rfl rfl (ae (ak (aj rfl rfl (aj rfl rfl (Rg.MJ aM rfl rfl rfl (by omega) (bO (v':= .string ⟨(l.drop (p+(dec (l.drop p)).2)).toArray⟩) (by rw[List.drop_drop];simp) (al rfl rfl (ae ?_))))))));refine⟨rfl,(p+(dec (l.drop p)).2,xs++[((dec (l.drop p)).1:Int)],Qg),(.cons rfl (.cons rfl .nil)),?_,?_⟩
   ·refine⟨abX,hM,S,ho,?_,?_⟩
    ·rw[yG,om fE,List.drop_drop];simp
    ·have:=hwd.2;rw[dh]at this;dsimp only;omega
   ·have:=hwd.1;have:=hwd.2;rw[dh]at this;dsimp only;omega
  ·refine cP (au (ak (aj rfl rfl (al rfl rfl (ae (aW ?_))))));have e:fu l=xs:=by rw[yG,lx (by simp at c2;omega),qg];simp
   rw[e];have:=iL l;rw[e]at this;exact a8 rfl rfl ⟨ho.close fZ S (by omega),S.back⟩
theorem qF {M:aU} {w:World} {x:Int} (h:0≤x∧x<256):RT.u8.V M w x.toNat.toUInt8 (.int .u8 (IntKind.u8.wrap x)):=by
 have e1:IntKind.u8.wrap x=x:=by
  show(if(false&&decide (x%256≥128))=true then x%256-256 else x%256)=x;rw[if_neg (by simp)];omega
 have e2:((x.toNat.toUInt8).toNat:Int)=x:=by
  have:x.toNat.toUInt8.toNat=x.toNat%256:=UInt8.toNat_ofNat' ..;omega
 rw[e1];exact⟨[.int .u8 x],by show _=_;rw[e2],rfl⟩
theorem abY {r:Int} (h:0≤r∧r<128):Lib.encodeRune r=[r.toNat.toUInt8]:=by rw[Lib.encodeRune,Lib.encodeRuneZ_one h.1 (by omega)];rfl
theorem abZ {r:Int} (h:128≤r∧r<2048):Lib.encodeRune r=[(192+r/64).toNat.toUInt8,(128+r%64).toNat.toUInt8]:=by rw[Lib.encodeRune,Lib.encodeRuneZ_two h.1 (by omega)];rfl
theorem GY (c:Int):sc c<55296∨57343<sc c:=by
 unfold sc
 split
 ·omega
 ·rename_i h
  have h2:Lib.validRune c=true:=by
   cases hv:Lib.validRune c with
   |true=>rfl
   |false=>exact absurd (.inr (.inr hv)) h
  simp only[Lib.validRune,decide_eq_true_eq]at h2;omega
theorem ab0 {r:Int} (h:2048≤r∧r<65536) (h2:r<55296∨57343<r):Lib.encodeRune r=[(224+r/4096).toNat.toUInt8,(128+r/64%64).toNat.toUInt8,(128+r%64).toNat.toUInt8]:=by rw[Lib.encodeRune,Lib.encodeRuneZ_three (by omega)];rfl
theorem ab1 {r:Int} (h:65536≤r∧r≤1114111):Lib.encodeRune r=[(240+r/262144).toNat.toUInt8,(128+r/4096%64).toNat.toUInt8,(128+r/64%64).toNat.toUInt8,(128+r%64).toNat.toUInt8]:=by rw[Lib.encodeRune,Lib.encodeRuneZ_four h.1 h.2];rfl
theorem sd {c:Int} (h:c<0∨c>1114111∨(55296≤c∧c≤57343)):sc c=65533:=by
 rw[sc,if_pos];rcases h with h|h|h
 ·exact .inl h
 ·exact .inr (.inl h)
 ·refine .inr (.inr ?_);simp only[Lib.validRune,decide_eq_false_iff_not];omega
theorem pG {c:Int} (h: ¬(c<0∨c>1114111∨(55296≤c∧c≤57343))):sc c=c:=by
 rw[sc,if_neg];rintro(h1|h1|h1)
 ·omega
 ·omega
 ·simp only[Lib.validRune,decide_eq_false_iff_not]at h1;omega
theorem wY {M:aU} {xs:List Int} {v0:Value} (w0:World) (hM:Lt M w0) (hv:((RT.int .i64).sl).V M w0 xs v0) (hl:xs.length≤1000000):
  Spec Tryz.prog 219 #[v0] w0 (fun v w=>v= .string ⟨(kE xs).toArray⟩∧Step M w0 M w aN):=by
 have fZ:=hM;refine bE (args:=[_]) (fn:=Tryz.f219) Tryz.func219 rfl (n:=91) Tryz.ntmps219 ?_;have S:Step M w0 M w0 aN:=(ah _ _).cD (fun _ h=>h.elim) (fun _ h=>h.elim);refine au (ak (al rfl rfl (ae (au (ak (al rfl rfl (ae (au (au (ak (al rfl rfl ?_)))))))))));refine ae (bu ?_);refine de (σ:=Nat×Value) (fun q=>[(0,v0),(3,q.2),(4,.int .i64 (q.1:Int))]) (fun q w=>∃M',Lt M' w∧Step M w0 M' w aN∧Own RT.u8 5 M' w w0.heap.size q.2 (kE (xs.take q.1))∧((RT.int .i64).sl).V M' w xs v0∧q.1≤xs.length) (fun q=>xs.length-q.1) (0,.slice none 0 0) (.cons rfl (.cons rfl (.cons rfl .nil))) ?_ ?_
 ·exact⟨M,hM,S,dO _ _ _ _ _,hv,bM _⟩
 ·rintro⟨k,u⟩ w ⟨M1,hM,S,ho,hv,hk⟩;dsimp only at ho hk ⊢;refine au (au (ak (aj rfl rfl (aj rfl rfl (bF ay rfl hv rfl (cu rfl rfl rfl (ae ?_)))))));refine bW rfl (fun c3=>?_) (fun c3=>?_)
  ·refine bg (au (bu (au (ak (aj rfl rfl (aj rfl rfl ?_))))));refine bS (M:=M1) ay I3 rfl rfl rfl hv (ar _ _) (by omega) (fun u5 c GZ gV=>?_);refine bK (M:=M1) aB rfl rfl gV (ar _ _) (fun in5=>?_);have tk:xs.take (k+1)=xs.take k++[c]:=by rw[bX];simp only[aK]at GZ;rw[GZ];rfl
   have hsr:=FJ c;have hsc:=GY c;refine al rfl rfl (ae ?_);refine T.qe [(0,v0),(3,u),(4,.int .i64 (k:Int)),(5,.int .i64 (sc c))] ?_ ?_
   ·refine au (ak (aj rfl rfl (cu rfl rfl rfl (aj rfl rfl ?_))));refine aZ (g:=18) rfl (fun Qi=>?_) (fun Qi=>?_)
    ·refine aw rfl rfl rfl rfl (aw rfl rfl rfl rfl (aR rfl rfl rfl (aj rfl rfl (aw rfl rfl rfl rfl (aw rfl rfl rfl rfl (aw rfl rfl rfl rfl (ca rfl rfl rfl (ca rfl rfl rfl (aw rfl rfl rfl rfl (aR rfl rfl rfl (ae ?_)))))))))));refine gz rfl (ak (al rfl rfl (ae ?_)));exact⟨rfl,rfl,rfl,.cons rfl (.cons rfl (.cons rfl (.cons (congrArg (fun z=>some (Value.int .i64 z)) (by first|exact(sd (by omega)).symm|exact(pG (by omega)).symm)) (.nil))))⟩
    ·refine aq rfl rfl (aj rfl rfl (aq rfl rfl (hY rfl rfl rfl (aL rfl rfl rfl (aj rfl rfl ?_)))));refine aZ (g:=22) rfl (fun ab2=>?_) (fun ab2=>?_)
     ·refine aw rfl rfl rfl rfl (aw rfl rfl rfl rfl (aw rfl rfl rfl rfl (ca rfl rfl rfl (ca rfl rfl rfl (aw rfl rfl rfl rfl (aR rfl rfl rfl (ae (gz rfl (ak (al rfl rfl (ae ?_)))))))))));exact⟨rfl,rfl,rfl,.cons rfl (.cons rfl (.cons rfl (.cons (congrArg (fun z=>some (Value.int .i64 z)) (by first|exact(sd (by omega)).symm|exact(pG (by omega)).symm)) (.nil))))⟩
     ·refine aq rfl rfl (aj rfl rfl (aq rfl rfl (dI rfl rfl rfl (aq rfl rfl (aj rfl rfl ?_)))));refine aZ (g:=25) rfl (fun ab3=>?_) (fun ab3=>?_)
      ·refine aq rfl rfl (aj rfl rfl (aq rfl rfl (fo rfl rfl rfl (aq rfl rfl (aR rfl rfl rfl (aL rfl rfl rfl (ae ?_)))))));refine bW rfl (fun c6=>?_) (fun c6=>?_)
       ·refine ak (al rfl rfl (ae ?_));exact⟨rfl,rfl,rfl,.cons rfl (.cons rfl (.cons rfl (.cons (congrArg (fun z=>some (Value.int .i64 z)) (by first|exact(sd (by omega)).symm|exact(pG (by omega)).symm)) (.nil))))⟩
       ·refine bg ?_;exact⟨rfl,rfl,rfl,.cons rfl (.cons rfl (.cons rfl (.cons (congrArg (fun z=>some (Value.int .i64 z)) (by first|exact(sd (by omega)).symm|exact(pG (by omega)).symm)) (.nil))))⟩
      ·refine aw rfl rfl rfl rfl (aw rfl rfl rfl rfl (aq rfl rfl (aL rfl rfl rfl (aL rfl rfl rfl (ae (ir rfl (bg ?_)))))));exact⟨rfl,rfl,rfl,.cons rfl (.cons rfl (.cons rfl (.cons (congrArg (fun z=>some (Value.int .i64 z)) (by first|exact(sd (by omega)).symm|exact(pG (by omega)).symm)) (.nil))))⟩
   ·refine au (ak (aj rfl rfl (cu rfl rfl rfl (ae ?_))));refine bW rfl (fun c8=>?_) (fun c8=>?_)
    ·refine ak (aj rfl rfl (aj rfl rfl (qU aB cN rfl rfl ?_)));refine ez (A:=RT.u8) (hn:=by decide) (M:=M1) bz I5 (by decide) rfl rfl hM (qF (by omega)) (.inr ⟨rfl,rfl⟩) (fun Vj Vk Ca pH=>?_);replace hv:=hv.le pH.le;replace ho:=ho.bC pH;replace hM:=pH.lt hM;have:=S.size;replace S:=S.aE pH;refine cz (M:=M1) (base:=w0.heap.size) bz I5 rfl rfl rfl rfl ho Ca (ar _ _) (by have:=gm (xs.take k);rw[bU]at this;simp;omega) (by have:=gm (xs.take k);rw[bU]at this;simp;omega) (S.size) (fun D5 MR MS wZ kC=>?_);replace hv:=hv.le kC.le;replace Ca:=Ca.le kC.le;replace hM:=kC.lt hM;have:=S.size;replace S:=S.cJ kC ho (bw _);replace ho:=wZ;refine al rfl rfl (ae (ak (aj rfl rfl (bQ rfl rfl rfl (by omega) (al rfl rfl (ae ?_))))));refine⟨rfl,(k+1,D5),(.cons rfl (.cons rfl (.cons rfl .nil))),?_,?_⟩
     ·exact⟨MR,hM,S,by rw[tk,me,abY (by omega)];exact ho,hv,by dsimp only;omega⟩
     ·dsimp only;omega
    ·refine au (ak (aj rfl rfl (cu rfl rfl rfl (ae ?_))));refine bW rfl (fun HS=>?_) (fun HS=>?_)
     ·refine ak (aj rfl rfl (aj rfl rfl (Rg.BL rfl rfl rfl (by omega) (bQ rfl rfl rfl (by omega) (qU aB cN rfl rfl (aj rfl rfl (Rg.DN rfl rfl rfl (by omega) (bQ rfl rfl rfl (by omega) (qU aB cN rfl rfl ?_)))))))));refine Rg.ZR (A:=RT.u8) (hn:=by decide) (M:=M1) (xs:=[(192+sc c/64).toNat.toUInt8,(128+sc c%64).toNat.toUInt8]) bz I5 rfl (by decide) rfl ⟨_,_,_,rfl,rfl,rfl,qF (by omega),_,_,_,rfl,rfl,rfl,qF (by omega),rfl⟩ rfl hM (.inr ⟨rfl,rfl⟩) (by decide) (fun Vl Vm ou mf=>?_);replace hv:=hv.le mf.le;replace ho:=ho.bC mf;replace hM:=mf.lt hM;have:=S.size;replace S:=S.aE mf;refine cz (M:=M1) (base:=w0.heap.size) bz I5 rfl rfl rfl rfl ho ou (ar _ _) (by have:=gm (xs.take k);rw[bU]at this;simp;omega) (by have:=gm (xs.take k);rw[bU]at this;simp;omega) (S.size) (fun AL D6 Qj AM j1=>?_);replace hv:=hv.le j1.le;replace ou:=ou.le j1.le;replace hM:=j1.lt hM;have:=S.size;replace S:=S.cJ j1 ho (bw _);replace ho:=AM;refine al rfl rfl (ae (ak (aj rfl rfl (bQ rfl rfl rfl (by omega) (al rfl rfl (ae ?_))))));refine⟨rfl,(k+1,AL),(.cons rfl (.cons rfl (.cons rfl .nil))),?_,?_⟩
      ·exact⟨D6,hM,S,by rw[tk,me,abZ (by omega)];exact ho,hv,by dsimp only;omega⟩
      ·dsimp only;omega
     ·refine au (ak (aj rfl rfl (cu rfl rfl rfl (ae ?_))));refine bW rfl (fun Vn=>?_) (fun Vn=>?_)
      ·refine ak (aj rfl rfl (aj rfl rfl (Rg.BL rfl rfl rfl (by omega) (bQ rfl rfl rfl (by omega) (qU aB cN rfl rfl (aj rfl rfl (Rg.BL rfl rfl rfl (by omega) (Rg.DN rfl rfl rfl (by omega) (bQ rfl rfl rfl (by omega) (qU aB cN rfl rfl (aj rfl rfl ?_)))))))))));refine Rg.DN rfl rfl rfl (by omega) (bQ rfl rfl rfl (by omega) (qU aB cN rfl rfl ?_));refine Rg.ZR (A:=RT.u8) (hn:=by decide) (M:=M1) (xs:=[(224+sc c/4096).toNat.toUInt8,(128+sc c/64%64).toNat.toUInt8,(128+sc c%64).toNat.toUInt8]) bz I5 rfl (by decide) rfl ⟨_,_,_,rfl,rfl,rfl,qF (by omega),_,_,_,rfl,rfl,rfl,qF (by omega),_,_,_,rfl,rfl,rfl,qF (by omega),rfl⟩ rfl hM (.inr ⟨rfl,rfl⟩) (by decide) (fun ab4 ab5 AN AO=>?_);replace hv:=hv.le AO.le;replace ho:=ho.bC AO;replace hM:=AO.lt hM;have:=S.size;replace S:=S.aE AO;refine cz (M:=M1) (base:=w0.heap.size) bz I5 rfl rfl rfl rfl ho AN (ar _ _) (by have:=gm (xs.take k);rw[bU]at this;simp;omega) (by have:=gm (xs.take k);rw[bU]at this;simp;omega) (S.size) (fun Qk Ql ab6 MT AP=>?_);replace hv:=hv.le AP.le;replace AN:=AN.le AP.le;replace hM:=AP.lt hM;have:=S.size;replace S:=S.cJ AP ho (bw _);replace ho:=MT;refine al rfl rfl (ae (ak (aj rfl rfl (bQ rfl rfl rfl (by omega) (al rfl rfl (ae ?_))))));refine⟨rfl,(k+1,Qk),(.cons rfl (.cons rfl (.cons rfl .nil))),?_,?_⟩
       ·exact⟨Ql,hM,S,by rw[tk,me,ab0 (by omega) hsc];exact ho,hv,by dsimp only;omega⟩
       ·dsimp only;omega
      ·refine ak (aj rfl rfl (aj rfl rfl (Rg.BL rfl rfl rfl (by omega) (bQ rfl rfl rfl (by omega) (qU aB cN rfl rfl (aj rfl rfl (Rg.BL rfl rfl rfl (by omega) (Rg.DN rfl rfl rfl (by omega) (bQ rfl rfl rfl (by omega) (qU aB cN rfl rfl (aj rfl rfl ?_)))))))))));refine Rg.BL rfl rfl rfl (by omega) (Rg.DN rfl rfl rfl (by omega) (bQ rfl rfl rfl (by omega) (qU aB cN rfl rfl (aj rfl rfl (Rg.DN rfl rfl rfl (by omega) (bQ rfl rfl rfl (by omega) (qU aB cN rfl rfl ?_)))))));refine Rg.ZR (A:=RT.u8) (hn:=by decide) (M:=M1) (xs:=[(240+sc c/262144).toNat.toUInt8,(128+sc c/4096%64).toNat.toUInt8,(128+sc c/64%64).toNat.toUInt8,(128+sc c%64).toNat.toUInt8]) bz I5 rfl (by decide) rfl ⟨_,_,_,rfl,rfl,rfl,qF (by omega),_,_,_,rfl,rfl,rfl,qF (by omega),_,_,_,rfl,rfl,rfl,qF (by omega),_,_,_,rfl,rfl,rfl,qF (by omega),rfl⟩ rfl hM (.inr ⟨rfl,rfl⟩) (by decide) (fun ab7 ab8 AQ AR=>?_);replace hv:=hv.le AR.le;replace ho:=ho.bC AR;replace hM:=AR.lt hM;have:=S.size;replace S:=S.aE AR;refine cz (M:=M1) (base:=w0.heap.size) bz I5 rfl rfl rfl rfl ho AQ (ar _ _) (by have:=gm (xs.take k);rw[bU]at this;simp;omega) (by have:=gm (xs.take k);rw[bU]at this;simp;omega) (S.size) (fun Qm Qn ab9 MU AS=>?_);replace hv:=hv.le AS.le;replace AQ:=AQ.le AS.le;replace hM:=AS.lt hM;have:=S.size;replace S:=S.cJ AS ho (bw _);replace ho:=MU;refine al rfl rfl (ae (ak (aj rfl rfl (bQ rfl rfl rfl (by omega) (al rfl rfl (ae ?_))))));refine⟨rfl,(k+1,Qm),(.cons rfl (.cons rfl (.cons rfl .nil))),?_,?_⟩
       ·exact⟨Qn,hM,S,by rw[tk,me,ab1 (by omega)];exact ho,hv,by dsimp only;omega⟩
       ·dsimp only;omega
  ·refine cP (au (ak (aj rfl rfl (Rg.b2s (hn:=by decide) (M:=M) bz cN aM rfl rfl (ho.close fZ S (by have:=gm (xs.take k);rw[bU]at this;omega)) (ar _ _) (al rfl rfl (ae (aW ?_)))))));have e:xs.take k=xs:=bm (by omega);rw[e];exact a8 rfl rfl ⟨rfl,S.back⟩
end Go.K
namespace Go.K
open Go.Proofs
set_option maxRecDepth 10000
theorem D7 {M:aU} {l:List UInt8} (w0:World) (hM:Lt M w0) (hl:l.length≤1000000):
  Spec Tryz.prog 225 #[.string ⟨l.toArray⟩] w0 (fun v w=>((RT.int .i64).sl).V M w (fu l) v∧Step M w0 M w aN):=by
 have fZ:=hM;refine bE (args:=[_]) (fn:=Tryz.f225) Tryz.func225 rfl (n:=17) Tryz.ntmps225 ?_;have S:Step M w0 M w0 aN:=(ah _ _).cD (fun _ h=>h.elim) (fun _ h=>h.elim);refine au (ak (al rfl rfl (ae (au (ak (al rfl rfl (ae (au (au (ak (aj rfl rfl ?_)))))))))));refine Rg.II M aM rfl rfl (fun IU aca ak2 ak3 acb D8=>?_);obtain⟨Ox,IV⟩:∃M',M'=ins M IU:=⟨_,rfl⟩;rw[←IV]at D8;have Qo:Ox IU:=by rw[IV];exact .inl rfl
 replace hM:=D8.lt hM;have:=S.size;replace S:=S.aE D8;refine ae (bu ?_);refine de (σ:=Nat×List Int×Value) (fun q=>[(3,q.2.2),(7,.pointer (some ⟨IU,0,none⟩))]) (fun q w=>∃M',Lt M' w∧Step M w0 M' w aN∧w.heap[IU]? =some (.stringIter ⟨l.toArray⟩ q.1)∧M' IU∧Own (RT.int .i64) 3 M' w w0.heap.size q.2.2 q.2.1∧fu l=q.2.1++fu (l.drop q.1)∧q.1≤l.length) (fun q=>l.length-q.1) (0,[],.slice none 0 0) (.cons rfl (.cons rfl .nil)) ?_ ?_
 ·exact⟨Ox,hM,S,acb,Qo,dO _ _ _ _ _,by simp,by simp⟩
 ·rintro⟨p,xs,u⟩ w ⟨M1,hM,S,g,zC,ho,yG,hp⟩;dsimp only at g ho yG hp ⊢;refine au (ak ?_);refine Rg.MI (M:=M1) rfl g zC rfl (fun acd ak4 ace IW=>?_) (fun acd=>?_)
  ·have:=av g;replace zC:=(IW.mem _ this).2 zC;replace ho:=ho.step IW (fun b hb hk=>ho.dZ g (hk▸hb));replace hM:=IW.lt hM;have:=S.size;replace S:=S.trans IW (fun k hk h=>by have h:_=_:=h;subst h;first|(exfalso;omega)|(show _≤_;omega)|exact⟨by first|omega|assumption,(S.mem _ hk).1 ((IW.mem _ (av g)).1 zC)⟩|exact .inl rfl|exact .inr rfl|exact .inr (.inl rfl)|exact .inr (.inr rfl)|exact rfl);have g_:=ace;clear g;have g:=g_;clear g_;refine b5 rfl rfl rfl (ae (au (gz rfl (bg (bu (au (ak (b5 rfl rfl rfl (al rfl rfl (ae (ak ?_)))))))))));refine aj rfl rfl (aj rfl rfl (Rg.Ao Tryz.underlying21 aB rfl rfl (by have:=tL (l.drop p);omega) ?_));refine ez (A:=RT.int .i64) (hn:=by decide) (M:=M1) ay I3 (by decide) rfl rfl hM (ie (by have:=tL (l.drop p);omega)) (.inr ⟨rfl,rfl⟩) (fun Vo ak5 Cb IX=>?_);have:=av g;replace zC:=(IX.mem _ this).2 zC;replace g:=IX.aX g;replace ho:=ho.bC IX;replace hM:=IX.lt hM;have:=S.size;replace S:=S.aE IX;refine cz (M:=M1) (base:=w0.heap.size) ay I3 rfl rfl rfl rfl ho Cb (ar _ _) (by simp;have:=iL l;rw[yG]at this;simp at this;omega) (by simp;have:=iL l;rw[yG]at this;simp at this;omega) (S.size) (fun acf acg ak6 Vp IY=>?_);have:=av g;replace zC:=(IY.mem _ this).2 zC;replace g:=IY.b9 g (fun h=>by first|exact ho.dZ g h|exact ho.fc g (by decide) h|(have:=(ho.base _ h).1;omega));replace Cb:=Cb.le IY.le;replace hM:=IY.lt hM;have:=S.size;replace S:=S.cJ IY ho (bw _);replace ho:=Vp;refine al rfl rfl (ae ?_);have fE:l.drop p≠[]:=by intro h;have:=congrArg List.length h;simp at this;omega
   refine⟨rfl,(p+(dec (l.drop p)).2,xs++[((dec (l.drop p)).1:Int)],acf),(.cons rfl (.cons rfl .nil)),?_,?_⟩
   ·refine⟨acg,hM,S,g,zC,ho,?_,?_⟩
    ·rw[yG,om fE,List.drop_drop];simp
    ·have:=(lU fE).2;rw[dh]at this;dsimp only;omega
   ·have:=(lU fE).1;have:=(lU fE).2;rw[dh]at this;dsimp only;omega
  ·refine b5 rfl rfl rfl (ae (au (ir rfl (cP (au (ak (aj rfl rfl (al rfl rfl (ae (aW ?_))))))))));have e:fu l=xs:=by rw[yG,lx (by omega),qg];simp
   rw[e];have:=iL l;rw[e]at this;exact a8 rfl rfl ⟨ho.close fZ S (by omega),S.back⟩
def fT (p:List Int×List (List UInt8)) (c:Int):List Int×List (List UInt8):=
 if fK c=true∨ot c=true then(p.1++[fM c],p.2)else if 0<p.1.length then([],p.2++[kE p.1])else([],p.2)
structure IZ (M:aU) (w:World) (B bo bs:Nat) (p:List Int×List (List UInt8)):Prop where
 a:∃u,w.heap[bo]? =some (.cells #[u] 32 (0,0))∧Own (RT.int .i64) 3 M w B u p.1
 b:∃u,w.heap[bs]? =some (.cells #[u] 55 (0,0))∧Own RT.str 9 M w B u p.2
 m:M bo∧M bs∧B≤bo∧B≤bs
theorem pI {c:Int} (h:fK c=true∨ot c=true):0≤c∧c≤1114111:=by
 simp only[fK,ot,decide_eq_true_eq]at h;omega
theorem xa {M:aU} {B bo bs:Nat} {p:List Int×List (List UInt8)} (w0:World) (hM:Lt M w0) (c:Int) (ht:IZ M w0 B bo bs p) (hl:p.1.length≤1000000∧p.2.length≤1000000):
  Spec Tryz.prog 220 #[.int .i64 c,.pointer (some ⟨bo,0,none⟩),.pointer (some ⟨bs,0,none⟩)] w0 (fun v w=>∃M',Lt M' w∧IZ M' w B bo bs (fT p c)∧Step M w0 M' w (kL M B)):=by
 obtain⟨⟨uo,go,ho⟩,⟨us,gs,hs⟩,gL,iJ,TR,TS⟩:=ht;obtain⟨own,out⟩:=p;dsimp only at ho hs hl ⊢;have fE:bo≠bs:=fun e=>by subst e;rw[go]at gs;cases gs
 refine bE (args:=[_,_,_]) (fn:=Tryz.f220) Tryz.func220 rfl (n:=23) Tryz.ntmps220 ?_;have S:Step M w0 M w0 (kL M B):=(ah _ _).cD (fun _ h=>h.elim) (fun _ h=>h.2);refine au (au (ak (aj rfl rfl ?_)));refine aS rfl rfl abG (B4 _ _) (fun r wc hc=>?_);obtain⟨rfl,rfl⟩:=hc;refine bO (v':= .bool (decide (fK c=true))) (by cases fK c<;>rfl) (aj rfl rfl ?_);refine aZ (g:=6) rfl (fun ach=>?_) (fun ach=>?_)
 ·refine aw rfl rfl rfl rfl (aw rfl rfl rfl rfl (aR rfl rfl rfl (ae (gz rfl (au ?_)))));apply nr 2 [0] 2 aN mixed rfl rfl rfl rfl;intro BE MV;have lr:=MV M;have:=av go;replace gL:=(lr.mem _ this).2 gL;replace go:=lr.aX go;have:=av gs;replace iJ:=(lr.mem _ this).2 iJ;replace gs:=lr.aX gs;replace ho:=ho.bC lr;replace hs:=hs.bC lr;replace hM:=lr.lt hM;have:=S.size;replace S:=S.aE lr;refine br ay rfl rfl rfl (by first|assumption|exact cI lr (by assumption)) rfl ?_;refine ae ⟨rfl,rfl,rfl,?_⟩;refine aj rfl rfl ?_;refine ae ⟨rfl,rfl,rfl,?_⟩;refine dv ?_;refine⟨eA ⟨dx rfl (by assumption) (by first|assumption|exact fun h=>h|(intro h;have h:_=_:=h;omega)),trivial⟩,?_⟩;have kp:=eX aN BE;have D9:fK c=true∨ot c=true:=by first|exact .inl (by assumption)|exact .inr (by assumption)
  refine aS rfl rfl U8 (zA c _ (pI D9)) (fun r wc hc=>?_);obtain⟨rfl,rfl⟩:=hc;refine(fun(kp:eg _ _ _)=>ae ⟨rfl,rfl,fun _=>kp,?_⟩) (by first|exact kp|exact kp.mY (by assumption)|exact kp.goN (by assumption)|exact kp.go (by assumption) (fun _ _ h=>by first|exact h|exact h.elim));refine ez (A:=RT.int .i64) (hn:=by decide) (M:=M) ay I3 (by decide) rfl rfl hM (ie (by have:=pI D9;unfold fM;split<;>omega)) (.inr ⟨rfl,rfl⟩) (fun G0 Cc jh s1_3=>?_);have:=av go;replace gL:=(s1_3.mem _ this).2 gL;replace go:=s1_3.aX go;have:=av gs;replace iJ:=(s1_3.mem _ this).2 iJ;replace gs:=s1_3.aX gs;replace ho:=ho.bC s1_3;replace hs:=hs.bC s1_3;replace hM:=s1_3.lt hM;have:=S.size;replace S:=S.aE s1_3;refine(fun(kp:eg _ _ _)=>ae ⟨rfl,rfl,fun _=>kp,?_⟩) (by first|exact kp|exact kp.mY (by assumption)|exact kp.goN (by assumption)|exact kp.go (by assumption) (fun _ _ h=>by first|exact h|exact h.elim));refine cz (M:=M) (base:=B) ay I3 rfl rfl rfl rfl ho jh (ar _ _) (by simp;omega) (by simp;omega) (by have:=av go;omega) (fun Qp I0 I1 I2 kx=>?_);have:=av go;replace gL:=(kx.mem _ this).2 gL;replace go:=kx.b9 go (fun h=>by first|exact ho.dZ go h|exact ho.fc go (by decide) h|(have:=(ho.base _ h).1;omega));have:=av gs;replace iJ:=(kx.mem _ this).2 iJ;replace gs:=kx.b9 gs (fun h=>by first|exact ho.dZ gs h|exact ho.fc gs (by decide) h|(have:=(ho.base _ h).1;omega));replace jh:=jh.le kx.le;replace hs:=hs.step kx (fun b h1 h2=>hs.jg ho (by decide) h1 h2);replace hM:=kx.lt hM;have:=S.size;replace S:=S.trans kx (fun b hb h=>⟨(ho.base b h).1,(S.mem b hb).1 (ho.mut_ b h)⟩);replace ho:=I2;refine ae ⟨rfl,rfl,fun h=>absurd rfl h,?_⟩;refine cw (M:=I0) gT rfl rfl go rfl ((by obtain⟨_,_,he,_⟩:=ho.isSlice;rw[he];rfl)) gL (fun Qq tO ov=>?_);change Qq.heap[_]? =some (Obj.cells #[Qp] _ _)at tO
  have:=av go;replace gL:=(ov.mem _ this).2 gL;have:=av gs;replace iJ:=(ov.mem _ this).2 iJ;replace gs:=ov.b9 gs (fun hk=>by have hk:_=_:=hk;omega);replace jh:=jh.le ov.le;replace ho:=ho.step ov (fun b hb hk=>by have hk:b=_:=hk;subst hk;first|exact absurd hb (ho.fc go (by decide))|exact absurd hb (ho.fc gs (by decide)));replace hs:=hs.step ov (fun b hb hk=>by have hk:b=_:=hk;subst hk;first|exact absurd hb (hs.fc go (by decide))|exact absurd hb (hs.fc gs (by decide)));replace hM:=ov.lt hM;have:=S.size;replace S:=S.trans ov (fun k hk h=>by have h:_=_:=h;subst h;first|(exfalso;omega)|(show _≤_;omega)|exact⟨by first|omega|assumption,(S.mem _ hk).1 ((ov.mem _ (av go)).1 gL)⟩|exact .inl rfl|exact .inr rfl|exact .inr (.inl rfl)|exact .inr (.inr rfl)|exact rfl);have I4:=tO;clear go;have go:=I4;clear I4;refine ae ⟨rfl,rfl,fun h=>absurd rfl h,?_⟩;refine gX (aW ?_);rw[show fT (own,out) c=(own++[fM c],out)from if_pos D9];exact BJ rfl ⟨I0,hM,⟨⟨_,go,ho⟩,⟨_,gs,hs⟩,gL,iJ,TR,TS⟩,S⟩
 ·refine aq rfl rfl (aj rfl rfl (aq rfl rfl ?_));refine aS rfl rfl abH (D0 _ _) (fun r wc hc=>?_);obtain⟨rfl,rfl⟩:=hc;refine bO (v':= .bool (decide (ot c=true))) (by cases ot c<;>rfl) (aL rfl rfl rfl (ae ?_));refine bW rfl (fun c0=>?_) (fun c0=>?_)
  ·refine au ?_;apply nr 2 [0] 2 aN mixed rfl rfl rfl rfl;intro BE MV;have lr:=MV M;have:=av go;replace gL:=(lr.mem _ this).2 gL;replace go:=lr.aX go;have:=av gs;replace iJ:=(lr.mem _ this).2 iJ;replace gs:=lr.aX gs;replace ho:=ho.bC lr;replace hs:=hs.bC lr;replace hM:=lr.lt hM;have:=S.size;replace S:=S.aE lr;refine br ay rfl rfl rfl (by first|assumption|exact cI lr (by assumption)) rfl ?_;refine ae ⟨rfl,rfl,rfl,?_⟩;refine aj rfl rfl ?_;refine ae ⟨rfl,rfl,rfl,?_⟩;refine dv ?_;refine⟨eA ⟨dx rfl (by assumption) (by first|assumption|exact fun h=>h|(intro h;have h:_=_:=h;omega)),trivial⟩,?_⟩;have kp:=eX aN BE;have D9:fK c=true∨ot c=true:=by first|exact .inl (by assumption)|exact .inr (by assumption)
   refine aS rfl rfl U8 (zA c _ (pI D9)) (fun r wc hc=>?_);obtain⟨rfl,rfl⟩:=hc;refine(fun(kp:eg _ _ _)=>ae ⟨rfl,rfl,fun _=>kp,?_⟩) (by first|exact kp|exact kp.mY (by assumption)|exact kp.goN (by assumption)|exact kp.go (by assumption) (fun _ _ h=>by first|exact h|exact h.elim));refine ez (A:=RT.int .i64) (hn:=by decide) (M:=M) ay I3 (by decide) rfl rfl hM (ie (by have:=pI D9;unfold fM;split<;>omega)) (.inr ⟨rfl,rfl⟩) (fun G0 Cc jh s1_3=>?_);have:=av go;replace gL:=(s1_3.mem _ this).2 gL;replace go:=s1_3.aX go;have:=av gs;replace iJ:=(s1_3.mem _ this).2 iJ;replace gs:=s1_3.aX gs;replace ho:=ho.bC s1_3;replace hs:=hs.bC s1_3;replace hM:=s1_3.lt hM;have:=S.size;replace S:=S.aE s1_3;refine(fun(kp:eg _ _ _)=>ae ⟨rfl,rfl,fun _=>kp,?_⟩) (by first|exact kp|exact kp.mY (by assumption)|exact kp.goN (by assumption)|exact kp.go (by assumption) (fun _ _ h=>by first|exact h|exact h.elim));refine cz (M:=M) (base:=B) ay I3 rfl rfl rfl rfl ho jh (ar _ _) (by simp;omega) (by simp;omega) (by have:=av go;omega) (fun Qp I0 I1 I2 kx=>?_);have:=av go;replace gL:=(kx.mem _ this).2 gL;replace go:=kx.b9 go (fun h=>by first|exact ho.dZ go h|exact ho.fc go (by decide) h|(have:=(ho.base _ h).1;omega));have:=av gs;replace iJ:=(kx.mem _ this).2 iJ;replace gs:=kx.b9 gs (fun h=>by first|exact ho.dZ gs h|exact ho.fc gs (by decide) h|(have:=(ho.base _ h).1;omega));replace jh:=jh.le kx.le;replace hs:=hs.step kx (fun b h1 h2=>hs.jg ho (by decide) h1 h2);replace hM:=kx.lt hM;have:=S.size;replace S:=S.trans kx (fun b hb h=>⟨(ho.base b h).1,(S.mem b hb).1 (ho.mut_ b h)⟩);replace ho:=I2;refine ae ⟨rfl,rfl,fun h=>absurd rfl h,?_⟩;refine cw (M:=I0) gT rfl rfl go rfl ((by obtain⟨_,_,he,_⟩:=ho.isSlice;rw[he];rfl)) gL (fun Qq tO ov=>?_);change Qq.heap[_]? =some (Obj.cells #[Qp] _ _)at tO
   have:=av go;replace gL:=(ov.mem _ this).2 gL;have:=av gs;replace iJ:=(ov.mem _ this).2 iJ;replace gs:=ov.b9 gs (fun hk=>by have hk:_=_:=hk;omega);replace jh:=jh.le ov.le;replace ho:=ho.step ov (fun b hb hk=>by have hk:b=_:=hk;subst hk;first|exact absurd hb (ho.fc go (by decide))|exact absurd hb (ho.fc gs (by decide)));replace hs:=hs.step ov (fun b hb hk=>by have hk:b=_:=hk;subst hk;first|exact absurd hb (hs.fc go (by decide))|exact absurd hb (hs.fc gs (by decide)));replace hM:=ov.lt hM;have:=S.size;replace S:=S.trans ov (fun k hk h=>by have h:_=_:=h;subst h;first|(exfalso;omega)|(show _≤_;omega)|exact⟨by first|omega|assumption,(S.mem _ hk).1 ((ov.mem _ (av go)).1 gL)⟩|exact .inl rfl|exact .inr rfl|exact .inr (.inl rfl)|exact .inr (.inr rfl)|exact rfl);have I4:=tO;clear go;have go:=I4;clear I4;refine ae ⟨rfl,rfl,fun h=>absurd rfl h,?_⟩;refine gX (aW ?_);rw[show fT (own,out) c=(own++[fM c],out)from if_pos D9];exact BJ rfl ⟨I0,hM,⟨⟨_,go,ho⟩,⟨_,gs,hs⟩,gL,iJ,TR,TS⟩,S⟩
  ·refine bg (au (au (ak (br ay rfl rfl rfl (by assumption) rfl (gy ay rfl ho rfl (hY rfl rfl rfl (ae ?_)))))));refine bW rfl (fun c2=>?_) (fun c2=>?_)
   ·apply nr 2 [0] 2 aN mixed rfl rfl rfl rfl;intro Qr L5;have lI:=L5 M;have:=av go;replace gL:=(lI.mem _ this).2 gL;replace go:=lI.aX go;have:=av gs;replace iJ:=(lI.mem _ this).2 iJ;replace gs:=lI.aX gs;replace ho:=ho.bC lI;replace hs:=hs.bC lI;replace hM:=lI.lt hM;have:=S.size;replace S:=S.aE lI;refine br aJ rfl rfl rfl (by first|assumption|exact cI lI (by assumption)) rfl ?_;refine ae ⟨rfl,rfl,rfl,?_⟩;refine br ay rfl rfl rfl (by first|assumption|exact cI lI (by assumption)) rfl ?_;refine ae ⟨rfl,rfl,rfl,?_⟩;refine dv ?_;refine⟨eA ⟨dx rfl (by assumption) (by first|assumption|exact fun h=>h|(intro h;have h:_=_:=h;omega)),trivial⟩,?_⟩;have kp:=eX aN Qr;refine aS rfl rfl abI (GX (M:=rm M uo) _ (fun b hb=>hM b hb.1) (ho.view (by omega)) (by omega)) (fun r3 w3 hc=>?_);obtain⟨rfl,s3⟩:=hc;replace s3:=s3.any M;have:=av go;replace gL:=(s3.mem _ this).2 gL;replace go:=s3.aX go;have:=av gs;replace iJ:=(s3.mem _ this).2 iJ;replace gs:=s3.aX gs;replace ho:=ho.bC s3;replace hs:=hs.bC s3;replace hM:=s3.lt hM;have:=S.size;replace S:=S.aE s3;refine(fun(kp:eg _ _ _)=>ae ⟨rfl,rfl,fun _=>kp,?_⟩) (by first|exact kp|exact kp.mY (by assumption)|exact kp.goN (by assumption)|exact kp.go (by assumption) (fun _ _ h=>by first|exact h|exact h.elim));refine ez (A:=RT.str) (hn:=by decide) (M:=M) aJ I9 (by decide) rfl rfl hM (jM.2 ⟨rfl,by have:=gm own;omega⟩) (.inr ⟨rfl,rfl⟩) (fun ak7 ak8 xb Cd=>?_);have:=av go;replace gL:=(Cd.mem _ this).2 gL;replace go:=Cd.aX go;have:=av gs;replace iJ:=(Cd.mem _ this).2 iJ;replace gs:=Cd.aX gs;replace ho:=ho.bC Cd;replace hs:=hs.bC Cd;replace hM:=Cd.lt hM;have:=S.size;replace S:=S.aE Cd;refine(fun(kp:eg _ _ _)=>ae ⟨rfl,rfl,fun _=>kp,?_⟩) (by first|exact kp|exact kp.mY (by assumption)|exact kp.goN (by assumption)|exact kp.go (by assumption) (fun _ _ h=>by first|exact h|exact h.elim))
    refine cz (M:=M) (base:=B) aJ I9 rfl rfl rfl rfl hs xb (ar _ _) (by simp;omega) (by simp;omega) (by have:=av go;omega) (fun aci Vq ak9 Vr Ce=>?_);have:=av go;replace gL:=(Ce.mem _ this).2 gL;replace go:=Ce.b9 go (fun h=>by first|exact hs.dZ go h|exact hs.fc go (by decide) h|(have:=(hs.base _ h).1;omega));have:=av gs;replace iJ:=(Ce.mem _ this).2 iJ;replace gs:=Ce.b9 gs (fun h=>by first|exact hs.dZ gs h|exact hs.fc gs (by decide) h|(have:=(hs.base _ h).1;omega));replace xb:=xb.le Ce.le;replace ho:=ho.step Ce (fun b h1 h2=>ho.jg hs (by decide) h1 h2);replace hM:=Ce.lt hM;have:=S.size;replace S:=S.trans Ce (fun b hb h=>⟨(hs.base b h).1,(S.mem b hb).1 (hs.mut_ b h)⟩);replace hs:=Vr;refine ae ⟨rfl,rfl,fun h=>absurd rfl h,?_⟩;refine cw (M:=Vq) ph rfl rfl gs rfl ((by obtain⟨_,_,he,_⟩:=hs.isSlice;rw[he];rfl)) iJ (fun acj Vs AT=>?_);change acj.heap[_]? =some (Obj.cells #[aci] _ _)at Vs;have:=av go;replace gL:=(AT.mem _ this).2 gL;replace go:=AT.b9 go (fun hk=>by have hk:_=_:=hk;omega);have:=av gs;replace iJ:=(AT.mem _ this).2 iJ;replace xb:=xb.le AT.le;replace ho:=ho.step AT (fun b hb hk=>by have hk:b=_:=hk;subst hk;first|exact absurd hb (ho.fc go (by decide))|exact absurd hb (ho.fc gs (by decide)));replace hs:=hs.step AT (fun b hb hk=>by have hk:b=_:=hk;subst hk;first|exact absurd hb (hs.fc go (by decide))|exact absurd hb (hs.fc gs (by decide)));replace hM:=AT.lt hM;have:=S.size;replace S:=S.trans AT (fun k hk h=>by have h:_=_:=h;subst h;first|(exfalso;omega)|(show _≤_;omega)|exact⟨by first|omega|assumption,(S.mem _ hk).1 ((AT.mem _ (av gs)).1 iJ)⟩|exact .inl rfl|exact .inr rfl|exact .inr (.inl rfl)|exact .inr (.inr rfl)|exact rfl);have gs_:=Vs;clear gs;have gs:=gs_;clear gs_;refine ae ⟨rfl,rfl,fun h=>absurd rfl h,?_⟩;refine gX (ak ?_);refine cw (M:=Vq) gT rfl rfl go rfl (rfl) gL (fun Ea xc jP=>?_)
    change Ea.heap[_]? =some (Obj.cells #[.slice none 0 0] _ _)at xc;have:=av go;replace gL:=(jP.mem _ this).2 gL;have:=av gs;replace iJ:=(jP.mem _ this).2 iJ;replace gs:=jP.b9 gs (fun hk=>by have hk:_=_:=hk;omega);replace xb:=xb.le jP.le;replace ho:=ho.step jP (fun b hb hk=>by have hk:b=_:=hk;subst hk;first|exact absurd hb (ho.fc go (by decide))|exact absurd hb (ho.fc gs (by decide)));replace hs:=hs.step jP (fun b hb hk=>by have hk:b=_:=hk;subst hk;first|exact absurd hb (hs.fc go (by decide))|exact absurd hb (hs.fc gs (by decide)));replace hM:=jP.lt hM;have:=S.size;replace S:=S.trans jP (fun k hk h=>by have h:_=_:=h;subst h;first|(exfalso;omega)|(show _≤_;omega)|exact⟨by first|omega|assumption,(S.mem _ hk).1 ((jP.mem _ (av go)).1 gL)⟩|exact .inl rfl|exact .inr rfl|exact .inr (.inl rfl)|exact .inr (.inr rfl)|exact rfl);have I4:=xc;clear go;have go:=I4;clear I4;refine ae ?_
    first|refine ig.nil ?_|simp+decide only[Am,nW,if_true,if_false]|skip
    have TT: ¬(fK c=true∨ot c=true):=by rintro(h|h)<;>exact absurd h (by assumption)
    first
    |rw[show fT (own,out) c=([],out++[kE own])from(if_neg TT).trans (if_pos (by show 0<own.length;omega))]
     exact l7 rfl ⟨_,hM,⟨⟨_,go,dO _ _ _ _ _⟩,⟨_,gs,hs⟩,gL,iJ,TR,TS⟩,S⟩
    |rw[show fT (own,out) c=([],out)from(if_neg TT).trans (if_neg (by show¬0<own.length;omega))]
     exact l7 rfl ⟨_,hM,⟨⟨_,go,dO _ _ _ _ _⟩,⟨_,gs,hs⟩,gL,iJ,TR,TS⟩,S⟩
   ·refine bg (ak ?_);refine cw (M:=M) gT rfl rfl go rfl (rfl) gL (fun Ea xc jP=>?_);change Ea.heap[_]? =some (Obj.cells #[.slice none 0 0] _ _)at xc;have:=av go;replace gL:=(jP.mem _ this).2 gL;have:=av gs;replace iJ:=(jP.mem _ this).2 iJ;replace gs:=jP.b9 gs (fun hk=>by have hk:_=_:=hk;omega);replace ho:=ho.step jP (fun b hb hk=>by have hk:b=_:=hk;subst hk;first|exact absurd hb (ho.fc go (by decide))|exact absurd hb (ho.fc gs (by decide)));replace hs:=hs.step jP (fun b hb hk=>by have hk:b=_:=hk;subst hk;first|exact absurd hb (hs.fc go (by decide))|exact absurd hb (hs.fc gs (by decide)));replace hM:=jP.lt hM;have:=S.size;replace S:=S.trans jP (fun k hk h=>by have h:_=_:=h;subst h;first|(exfalso;omega)|(show _≤_;omega)|exact⟨by first|omega|assumption,(S.mem _ hk).1 ((jP.mem _ (av go)).1 gL)⟩|exact .inl rfl|exact .inr rfl|exact .inr (.inl rfl)|exact .inr (.inr rfl)|exact rfl);have I4:=xc;clear go;have go:=I4;clear I4;refine ae ?_
    first|refine ig.nil ?_|simp+decide only[Am,nW,if_true,if_false]|skip
    have TT: ¬(fK c=true∨ot c=true):=by rintro(h|h)<;>exact absurd h (by assumption)
    first
    |rw[show fT (own,out) c=([],out++[kE own])from(if_neg TT).trans (if_pos (by show 0<own.length;omega))]
     exact l7 rfl ⟨_,hM,⟨⟨_,go,dO _ _ _ _ _⟩,⟨_,gs,hs⟩,gL,iJ,TR,TS⟩,S⟩
    |rw[show fT (own,out) c=([],out)from(if_neg TT).trans (if_neg (by show¬0<own.length;omega))]
     exact l7 rfl ⟨_,hM,⟨⟨_,go,dO _ _ _ _ _⟩,⟨_,gs,hs⟩,gL,iJ,TR,TS⟩,S⟩
theorem nF (l:List Int):∀p,(l.foldl fT p).1.length≤p.1.length+l.length∧(l.foldl fT p).2.length≤p.2.length+l.length:=by
 induction l with
 |nil=>intro p;simp
 |cons c l ih=>
  intro p;have:=ih (fT p c)
  have h1:(fT p c).1.length≤p.1.length+1∧(fT p c).2.length≤p.2.length+1:=by
   unfold fT
   split
   ·simp
   ·split<;>simp
  simp only[List.foldl_cons,cK];omega
def words (l:List UInt8):List (List UInt8):=((fu l++[32]).foldl fT ([],[])).2
theorem lV (l:List UInt8):(words l).length≤l.length+1:=by
 have h:=(nF (fu l++[32]) ([],[])).2;have h2:=iL l;rw[bP]at h;have h3:([]:List (List UInt8)).length=0:=rfl;have h4: [(32:Int)].length=1:=rfl;unfold words;simp only[h3,h4]at h;omega
theorem xd {M:aU} {l:List UInt8} (w0:World) (hM:Lt M w0) (hl:l.length≤900000):
  Spec Tryz.prog 192 #[.string ⟨l.toArray⟩] w0 (fun v w=>(RT.str.sl).V M w (words l) v∧Step M w0 M w aN):=by
 have fZ:=hM;refine bE (args:=[_]) (fn:=Tryz.f192) Tryz.func192 rfl (n:=23) Tryz.ntmps192 ?_;have S:Step M w0 M w0 aN:=(ah _ _).cD (fun _ h=>h.elim) (fun _ h=>h.elim);refine au (ak (al rfl rfl (ae (au (ak ?_)))));refine eu M ph rfl (fun fv vz G1 I6 fU jQ=>?_);obtain⟨eY,ji⟩:∃M',M'=ins M fv:=⟨_,rfl⟩;rw[←ji]at jQ;have eL:eY fv:=by rw[ji];exact .inl rfl
 change vz.heap[fv]? =some (.cells #[.slice none 0 0] _ _)at fU;replace hM:=jQ.lt hM;have:=S.size;replace S:=S.aE jQ;refine ae (au (ak ?_));refine eu eY gT rfl (fun gA Qs ack acm Cf xe=>?_);obtain⟨I7,xf⟩:∃M',M'=ins eY gA:=⟨_,rfl⟩;rw[←xf]at xe;have xg:I7 gA:=by rw[xf];exact .inl rfl
 change Qs.heap[gA]? =some (.cells #[.slice none 0 0] _ _)at Cf;have:=av fU;replace eL:=(xe.mem _ this).2 eL;replace fU:=xe.aX fU;replace hM:=xe.lt hM;have:=S.size;replace S:=S.aE xe;refine ae (au (ak (jv (xs:=[]) (ys:=[.tmp 4,.tmp 3]) rfl rfl rfl (al rfl rfl (ae (au (au (ak (aj rfl rfl ?_)))))))));refine aS rfl rfl abJ (D7 _ hM (by omega)) (fun v4 w4 hc=>?_);obtain⟨yG,s4⟩:=hc;have:=av fU;replace eL:=(s4.mem _ this).2 eL;replace fU:=s4.aX fU;have:=av Cf;replace xg:=(s4.mem _ this).2 xg;replace Cf:=s4.aX Cf;replace hM:=s4.lt hM;have:=S.size;replace S:=S.aE s4;refine bF ay rfl yG rfl (aj rfl rfl (ae (bu ?_)));refine de (σ:=Nat) (fun k=>[(3,.pointer (some ⟨fv,0,none⟩)),(5,.func (.func 220) #[] #[.pointer (some ⟨gA,0,none⟩),.pointer (some ⟨fv,0,none⟩)]),(10,v4),(11,.int .i64 ((fu l).length:Int)),(12,.int .i64 (k:Int))]) (fun k w=>∃M',Lt M' w∧Step M w0 M' w aN∧IZ M' w w0.heap.size gA fv (((fu l).take k).foldl fT ([],[]))∧((RT.int .i64).sl).V M' w (fu l) v4∧k≤(fu l).length) (fun k=>(fu l).length-k) 0 (.cons rfl (.cons rfl (.cons rfl (.cons rfl (.cons rfl .nil))))) ?_ ?_
 ·exact⟨_,hM,S,⟨⟨_,Cf,dO _ _ _ _ _⟩,⟨_,fU,dO _ _ _ _ _⟩,xg,eL,by omega,by omega⟩,yG,bM _⟩
 ·rintro k w ⟨M1,hM,S,ht,yG,hk⟩;refine au (ak (cu rfl rfl rfl (ae (au ?_))));refine bW rfl (fun c5=>?_) (fun c5=>?_)
  ·refine bg (au (bu (au (ak ?_))));refine bS (M:=M1) ay I3 rfl rfl rfl yG (ar _ _) (by omega) (fun u6 c HT MW=>?_);refine bK (M:=M1) aB rfl rfl MW (ar _ _) (fun in6=>?_);refine al rfl rfl (ae (ak (aj rfl rfl (aj rfl rfl ?_))));have qu:=iL l;have Ie:=nF ((fu l).take k) ([],[]);rw[bU]at Ie;refine Rg.rM (first:=[]) (captured:=[.pointer (some ⟨gA,0,none⟩),.pointer (some ⟨fv,0,none⟩)]) rfl rfl rfl U7 (xa (B:=w0.heap.size) _ hM c ht (by simp at Ie;omega)) (fun r7 w7 hc=>?_);obtain⟨M2,Qt,I8,s7⟩:=hc;have tk:(fu l).take (k+1)=(fu l).take k++[c]:=by rw[bX];simp only[aK]at HT;rw[HT];rfl
   refine ae (ak (bQ rfl rfl rfl (by omega) (aj rfl rfl (ae ?_))));refine⟨rfl,k+1,(.cons rfl (.cons rfl (.cons rfl (.cons rfl (.cons rfl .nil))))),?_,?_⟩
   ·exact⟨M2,Qt,S.lh s7 (bw _),by rw[tk,mD];exact I8,yG.le s7.le,by omega⟩
   ·omega
  ·refine cP (au (ak (aj rfl rfl ?_)));have qu:=iL l;have Ie:=nF ((fu l).take k) ([],[]);rw[bU]at Ie;refine Rg.rM (first:=[]) (captured:=[.pointer (some ⟨gA,0,none⟩),.pointer (some ⟨fv,0,none⟩)]) rfl rfl rfl U7 (xa (B:=w0.heap.size) _ hM 32 ht (by simp at Ie;omega)) (fun r9 w9 hc=>?_);obtain⟨M2,Qt,I8,s9⟩:=hc;have e9:fT (((fu l).take k).foldl fT ([],[])) 32=(fu l++[32]).foldl fT ([],[]):=by rw[mD,bm (by omega)];rfl
   rw[e9]at I8;obtain⟨_,⟨us,gs,hs⟩,_⟩:=I8;replace S:=S.lh s9 (bw _);refine ae (au (ak (br aJ rfl rfl rfl gs rfl (al rfl rfl (ae (aW ?_))))));exact a8 rfl rfl ⟨fQ fZ S hs (by have:=lV l;omega),S.back⟩
end Go.K
namespace Go.K
open Go.Proofs
set_option maxRecDepth 10000
theorem Ja {p:List Int×List (List UInt8)} {c:Int} (h:vQ c=true):fT p c=(p.1++[fM c],p.2):=if_pos (by simpa[vQ]using h)
theorem qh {p:List Int×List (List UInt8)} {c:Int} (h:vQ c=false):fT p c=if 0<p.1.length then([],p.2++[kE p.1])else([],p.2):=if_neg (by simpa[vQ]using h)
def HU (sg:List Int) (i:Nat) (ws:List (List UInt8)):Prop:=(i≤sg.length∧(sg.take i).foldl fT ([],[])=([],ws))∨(i=sg.length+1∧((sg++[32]).foldl fT ([],[])).2=ws)
theorem Jb {c:Int} (h:vQ c=true):0≤c∧c≤1114111:=pI (by simpa[vQ]using h)
theorem Vt:vQ 32=false:=by decide
theorem tP {sg:List Int} {i:Nat} {c:Int} (h:sg[i]? =some c) (p:List Int×List (List UInt8)):(sg.take (i+1)).foldl fT p=fT ((sg.take i).foldl fT p) c:=by
 rw[bX,h,cq,mD];rfl
theorem HU.skip {sg:List Int} {i:Nat} {ws:List (List UInt8)} {c:Int} (h:HU sg i ws) (hc:sg[i]? =some c) (hi:vQ c=false):HU sg (i+1) ws:=by
 have ek:=(aF.1 hc).1;rcases h with⟨_,h⟩|⟨h,_⟩
 ·exact .inl ⟨ek,by rw[tP hc,h,qh hi];rfl⟩
 ·omega
theorem HU.word {sg:List Int} {j:Nat} {own:List Int} {ws:List (List UInt8)} (h:(sg.take j).foldl fT ([],[])=(own,ws)) (ho:0<own.length) (hj:j≤sg.length) (hn:∀c,sg[j]? =some c→vQ c=false):HU sg (j+1) (ws++[kE own]):=by
 rcases pq hj with e|ek
 ·refine .inr ⟨by omega,?_⟩;rw[e,tt]at h;rw[mD,h];show(fT (own,ws) 32).2=_;rw[qh Vt,if_pos ho]
 ·have hc:sg[j]? =some sg[j]:=aI ek;exact .inl ⟨ek,by rw[tP hc,h,qh (hn _ hc),if_pos ho]⟩
theorem HU.done {sg:List Int} {i:Nat} {ws:List (List UInt8)} (h:HU sg i ws) (hi:sg.length≤i):((sg++[32]).foldl fT ([],[])).2=ws:=by
 rcases h with⟨h1,h⟩|⟨_,h⟩
 ·rw[bm (by omega)]at h;rw[mD,h];show(fT ([],ws) 32).2=_;rw[qh Vt];rfl
 ·exact h
theorem HU.len {sg:List Int} {i:Nat} {ws:List (List UInt8)} (h:HU sg i ws):ws.length≤sg.length+1:=by
 rcases h with⟨_,h⟩|⟨_,h⟩
 ·have:=(nF (sg.take i) ([],[])).2;rw[h,bU]at this;simp only[j4]at this;have e:(([]:List Int),([]:List (List UInt8))).2.length=0:=rfl;omega
 ·have:=(nF (sg++[32]) ([],[])).2;rw[h,bP]at this;have e:(([]:List Int),([]:List (List UInt8))).2.length=0:=rfl;have e2: [(32:Int)].length=1:=rfl;omega
theorem gK {sg:List Int} {j:Nat} {own:List Int} {ws:List (List UInt8)} (h:(sg.take j).foldl fT ([],[])=(own,ws)):own.length≤sg.length∧ws.length≤sg.length:=by
 have:=nF (sg.take j) ([],[]);rw[h,bU]at this;simp only[j4]at this;have e:(([]:List Int),([]:List (List UInt8))).1.length=0:=rfl;have e2:(([]:List Int),([]:List (List UInt8))).2.length=0:=rfl;omega
theorem uH {M:aU} {l:List UInt8} (w0:World) (hM:Lt M w0) (hl:l.length≤900000):
  Spec Tryz.prog 191 #[.string ⟨l.toArray⟩] w0 (fun v w=>(RT.str.sl).V M w (words l) v∧Step M w0 M w aN):=by
 have fZ:=hM;have qu:=iL l;refine bE (args:=[_]) (fn:=Tryz.f191) Tryz.func191 rfl (n:=50) Tryz.ntmps191 ?_;have S:Step M w0 M w0 aN:=(ah _ _).cD (fun _ h=>h.elim) (fun _ h=>h.elim);refine au (ak (al rfl rfl (ae (au (ak (aj rfl rfl ?_))))));refine aS rfl rfl abE (B9 _ hM (by omega)) (fun v1 w1 hc=>?_);obtain⟨hv,s1⟩:=hc;replace hM:=s1.lt hM;have:=S.size;replace S:=S.aE s1;refine al rfl rfl (ae (au (ak (al rfl rfl (ae (au (au (ak (al rfl rfl (ae (bu ?_)))))))))));refine de (σ:=Nat×Value) (fun q=>[(3,v1),(4,q.2),(5,.int .i64 (q.1:Int))]) (fun q w=>∃M' ws,Lt M' w∧Step M w0 M' w aN∧Own RT.str 9 M' w w0.heap.size q.2 ws∧((RT.int .i64).sl).V M' w (fu l) v1∧HU (fu l) q.1 ws) (fun q=>(fu l).length+1-q.1) (0,.slice none 0 0) (.cons rfl (.cons rfl (.cons rfl .nil))) ?_ ?_
 ·exact⟨M,[],hM,S,dO _ _ _ _ _,hv,.inl ⟨bM _,rfl⟩⟩
 ·rintro⟨i,u4⟩ w ⟨M1,ws,hM,S,sf,hv,Vu⟩;dsimp only at sf Vu ⊢;refine au (au (ak (aj rfl rfl (aj rfl rfl (bF ay rfl hv rfl (cu rfl rfl rfl (ae ?_)))))));refine bW rfl (fun c4=>?_) (fun c4=>?_)
  ·refine bg (au (bu (au (ak (aj rfl rfl (aj rfl rfl ?_))))));refine bS (M:=M1) ay I3 rfl rfl rfl hv (ar _ _) (by omega) (fun MX c Z6 huc=>?_);refine bK (M:=M1) aB rfl rfl huc (ar _ _) (fun inc=>?_);rw[aK]at Z6;refine aS rfl rfl U5 (B8 c _) (fun r wc hc=>?_);obtain⟨rfl,rfl⟩:=hc;refine bO (v':= .bool (decide (vQ c=true))) (by cases vQ c<;>rfl) (al rfl rfl (ae (au (au (ak (aj rfl rfl (fP rfl rfl (bO (v':= .bool (decide (vQ c=false))) (by cases vQ c<;>rfl) (ae ?_)))))))));refine bW rfl (fun c7=>?_) (fun c7=>?_)
   ·refine cP (ak (aj rfl rfl (bQ rfl rfl rfl (by omega) (al rfl rfl (ae ?_)))));refine⟨rfl,(i+1,u4),(.cons rfl (.cons rfl (.cons rfl .nil))),?_,?_⟩
    ·exact⟨M1,ws,hM,S,sf,hv,Vu.skip Z6 (by assumption)⟩
    ·dsimp only;omega
   ·refine bg (au (ak (al rfl rfl (ae (au (bu ?_))))));refine de (σ:=Nat×List Int×Value) (fun q=>[(3,v1),(4,u4),(5,.int .i64 (q.1:Int)),(7,q.2.2)]) (fun q w=>∃M',Lt M' w∧Step M w0 M' w aN∧Own RT.str 9 M' w w0.heap.size u4 ws∧Own (RT.int .i64) 3 M' w w0.heap.size q.2.2 q.2.1∧((RT.int .i64).sl).V M' w (fu l) v1∧((fu l).take q.1).foldl fT ([],[])=(q.2.1,ws)∧i≤q.1∧q.1≤(fu l).length∧(i<q.1→0<q.2.1.length)) (fun q=>(fu l).length-q.1) (i,[],.slice none 0 0) (.cons rfl (.cons rfl (.cons rfl (.cons rfl .nil)))) ?_ ?_
    ·have acn:((fu l).take i).foldl fT ([],[])=([],ws):=by
      rcases Vu with⟨_,h⟩|⟨h,_⟩
      ·exact h
      ·omega
     exact⟨M1,hM,S,sf,dO _ _ _ _ _,hv,acn,bw _,by dsimp only;omega,fun h=>absurd h (jr _)⟩
    ·rintro⟨j,own,u7⟩ w ⟨M2,hM,S,sf,tQ,hv,hf,L3,uB,tB⟩;dsimp only at tQ hf L3 uB tB ⊢;refine au (au (ak (aj rfl rfl (aj rfl rfl (bF ay rfl hv rfl (cu rfl rfl rfl (aj rfl rfl ?_)))))));refine aZ (g:=27) rfl (fun aco=>?_) (fun aco=>?_)
     ·refine aq rfl rfl (aj rfl rfl (aq rfl rfl (aj rfl rfl (aq rfl rfl ?_))));refine bS (M:=M2) ay I3 rfl rfl rfl hv (ar _ _) (by omega) (fun alb d tR hud=>?_);refine aq rfl rfl ?_;refine bK (M:=M2) aB rfl rfl hud (ar _ _) (fun ind=>?_);rw[aK]at tR;refine aq rfl rfl ?_;refine aS rfl rfl U5 (B8 d _) (fun r wc hc=>?_);obtain⟨rfl,rfl⟩:=hc;refine bO (v':= .bool (decide (vQ d=true))) (by cases vQ d<;>rfl) (aR rfl rfl rfl (ae ?_));refine bW rfl (fun c9=>?_) (fun c9=>?_)
      ·refine bg (bu (au (ak (aj rfl rfl (aj rfl rfl (aj rfl rfl ?_))))));refine bS (M:=M2) ay I3 rfl rfl rfl hv (ar _ _) (by omega) (fun Vv e jt hue=>?_);refine bK (M:=M2) aB rfl rfl hue (ar _ _) (fun lG=>?_);rw[aK]at jt;have Qu:vQ e=true:=by rw[tR]at jt;cases jt;assumption
       refine aS rfl rfl abF (D3 e _ (Jb Qu)) (fun r wc hc=>?_);obtain⟨rfl,rfl⟩:=hc;refine ez (A:=RT.int .i64) (hn:=by decide) (M:=M2) ay I3 (by decide) rfl rfl hM (ie (by have:=Jb Qu;unfold fM;split<;>omega)) (.inr ⟨rfl,rfl⟩) (fun ahz ahA Eb Cg=>?_);replace hv:=hv.le Cg.le;replace sf:=sf.bC Cg;replace tQ:=tQ.bC Cg;replace hM:=Cg.lt hM;have:=S.size;replace S:=S.aE Cg;refine cz (M:=M2) (base:=w0.heap.size) ay I3 rfl rfl rfl rfl tQ Eb (ar _ _) (by have:=gK hf;simp;omega) (by have:=gK hf;simp;omega) (S.size) (fun Oy Vw Vx Qv oP=>?_);replace hv:=hv.le oP.le;replace Eb:=Eb.le oP.le;replace sf:=sf.step oP (fun b h1 h2=>sf.jg tQ (by decide) h1 h2);replace hM:=oP.lt hM;have:=S.size;replace S:=S.cJ oP tQ (bw _);replace tQ:=Qv;refine al rfl rfl (ae (ak (aj rfl rfl (bQ rfl rfl rfl (by omega) (al rfl rfl (ae ?_))))));refine⟨rfl,(j+1,own++[fM e],Oy),(.cons rfl (.cons rfl (.cons rfl (.cons rfl .nil)))),?_,?_⟩
       ·exact⟨Vw,hM,S,sf,tQ,hv,by rw[tP jt,hf,Ja Qu],by dsimp only;omega,by dsimp only;omega,fun _=>by simp⟩
       ·dsimp only;omega
      ·refine cP (ak (aj rfl rfl (aj rfl rfl ?_)));refine aS rfl rfl U6 (wY (M:=rm M2 u7) _ (fun b hb=>hM b hb.1) (tQ.view (by have:=gK hf;omega)) (by have:=gK hf;omega)) (fun Vy TU Qw=>?_);obtain⟨rfl,xh⟩:=Qw;replace xh:=xh.any M2;replace hv:=hv.le xh.le;replace sf:=sf.bC xh;replace tQ:=tQ.bC xh;replace hM:=xh.lt hM;have:=S.size;replace S:=S.aE xh;refine ez (A:=RT.str) (hn:=by decide) (M:=M2) aJ I9 (by decide) rfl rfl hM (jM.2 ⟨rfl,by have:=gm own;have:=gK hf;omega⟩) (.inr ⟨rfl,rfl⟩) (fun Vz VA rl pJ=>?_);replace hv:=hv.le pJ.le;replace sf:=sf.bC pJ;replace tQ:=tQ.bC pJ;replace hM:=pJ.lt hM;have:=S.size;replace S:=S.aE pJ;refine cz (M:=M2) (base:=w0.heap.size) aJ I9 rfl rfl rfl rfl sf rl (ar _ _) (by have:=gK hf;simp;omega) (by have:=gK hf;simp;omega) (S.size) (fun xi pK Jc rn fe=>?_);replace hv:=hv.le fe.le;replace rl:=rl.le fe.le;replace tQ:=tQ.step fe (fun b h1 h2=>tQ.jg sf (by decide) h1 h2);replace hM:=fe.lt hM;have:=S.size;replace S:=S.cJ fe sf (bw _);replace sf:=rn;refine al rfl rfl (ae (ak (aj rfl rfl (bQ rfl rfl rfl (by omega) (al rfl rfl (ae ?_))))))
       have tB:0<own.length:=by
        rcases pq L3 with e|h
        ·exfalso;subst e
         first|omega|(rw[Z6]at tR;cases tR;exact c9 (by cases hq:vQ c with|true=>rfl|false=>exact absurd hq (by assumption)))
        ·exact tB h
       have Qx:∀c,(fu l)[j]? =some c→vQ c=false:=fun c hc=>by
        first|(rw[fL (by omega)]at hc;cases hc)|(rw[tR]at hc;cases hc;exact fp.2 c9)
       refine⟨rfl,(j+1,xi),(.cons rfl (.cons rfl (.cons rfl .nil))),?_,?_⟩
       ·exact⟨pK,_,hM,S,sf,hv,HU.word hf tB uB Qx⟩
       ·dsimp only;omega
     ·refine aw rfl rfl rfl rfl (aw rfl rfl rfl rfl (aw rfl rfl rfl rfl (aw rfl rfl rfl rfl (aw rfl rfl rfl rfl (aL rfl rfl rfl (ae (ir rfl (cP (ak (aj rfl rfl (aj rfl rfl ?_)))))))))));refine aS rfl rfl U6 (wY (M:=rm M2 u7) _ (fun b hb=>hM b hb.1) (tQ.view (by have:=gK hf;omega)) (by have:=gK hf;omega)) (fun Vy TU Qw=>?_);obtain⟨rfl,xh⟩:=Qw;replace xh:=xh.any M2;replace hv:=hv.le xh.le;replace sf:=sf.bC xh;replace tQ:=tQ.bC xh;replace hM:=xh.lt hM;have:=S.size;replace S:=S.aE xh;refine ez (A:=RT.str) (hn:=by decide) (M:=M2) aJ I9 (by decide) rfl rfl hM (jM.2 ⟨rfl,by have:=gm own;have:=gK hf;omega⟩) (.inr ⟨rfl,rfl⟩) (fun Vz VA rl pJ=>?_);replace hv:=hv.le pJ.le;replace sf:=sf.bC pJ;replace tQ:=tQ.bC pJ;replace hM:=pJ.lt hM;have:=S.size;replace S:=S.aE pJ;refine cz (M:=M2) (base:=w0.heap.size) aJ I9 rfl rfl rfl rfl sf rl (ar _ _) (by have:=gK hf;simp;omega) (by have:=gK hf;simp;omega) (S.size) (fun xi pK Jc rn fe=>?_);replace hv:=hv.le fe.le;replace rl:=rl.le fe.le;replace tQ:=tQ.step fe (fun b h1 h2=>tQ.jg sf (by decide) h1 h2);replace hM:=fe.lt hM;have:=S.size;replace S:=S.cJ fe sf (bw _);replace sf:=rn;refine al rfl rfl (ae (ak (aj rfl rfl (bQ rfl rfl rfl (by omega) (al rfl rfl (ae ?_))))))
      have tB:0<own.length:=by
       rcases pq L3 with e|h
       ·exfalso;subst e
        first|omega|(rw[Z6]at tR;cases tR;exact c9 (by cases hq:vQ c with|true=>rfl|false=>exact absurd hq (by assumption)))
       ·exact tB h
      have Qx:∀c,(fu l)[j]? =some c→vQ c=false:=fun c hc=>by
       first|(rw[fL (by omega)]at hc;cases hc)|(rw[tR]at hc;cases hc;exact fp.2 c9)
      refine⟨rfl,(j+1,xi),(.cons rfl (.cons rfl (.cons rfl .nil))),?_,?_⟩
      ·exact⟨pK,_,hM,S,sf,hv,HU.word hf tB uB Qx⟩
      ·dsimp only;omega
  ·refine cP (au (ak (aj rfl rfl (al rfl rfl (ae (aW ?_))))));have e:=Vu.done (by omega);have e2:words l=ws:=e;rw[e2];exact a8 rfl rfl ⟨sf.close fZ S (by have:=Vu.len;omega),S.back⟩
end Go.K
namespace Go.K
open Go.Proofs
set_option maxRecDepth 10000
def mg:Nat→List (List UInt8)→Int
 |_,[]=>0
 |i,w::ws=>if 30<w.length then 3 else if 500≤i then 7 else mg (i+1) ws
theorem FL {i k:Nat} {ws:List (List UInt8)} {x:List UInt8} (h:ws[k]? =some x):mg i (ws.drop k)=if 30<x.length then 3 else if 500≤i then 7 else mg (i+1) (ws.drop (k+1)):=by
 have ek:=(aF.1 h).1;rw[dV ek,(aF.1 h).2];rfl
theorem dQ {M:aU} {w:World} {x:List UInt8} {v:Value} (h:RT.str.V M w x v):v= .string ⟨x.toArray⟩:=(jM.1 h).1
theorem G2 {M:aU} {l:List UInt8} (w0:World) (hM:Lt M w0) (hl:l.length≤900000):
  Spec Tryz.prog 150 #[.string ⟨l.toArray⟩] w0 (fun v w=>(∃u,v= .tuple #[u,.int .i64 (mg 0 (words l))]∧(mg 0 (words l)=0→∃a cap,u= .slice a (words l).length cap))∧Step M w0 M w aN):=by
 have fZ:=hM;refine bE (args:=[_]) (fn:=Tryz.f150) Tryz.func150 rfl (n:=30) Tryz.ntmps150 ?_;have S:Step M w0 M w0 aN:=(ah _ _).cD (fun _ h=>h.elim) (fun _ h=>h.elim);refine au (ak (al rfl rfl (al rfl rfl (ae (au (ak (al rfl rfl (ae (au (au (ak ?_)))))))))));refine aj rfl rfl ?_;refine aS rfl rfl U3 (xd _ hM hl) (fun v1 w1 hc=>?_);obtain⟨hv,s1⟩:=hc;replace hM:=s1.lt hM;have:=S.size;replace S:=S.aE s1;refine bF aJ rfl hv rfl (aj rfl rfl (ae (bu ?_)));refine de (σ:=Nat×Value) (fun q=>[(8,v1),(4,q.2),(9,.int .i64 ((words l).length:Int)),(10,.int .i64 (q.1:Int))]) (fun q w=>(∃M' xs,Lt M' w∧Step M w0 M' w aN∧Own (RT.pair RT.str (RT.int .i64)) 256 M' w w0.heap.size q.2 xs∧xs.length=q.1∧(RT.str.sl).V M' w (words l) v1)∧mg 0 (words l)=mg q.1 ((words l).drop q.1)∧q.1≤(words l).length∧q.1≤500) (fun q=>(words l).length-q.1) (0,.slice none 0 0) (.cons rfl (.cons rfl (.cons rfl (.cons rfl .nil)))) ?_ ?_
 ·exact⟨⟨M,[],hM,S,dO _ _ _ _ _,rfl,hv⟩,rfl,bM _,bM _⟩
 ·rintro⟨i,u⟩ w ⟨⟨M1,xs,hM,S,ho,wk,hv⟩,GI,hi,hi5⟩;dsimp only at ho wk GI hi hi5 ⊢;refine au (ak (cu rfl rfl rfl (ae (au ?_))));refine bW rfl (fun c3=>?_) (fun c3=>?_)
  ·refine bg (au (bu (au (ak (aj rfl rfl ?_)))));refine bS (M:=M1) aJ I9 rfl rfl rfl hv (ar _ _) (by omega) (fun acq x ow hux=>?_);refine aY (M:=M1) aM rfl rfl rfl rfl rfl hux (ar _ _) (fun vx tS=>?_);rw[aK]at ow;obtain rfl:=dQ tS;have ht:=FL (i:=i) ow;refine al rfl rfl (al rfl rfl (ae (au (bu (au (ak (aj rfl rfl (vJ aM rfl rfl (bO (v':= .int .i64 (x.length:Int)) (by simp[ByteArray.size]) (hY rfl rfl rfl (al rfl rfl ?_)))))))))));refine ae ?_;refine bW rfl (fun c5=>?_) (fun c5=>?_)
   ·refine au (ak (al rfl rfl (al rfl rfl (ae (aW ?_)))));rw[GI,ht,if_pos (by omega)];exact fw rfl rfl rfl ⟨⟨_,rfl,fun h=>by cases h⟩,S.back⟩
   ·refine au (ak (aj rfl rfl (iE rfl rfl rfl (al rfl rfl (ae ?_)))));refine bW rfl (fun c7=>?_) (fun c7=>?_)
    ·refine au (ak (al rfl rfl (al rfl rfl (ae (aW ?_)))));rw[GI,ht,if_neg (by omega),if_pos (by omega)];exact fw rfl rfl rfl ⟨⟨_,rfl,fun h=>by cases h⟩,S.back⟩
    ·refine bg (ak (aj rfl rfl (aj rfl rfl (aj rfl rfl (eF (places:=[(0,1),(1,1)]) Tryz.underlying256 GV UW rfl ⟨_,_,rfl,rfl,_,_,rfl,rfl,rfl⟩ (out:=[_,_]) ⟨0,[_],rfl,rfl,by simp[Value.cells],1,[_],rfl,rfl,by simp[Value.cells],rfl⟩ ?_)))));refine ez (A:=(RT.pair RT.str (RT.int .i64))) (hn:=by decide) (M:=M1) Tryz.underlying222 GV (by decide) rfl rfl hM (eS tS (ie (x:=(i:Int)) (by omega)) rfl rfl rfl rfl) (.inl rfl) (fun D5 MS Ch kC=>?_);replace hv:=hv.le kC.le;replace tS:=tS.le kC.le;replace ho:=ho.bC kC;replace hM:=kC.lt hM;have:=S.size;replace S:=S.aE kC;refine cz (M:=M1) (base:=w0.heap.size) Tryz.underlying222 GV rfl rfl rfl rfl ho Ch (ar _ _) (by simp;omega) (by simp;omega) (S.size) (fun acs acu VB VC pL=>?_);replace hv:=hv.le pL.le;replace tS:=tS.le pL.le;replace Ch:=Ch.le pL.le;replace hM:=pL.lt hM;have:=S.size;replace S:=S.cJ pL ho (bw _);replace ho:=VC;refine al rfl rfl (ae (ak (bQ rfl rfl rfl (by omega) (aj rfl rfl (ae ?_)))));refine⟨rfl,(i+1,acs),(.cons rfl (.cons rfl (.cons rfl (.cons rfl .nil)))),?_,?_⟩
     ·exact⟨⟨acu,_,hM,S,ho,by simp[wk],hv⟩,by rw[GI,ht,if_neg (by omega),if_neg (by omega)],by dsimp only;omega,by dsimp only;omega⟩
     ·dsimp only;omega
  ·refine cP (au (ak (aj rfl rfl (al rfl rfl (al rfl rfl (ae (aW ?_)))))));have e:mg 0 (words l)=0:=by rw[GI,lx (by omega)];rfl
   rw[e];obtain⟨a,cap,he,_⟩:=ho.isSlice;exact fw rfl rfl rfl ⟨⟨u,rfl,fun _=>⟨a,cap,by rw[he,wk];congr 1;omega⟩⟩,S.back⟩
theorem Ec {M:aU} {l:List UInt8} (w0:World) (hM:Lt M w0) (hl:l.length≤900000):
  Spec Tryz.prog 167 #[.string ⟨l.toArray⟩] w0 (fun v w=>(∃u,v= .tuple #[u,.int .i64 (mg 0 (words l))]∧(mg 0 (words l)=0→∃a cap,u= .slice a (words l).length cap))∧Step M w0 M w aN):=by
 have fZ:=hM;refine bE (args:=[_]) (fn:=Tryz.f167) Tryz.func167 rfl (n:=33) Tryz.ntmps167 ?_;have S:Step M w0 M w0 aN:=(ah _ _).cD (fun _ h=>h.elim) (fun _ h=>h.elim);refine au (ak (al rfl rfl (al rfl rfl (ae (au (ak (aj rfl rfl ?_)))))));refine aS rfl rfl U2 (uH _ hM hl) (fun v1 w1 hc=>?_);obtain⟨hv,s1⟩:=hc;replace hM:=s1.lt hM;have:=S.size;replace S:=S.aE s1;refine al rfl rfl (ae (au (ak (al rfl rfl (ae (au (au (ak (al rfl rfl (ae (bu ?_)))))))))));refine de (σ:=Nat×Value) (fun q=>[(4,v1),(5,q.2),(6,.int .i64 (q.1:Int))]) (fun q w=>(∃M' xs,Lt M' w∧Step M w0 M' w aN∧Own (RT.pair RT.str (RT.int .i64)) 256 M' w w0.heap.size q.2 xs∧xs.length=q.1∧(RT.str.sl).V M' w (words l) v1)∧mg 0 (words l)=mg q.1 ((words l).drop q.1)∧q.1≤(words l).length∧q.1≤500) (fun q=>(words l).length-q.1) (0,.slice none 0 0) (.cons rfl (.cons rfl (.cons rfl .nil))) ?_ ?_
 ·exact⟨⟨M,[],hM,S,dO _ _ _ _ _,rfl,hv⟩,rfl,bM _,bM _⟩
 ·rintro⟨i,u⟩ w ⟨⟨M1,xs,hM,S,ho,wk,hv⟩,GI,hi,hi5⟩;dsimp only at ho wk GI hi hi5 ⊢;refine au (au (ak (aj rfl rfl (aj rfl rfl (bF aJ rfl hv rfl (cu rfl rfl rfl (ae ?_)))))));refine bW rfl (fun c4=>?_) (fun c4=>?_)
  ·refine bg (au (bu (au (au (ak (aj rfl rfl (aj rfl rfl ?_)))))));refine bS (M:=M1) aJ I9 rfl rfl rfl hv (ar _ _) (by omega) (fun MX x ow hux=>?_);refine aY (M:=M1) aM rfl rfl rfl rfl rfl hux (ar _ _) (fun vx tS=>?_);rw[aK]at ow;obtain rfl:=dQ tS;have ht:=FL (i:=i) ow;refine vJ aM rfl rfl (bO (v':= .int .i64 (x.length:Int)) (by simp[ByteArray.size]) (hY rfl rfl rfl (ae ?_)));refine bW rfl (fun c6=>?_) (fun c6=>?_)
   ·refine au (ak (al rfl rfl (al rfl rfl (ae (aW ?_)))));rw[GI,ht,if_pos (by omega)];exact fw rfl rfl rfl ⟨⟨_,rfl,fun h=>by cases h⟩,S.back⟩
   ·refine bg (au (au (ak (aj rfl rfl (dI rfl rfl rfl (ae ?_))))));refine bW rfl (fun c8=>?_) (fun c8=>?_)
    ·refine au (ak (al rfl rfl (al rfl rfl (ae (aW ?_)))));rw[GI,ht,if_neg (by omega),if_pos (by omega)];exact fw rfl rfl rfl ⟨⟨_,rfl,fun h=>by cases h⟩,S.back⟩
    ·refine bg (ak (aj rfl rfl (aj rfl rfl (aj rfl rfl ?_))));refine bS (M:=M1) aJ I9 rfl rfl rfl hv (ar _ _) (by omega) (fun Vv y qG huy=>?_);refine aY (M:=M1) aM rfl rfl rfl rfl rfl huy (ar _ _) (fun vy TV=>?_);rw[aK]at qG;obtain rfl:=dQ TV;obtain rfl:x=y:=by rw[ow]at qG;exact aG qG
     refine aj rfl rfl (eF (places:=[(0,1),(1,1)]) Tryz.underlying256 GV UW rfl ⟨_,_,rfl,rfl,_,_,rfl,rfl,rfl⟩ (out:=[_,_]) ⟨0,[_],rfl,rfl,by simp[Value.cells],1,[_],rfl,rfl,by simp[Value.cells],rfl⟩ ?_);refine ez (A:=(RT.pair RT.str (RT.int .i64))) (hn:=by decide) (M:=M1) Tryz.underlying222 GV (by decide) rfl rfl hM (eS TV (ie (x:=(i:Int)) (by omega)) rfl rfl rfl rfl) (.inl rfl) (fun Oy Vx Ed oP=>?_);replace hv:=hv.le oP.le;replace tS:=tS.le oP.le;replace TV:=TV.le oP.le;replace ho:=ho.bC oP;replace hM:=oP.lt hM;have:=S.size;replace S:=S.aE oP;refine cz (M:=M1) (base:=w0.heap.size) Tryz.underlying222 GV rfl rfl rfl rfl ho Ed (ar _ _) (by simp;omega) (by simp;omega) (S.size) (fun VD VE FM Qy gC=>?_);replace hv:=hv.le gC.le;replace tS:=tS.le gC.le;replace TV:=TV.le gC.le;replace Ed:=Ed.le gC.le;replace hM:=gC.lt hM;have:=S.size;replace S:=S.cJ gC ho (bw _);replace ho:=Qy;refine al rfl rfl (ae (ak (aj rfl rfl (bQ rfl rfl rfl (by omega) (al rfl rfl (ae ?_))))));refine⟨rfl,(i+1,VD),(.cons rfl (.cons rfl (.cons rfl .nil))),?_,?_⟩
     ·exact⟨⟨VE,_,hM,S,ho,by simp[wk],hv⟩,by rw[GI,ht,if_neg (by omega),if_neg (by omega)],by dsimp only;omega,by dsimp only;omega⟩
     ·dsimp only;omega
  ·refine cP (au (ak (aj rfl rfl (al rfl rfl (al rfl rfl (ae (aW ?_)))))));have e:mg 0 (words l)=0:=by rw[GI,lx (by omega)];rfl
   rw[e];obtain⟨a,cap,he,_⟩:=ho.isSlice;exact fw rfl rfl rfl ⟨⟨u,rfl,fun _=>⟨a,cap,by rw[he,wk];congr 1;omega⟩⟩,S.back⟩
end Go.K
namespace Go.K
abbrev Fd:=List UInt8×List UInt8
abbrev Dc:=Int×List Fd
abbrev En:=Dc×Int
abbrev RT.fd:RT Fd:=RT.pair RT.str RT.str
abbrev RT.dc:RT Dc:=RT.pair (RT.int .i64) (RT.fd.sl)
abbrev RT.en:RT En:=RT.pair RT.dc (RT.int .i64)
theorem G3:Part RT.fd RT.str (fun p=>p.1) 0:=nU _ _
theorem Oz:Part RT.fd RT.str (fun p=>p.2) 1:=iN _ _
theorem TW:Part RT.dc (RT.int .i64) (fun p=>p.1) 0:=nU _ _
theorem AU:Part RT.dc (RT.fd.sl) (fun p=>p.2) 1:=iN _ _
theorem MY:Part RT.en RT.dc (fun p=>p.1) 0:=nU _ _
theorem VF:Part RT.en (RT.int .i64) (fun p=>p.2) 2:=iN _ _
theorem Jd {M:aU} {w:World} {p:Dc} {v:Value} (h:RT.dc.V M w p v):∃u,v= .agg #[.int .i64 p.1,u]:=by
 obtain⟨vs,⟨va,vb,rfl,⟨rfl,_⟩,hb⟩,rfl⟩:=h;have:=(RT.fd.sl (by decide)).len hb
 match vb,this with
 |[u],_=>exact⟨u,rfl⟩
theorem Je {M:aU} {w:World} {p:Dc} {u:Value} {s:Int} (h:RT.dc.V M w p (.agg #[.int .i64 p.1,u])) (hs: -9223372036854775808≤s∧s≤9223372036854775807):RT.en.V M w (p,s) (.agg [.int .i64 p.1,u,.int .i64 s].toArray):=by
 obtain⟨vs,h1,h2⟩:=h
 have h3:vs=[.int .i64 p.1,u]:=by
  have:Value.agg #[.int .i64 p.1,u]= .agg vs.toArray:=h2;injection this with this
  simpa using(congrArg Array.toList this).symm
 subst h3;exact⟨_,⟨[.int .i64 p.1,u],[.int .i64 s],rfl,h1,rfl,hs.1,hs.2⟩,rfl⟩
theorem Own.OA {α:Type} (A:RT α) (e:TypeId) (base:Nat) {M:aU} {w:World} (h:Lt M w):Own A e M w base (.slice none 0 0) []:=dO _ _ _ _ _
section
variable {P:Program} {r:Option Nat} {n:Nat} {L:Sl} {ds:List Deferred} {w:World} {K:Kt} {ops:Array Oper} {rest:List Oper} {d:Nat} {x:Operand} {ty:TypeId} {pos:String} {af:Array Edge}
theorem Rg.ik {α:Type} {A:RT α} {e:TypeId} {v:Value} {a:α} {M:aU} (hx:ev L x=some v) (hd:Nat.blt d n=true) (hM:Lt M w) (hv:A.V M w a v) (hg:A.agg=true)
  (k:∀u w',bL A M w' u a→Step M w M w' aN→w.heap.size≤w'.heap.size→Rg P r n ops rest ((d,u)::L) ds w' K):
  Rg P r n ops ({dst:=some d,op:= .box e x,type:=ty,pos,after:=af,guard:=none}::rest) L ds w K:=by
 refine vr M hx hd (fun b w' h1 h2 hb s=>?_);obtain⟨vs,h3,h4⟩:=hv;have hc:v.cells=vs.toArray:=by subst h4;simp[RT.val,hg,Value.cells]
 rw[hc]at hb;refine k _ w' ⟨b,0,vs,rfl,fun hm=>?_,A.le s.back.le h3,fun j u hj=>?_⟩ s.back s.size
 ·have:=hM b hm;omega
 ·rw[Nat.zero_add];exact jx hb (by simpa using hj)
end
end Go.K
namespace Go.Proofs
open Go.Shelf
def Tryz.Ci:Go.Shelf.Ren:=⟨fun|160=>193|232=>227|231=>226|227=>228|234=>230|233=>229|236=>232|235=>231|228=>257|271=>260|151=>259|197=>258|120=>280|152=>279|260=>278|137=>287|119=>277|224=>288|225=>289|217=>291|266=>292|n=>n,fun|9=>9|4=>4|3=>3|5=>5|117=>283|116=>282|0=>0|124=>286|21=>21|105=>317|46=>183|119=>338|139=>341|138=>340|n=>n,fun|3=>2|4=>3|n=>n⟩
theorem Tryz.MZ:Go.Proofs.Lays.n160 Tryz.prog Tryz.Ci:={
 mixed:=by kernel_rfl
 f119:=Tryz.func277.trans (congrArg some (by kernel_rfl))
 f120:=Tryz.func280.trans (congrArg some (by kernel_rfl))
 f137:=Tryz.func287.trans (congrArg some (by kernel_rfl))
 f151:=Tryz.func259.trans (congrArg some (by kernel_rfl))
 f152:=Tryz.func279.trans (congrArg some (by kernel_rfl))
 f160:=Tryz.func193.trans (congrArg some (by kernel_rfl))
 f197:=Tryz.func258.trans (congrArg some (by kernel_rfl))
 f217:=Tryz.func291.trans (congrArg some (by kernel_rfl))
 f224:=Tryz.func288.trans (congrArg some (by kernel_rfl))
 f225:=Tryz.func289.trans (congrArg some (by kernel_rfl))
 f227:=Tryz.func228.trans (congrArg some (by kernel_rfl))
 f228:=Tryz.func257.trans (congrArg some (by kernel_rfl))
 f231:=Tryz.func226.trans (congrArg some (by kernel_rfl))
 f232:=Tryz.func227.trans (congrArg some (by kernel_rfl))
 f233:=Tryz.func229.trans (congrArg some (by kernel_rfl))
 f234:=Tryz.func230.trans (congrArg some (by kernel_rfl))
 f235:=Tryz.func231.trans (congrArg some (by kernel_rfl))
 f236:=Tryz.func232.trans (congrArg some (by kernel_rfl))
 f260:=Tryz.func278.trans (congrArg some (by kernel_rfl))
 f266:=Tryz.func292.trans (congrArg some (by kernel_rfl))
 f271:=Tryz.func260.trans (congrArg some (by kernel_rfl))
 t0:=jY
 a0:=vV
 z0:=qR
 v0:=kH
 t3:=aB
 a3:=vW
 z3:=qS
 v3:=kI
 t4:=iD
 a4:=Tryz.isAgg4
 z4:=Tryz.sizeOf4
 v4:=rK
 t5:=cN
 a5:=Tryz.isAgg5
 z5:=Tryz.sizeOf5
 v5:=Tryz.zeroValue5
 t9:=aM
 a9:=vX
 z9:=qT
 v9:=kJ
 t21:=Tryz.underlying21
 a21:=Tryz.isAgg21
 z21:=Tryz.sizeOf21
 v21:=Tryz.zeroValue21
 t46:=Tryz.underlying183
 a46:=Tryz.isAgg183
 z46:=Tryz.sizeOf183
 v46:=Tryz.zeroValue183
 t105:=Tryz.underlying317
 a105:=Tryz.isAgg317
 z105:=Tryz.sizeOf317
 v105:=Tryz.zeroValue317
 t116:=Tryz.underlying282
 a116:=Tryz.isAgg282
 z116:=Tryz.sizeOf282
 t117:=Tryz.underlying283
 a117:=Tryz.isAgg283
 z117:=Tryz.sizeOf283
 v117:=Tryz.zeroValue283
 t119:=Tryz.underlying338
 a119:=Tryz.isAgg338
 z119:=Tryz.sizeOf338
 t124:=Tryz.underlying286
 a124:=Tryz.isAgg286
 z124:=Tryz.sizeOf286
 v124:=Tryz.zeroValue286
 t138:=Tryz.underlying340
 a138:=Tryz.isAgg340
 z138:=Tryz.sizeOf340
 v138:=Tryz.zeroValue340
 t139:=Tryz.underlying341
 a139:=Tryz.isAgg341
 z139:=Tryz.sizeOf341
 v139:=Tryz.zeroValue341
 g3:=by kernel_rfl
 g4:=by kernel_rfl}
end Go.Proofs
namespace Go.K
open Go.Proofs
set_option maxRecDepth 10000
open Go.RowKit Go.Shelf
def lO:List UInt8:=[97,98,99,100,101,102,103,104,105,106,107,108,109,110,111,112,113,114,115,116,117,118,119,120,121,122]
def il (b:UInt8):Bool:=decide (97≤b.toNat∧b.toNat≤122)
def ga (s:List UInt8):Bool:=decide (1≤s.length∧s.length≤12)&&s.all il
theorem Cj (b:UInt8):lO.contains b=il b:=by
 have key:∀n:Fin 256,lO.contains (UInt8.ofNat n)=il (UInt8.ofNat n):=by decide
 have:=key ⟨b.toNat,UInt8.toNat_lt b⟩;simpa using this
theorem drop_nil {α:Type} (p:α→Bool):∀l:List α,l.dropWhile p=[]↔∀x∈l,p x=true
 |[]=>by simp
 |x::l=>by
  rw[List.dropWhile_cons];by_cases h:p x=true
  ·rw[if_pos h,drop_nil p l];simp[h]
  ·rw[if_neg h];simp[h]
theorem xj (s:List UInt8):Lib.trimS s lO=[]↔s.all il=true:=by
 have e:(fun b=>lO.contains b)=il:=funext Cj;unfold Lib.trimS Lib.trimLeftS Lib.trimRightS;rw[e,drop_nil,eh];constructor
 ·intro h
  have h2:s.reverse.dropWhile il=[]:=by
   cases hd:s.reverse.dropWhile il with
   |nil=>rfl
   |cons x r=>
    have h3:=h x (by rw[hd];simp);have h4:=List.head?_dropWhile_not il s.reverse;rw[hd]at h4;simp[h3]at h4
  intro x hx;exact(drop_nil _ _).1 h2 x (List.mem_reverse.2 hx)
 ·intro h x hx;rw[(drop_nil il s.reverse).2 (fun y hy=>h y (List.mem_reverse.1 hy))]at hx
  cases hx
theorem G4 (s:List UInt8) (hs:s.length≤140737488355328) (w:World):Spec Tryz.prog 193 #[.string ⟨s.toArray⟩,.string ⟨lO.toArray⟩] w (fun v w'=>v= .string ⟨(Lib.trimS s lO).toArray⟩∧∀M,Step M w M w' aN):=
 (Any.strings_Trim_ascii Tryz.MZ Tryz.zeroValue282 (by kernel_rfl) ⟨s.toArray⟩ ⟨lO.toArray⟩ w (by simp[ByteArray.size];omega) (by decide) (fun j b hj=>by
  have hm:b∈lO:=aQ hj;have:=Cj b;rw[jL.2 hm]at this;have h2:97≤b.toNat∧b.toNat≤122:=by simpa[il]using this.symm
  omega)).mono fun e w' ⟨h1,h2⟩=>⟨_,h1,rfl,fun M=> .wM h2 M⟩
theorem G5 (s:List UInt8) (hs:s.length≤140737488355328) (w0:World):
  Spec Tryz.prog 151 #[.string ⟨s.toArray⟩] w0 (fun v w=>v= .bool (ga s)∧∀M,Step M w0 M w aN):=by
 refine bE (args:=[_]) (fn:=Tryz.f151) Tryz.func151 rfl (n:=15) Tryz.ntmps151 (au (ak (al rfl rfl (ae (au (ak (aj rfl rfl (Rg.Of (p:=s) (q:=[]) rfl rfl rfl (aj rfl rfl ?_)))))))));refine aZ (g:=5) rfl (fun iR=>?_) (fun iR=>?_)
 ·refine aq rfl rfl (aj rfl rfl (aq rfl rfl (vJ aM rfl rfl (bO (v':= .int .i64 (s.length:Int)) (by simp[ByteArray.size]) (aq rfl rfl (fo rfl rfl rfl (aR rfl rfl rfl (aj rfl rfl ?_))))))));refine aZ (g:=10) rfl (fun acv=>?_) (fun acv=>?_)
  ·refine aq rfl rfl (aj rfl rfl (aq rfl rfl ?_));refine aS rfl rfl abv (G4 s hs _) (fun r w9 hc=>?_);obtain⟨rfl,s9⟩:=hc;refine aq rfl rfl (Rg.rL (p:=Lib.trimS s lO) (q:=[]) rfl rfl rfl (aR rfl rfl rfl (al rfl rfl (ae (aW ?_)))))
   first
   |exact a8 rfl rfl ⟨by rw[ga,decide_eq_true (p:=1≤s.length∧s.length≤12) ⟨nV.2 iR,by omega⟩,eP];exact congrArg Value.bool (by rw[Bool.eq_iff_iff,decide_eq_true_eq];exact xj s),s9⟩
   |exact a8 rfl rfl ⟨by rw[ga,decide_eq_false (p:=1≤s.length∧s.length≤12) (by omega),eK],fun M=>ah _ _⟩
   |(have VG:s=[]:=Classical.not_not.1 iR
     subst VG;exact a8 rfl rfl ⟨rfl,fun M=>ah _ _⟩)
  ·refine aw rfl rfl rfl rfl (aw rfl rfl rfl rfl (aw rfl rfl rfl rfl (aL rfl rfl rfl (al rfl rfl (ae (aW ?_))))))
   first
   |exact a8 rfl rfl ⟨by rw[ga,decide_eq_true (p:=1≤s.length∧s.length≤12) ⟨nV.2 iR,by omega⟩,eP];exact congrArg Value.bool (by rw[Bool.eq_iff_iff,decide_eq_true_eq];exact xj s),s9⟩
   |exact a8 rfl rfl ⟨by rw[ga,decide_eq_false (p:=1≤s.length∧s.length≤12) (by omega),eK],fun M=>ah _ _⟩
   |(have VG:s=[]:=Classical.not_not.1 iR
     subst VG;exact a8 rfl rfl ⟨rfl,fun M=>ah _ _⟩)
 ·refine aw rfl rfl rfl rfl (aw rfl rfl rfl rfl (aw rfl rfl rfl rfl (aL rfl rfl rfl (aj rfl rfl (aw rfl rfl rfl rfl (aw rfl rfl rfl rfl (aw rfl rfl rfl rfl (aL rfl rfl rfl (al rfl rfl (ae (aW ?_)))))))))))
  first
  |exact a8 rfl rfl ⟨by rw[ga,decide_eq_true (p:=1≤s.length∧s.length≤12) ⟨nV.2 iR,by omega⟩,eP];exact congrArg Value.bool (by rw[Bool.eq_iff_iff,decide_eq_true_eq];exact xj s),s9⟩
  |exact a8 rfl rfl ⟨by rw[ga,decide_eq_false (p:=1≤s.length∧s.length≤12) (by omega),eK],fun M=>ah _ _⟩
  |(have VG:s=[]:=Classical.not_not.1 iR
    subst VG;exact a8 rfl rfl ⟨rfl,fun M=>ah _ _⟩)
theorem Jf {s:List UInt8} (h:∀(k:Nat) c,s[k]? =some c→il c=true):s.all il=true:=eh.2 fun c hc=>by
 obtain⟨k,hk⟩:=cg.1 hc;exact h k c hk
theorem sh {s:List UInt8} {i:Nat} (h:i<s.length):s[i]? =some (s.getD i 0):=by rw[dN,aI h];rfl
theorem iB {M:aU} {w:World} {p:Fd} {v:Value} (h:RT.fd.V M w p v):v= .agg #[.string ⟨p.1.toArray⟩,.string ⟨p.2.toArray⟩]:=by
 obtain⟨vs,⟨va,vb,rfl,⟨rfl,_⟩,⟨rfl,_⟩⟩,rfl⟩:=h;rfl
theorem tT {M:aU} {w:World} {p:Fd} {v:Value} (h:RT.fd.V M w p v):p.1.length≤140737488355328∧p.2.length≤140737488355328:=by
 obtain⟨vs,⟨va,vb,rfl,⟨rfl,h1⟩,⟨rfl,h2⟩⟩,_⟩:=h;exact⟨h1,h2⟩
def xk:List Fd→List Fd→Nat→Int
 |_,[],n=>if 500<n then 7 else 0
 |seen,f::fs,n=>if ga f.1=false then 4 else if(seen.any fun g=>decide (g.1=f.1))=true then 5 else if mg 0 (words f.2)≠0 then mg 0 (words f.2)else xk (seen++[f]) fs (n+(words f.2).length)
def nc (d:Dc):Int:=if 8<d.2.length then 7 else xk [] d.2 0
theorem FN {fs:List Fd} {i n:Nat} {x:Fd} (h:fs[i]? =some x):xk (fs.take i) (fs.drop i) n=if ga x.1=false then 4 else if((fs.take i).any fun g=>decide (g.1=x.1))=true then 5 else if mg 0 (words x.2)≠0 then mg 0 (words x.2)else xk (fs.take (i+1)) (fs.drop (i+1)) (n+(words x.2).length):=by
 have ek:=(aF.1 h).1;rw[dV ek,(aF.1 h).2,bX,h];rfl
theorem si {fs:List Fd} {i n:Nat} (h:fs.length≤i):xk (fs.take i) (fs.drop i) n=if 500<n then 7 else 0:=by
 rw[lx h];rfl
theorem xl (s:List UInt8) (hs:s.length≤140737488355328) (w0:World):
  Spec Tryz.prog 116 #[.string ⟨s.toArray⟩] w0 (fun v w=>v= .bool (ga s)∧w=w0):=by
 refine bE (args:=[_]) (fn:=Tryz.f116) Tryz.func116 rfl (n:=28) Tryz.ntmps116 (au (ak (al rfl rfl (ae (au (au (ak (al rfl rfl (ae (bu ?_))))))))));refine de (σ:=Nat) (fun i=>[(0,.string ⟨s.toArray⟩),(3,.int .i64 (i:Int))]) (fun i w=>w=w0∧i≤s.length∧∀k c,k<i→s[k]? =some c→il c=true) (fun i=>s.length-i) 0 (.cons rfl (.cons rfl .nil)) ?_ ?_
 ·exact⟨rfl,bM _,fun k c h=>absurd h (j5 k)⟩
 ·rintro i w ⟨rfl,hi,hok⟩;refine au (au (ak (aj rfl rfl (aj rfl rfl (vJ aM rfl rfl (bO (v':= .int .i64 (s.length:Int)) (by simp[ByteArray.size]) (cu rfl rfl rfl (ae ?_))))))));refine bW rfl (fun c2=>?_) (fun c2=>?_)
  ·refine bg (au (bu (au (ak (aj rfl rfl (aj rfl rfl (Rg.FI (c:=s.getD i 0) aM rfl rfl rfl (by omega) (by rw[aK];exact sh (by omega)) (cu rfl rfl rfl (aj rfl rfl ?_)))))))));refine aZ (g:=14) rfl (fun acw=>?_) (fun acw=>?_)
   ·refine aw rfl rfl rfl rfl (aw rfl rfl rfl rfl (aw rfl rfl rfl rfl (aw rfl rfl rfl rfl (aR rfl rfl rfl (ae (gz rfl (au (ak (al rfl rfl (ae (aW ?_)))))))))))
    have hx:s.all il=false:=fp.2 fun h=>by
     have h2:=eh.1 h _ (aQ (sh (s:=s) (i:=i) (by omega)));simp only[il,decide_eq_true_eq]at h2;omega
    exact a8 rfl rfl ⟨by rw[ga,hx,Bool.and_false],rfl⟩
   ·refine aq rfl rfl (aj rfl rfl (aq rfl rfl (aj rfl rfl (aq rfl rfl (Rg.FI (c:=s.getD i 0) aM rfl rfl rfl (by omega) (by rw[aK];exact sh (by omega)) (aq rfl rfl (hY rfl rfl rfl (aL rfl rfl rfl (ae ?_)))))))));refine bW rfl (fun c4=>?_) (fun c4=>?_)
    ·refine au (ak (al rfl rfl (ae (aW ?_))))
     have hx:s.all il=false:=fp.2 fun h=>by
      have h2:=eh.1 h _ (aQ (sh (s:=s) (i:=i) (by omega)));simp only[il,decide_eq_true_eq]at h2;omega
     exact a8 rfl rfl ⟨by rw[ga,hx,Bool.and_false],rfl⟩
    ·refine bg (ak (aj rfl rfl (bQ rfl rfl rfl (by omega) (al rfl rfl (ae ?_)))));refine⟨rfl,i+1,(.cons rfl (.cons rfl .nil)),?_,?_⟩
     ·exact⟨rfl,by omega,fun k c h hc=>by
       rcases eT k i with h2|h2
       ·exact hok k c h2 hc
       ·obtain rfl:k=i:=by omega
        rw[sh (by omega)]at hc;cases hc;simp only[il,decide_eq_true_eq];omega⟩
     ·omega
  ·refine cP (au (ak (aj rfl rfl (vJ aM rfl rfl (bO (v':= .int .i64 (s.length:Int)) (by simp[ByteArray.size]) (dI rfl rfl rfl (aj rfl rfl ?_)))))));refine aZ (g:=23) rfl (fun o0=>?_) (fun o0=>?_)
   ·refine aq rfl rfl (aj rfl rfl (aq rfl rfl (vJ aM rfl rfl (bO (v':= .int .i64 (s.length:Int)) (by simp[ByteArray.size]) (aq rfl rfl (fo rfl rfl rfl (aR rfl rfl rfl (al rfl rfl (ae (aW ?_))))))))));have ha:s.all il=true:=Jf fun k c hc=>hok k c (by have:=(aF.1 hc).1;omega) hc
    first
    |exact a8 rfl rfl ⟨by rw[ga,ha,Bool.and_true];exact congrArg Value.bool (decide_eq_decide.2 (by omega)),rfl⟩
    |exact a8 rfl rfl ⟨by rw[ga,ha,Bool.and_true];exact congrArg Value.bool (decide_eq_false (by omega)).symm,rfl⟩
   ·refine aw rfl rfl rfl rfl (aw rfl rfl rfl rfl (aw rfl rfl rfl rfl (aL rfl rfl rfl (al rfl rfl (ae (aW ?_))))));have ha:s.all il=true:=Jf fun k c hc=>hok k c (by have:=(aF.1 hc).1;omega) hc
    first
    |exact a8 rfl rfl ⟨by rw[ga,ha,Bool.and_true];exact congrArg Value.bool (decide_eq_decide.2 (by omega)),rfl⟩
    |exact a8 rfl rfl ⟨by rw[ga,ha,Bool.and_true];exact congrArg Value.bool (decide_eq_false (by omega)).symm,rfl⟩
theorem G6 {M:aU} {o:Fd} {v0:Value} (w0:World) (hM:Lt M w0) (hv:RT.fd.V M w0 o v0) {nm:List UInt8} {t:Value} {bf:Nat} (g:w0.heap[bf]? =some (.cells #[.string ⟨nm.toArray⟩,t] 127 (0,0))) (zC:M bf):
  Spec Tryz.prog 153 #[v0,.pointer (some ⟨bf,0,none⟩)] w0 (fun v w=>v= .bool (decide (o.1=nm))∧Step M w0 M w aN):=by
 refine bE (args:=[_,_]) (fn:=Tryz.f153) Tryz.func153 rfl (n:=9) Tryz.ntmps153 ?_;have S:Step M w0 M w0 aN:=(ah _ _).cD (fun _ h=>h.elim) (fun _ h=>h.elim);refine au (ak ?_);refine Rg.ik (A:=RT.fd) rfl rfl hM hv rfl (fun u0 w1 cQ s0 _=>?_);have:=av g;replace zC:=(s0.mem _ this).2 zC;replace g:=s0.aX g;replace hM:=s0.lt hM;have:=S.size;replace S:=S.aE s0;refine al rfl rfl (ae (au (ak ?_)));refine aA (M:=M) (A:=RT.fd) (B:=RT.str) cv rfl rfl I9 (by decide) (G3) rfl rfl (by decide) (by assumption) (by repeat (first|exact ar _ _|refine aT (bh (by assumption)) ?_)) (fun tU jR=>?_);refine aY (M:=M) aM rfl rfl rfl rfl rfl jR (ar _ _) (fun v1 ti=>?_);obtain rfl:=dQ ti;refine bI (o':=0) cv rfl rfl I9 (by decide) rfl rfl (br aM rfl rfl rfl (by assumption) rfl (Rg.rL (p:=o.1) (q:=nm) rfl rfl rfl (al rfl rfl (ae (aW ?_)))));exact a8 rfl rfl ⟨rfl,S⟩
theorem Ee {M:aU} {fs:List Fd} {v0:Value} (w0:World) (hM:Lt M w0) (hv:(RT.fd.sl).V M w0 fs v0) {nm:List UInt8} {t:Value} {bf:Nat} (g:w0.heap[bf]? =some (.cells #[.string ⟨nm.toArray⟩,t] 127 (0,0))) (zC:M bf):
  Spec Tryz.prog 194 #[v0,.func (.func 153) #[] #[.pointer (some ⟨bf,0,none⟩)]] w0 (fun v w=>(∃k:Int,v= .int .i64 k∧(0≤k↔(fs.any fun g=>decide (g.1=nm))=true)∧ -1≤k∧k≤9223372036854775807)∧Step M w0 M w aN):=by
 have zg:=dr hv;refine bE (args:=[_,_]) (fn:=Tryz.f194) Tryz.func194 rfl (n:=19) Tryz.ntmps194 ?_;have S:Step M w0 M w0 aN:=(ah _ _).cD (fun _ h=>h.elim) (fun _ h=>h.elim);refine au (ak (al rfl rfl (ae (au (au (ak (aj rfl rfl (bF bj rfl hv rfl (aj rfl rfl (ae (bu ?_)))))))))));refine de (σ:=Nat) (fun i=>[(0,v0),(1,.func (.func 153) #[] #[.pointer (some ⟨bf,0,none⟩)]),(6,v0),(7,.int .i64 (fs.length:Int)),(8,.int .i64 (i:Int))]) (fun i w=>Lt M w∧Step M w0 M w aN∧(w.heap[bf]? =some (.cells #[.string ⟨nm.toArray⟩,t] 127 (0,0)))∧(RT.fd.sl).V M w fs v0∧i≤fs.length∧∀k o,k<i→fs[k]? =some o→o.1≠nm) (fun i=>fs.length-i) 0 (.cons rfl (.cons rfl (.cons rfl (.cons rfl (.cons rfl .nil))))) ?_ ?_
 ·exact⟨hM,S,g,hv,bM _,fun k c h=>absurd h (j5 k)⟩
 ·rintro i w ⟨hM,S,g,hv,hi,hok⟩;refine au (ak (cu rfl rfl rfl (ae (au ?_))));refine bW rfl (fun c2=>?_) (fun c2=>?_)
  ·refine bg (au (bu (au (ak (aj rfl rfl (al rfl rfl (ae (au (ak (aj rfl rfl (aj rfl rfl ?_)))))))))));refine aj rfl rfl ?_;refine bS (M:=M) bj jz rfl rfl rfl hv (ar _ _) (by omega) (fun u4 o BD iM=>?_);refine cc (M:=M) (A:=RT.fd) cv rfl jz (by decide) rfl rfl rfl iM (ar _ _) (fun v4 oQ=>?_);rw[aK]at BD;refine Rg.rM (first:=[]) (captured:=[.pointer (some ⟨bf,0,none⟩)]) rfl rfl rfl abl (G6 _ hM oQ g zC) (fun r5 w5 hc=>?_);obtain⟨rfl,s5⟩:=hc;have:=av g;replace zC:=(s5.mem _ this).2 zC;replace g:=s5.aX g;replace hv:=hv.le s5.le;replace hM:=s5.lt hM;have:=S.size;replace S:=S.aE s5;refine ae ?_;refine bW rfl (fun c4=>?_) (fun c4=>?_)
   ·refine au (ak (aj rfl rfl (al rfl rfl (ae (aW ?_)))));exact a8 rfl rfl ⟨⟨_,rfl,⟨fun _=>tu.2 ⟨o,aQ BD,by simpa using(by assumption)⟩,fun _=>by omega⟩,by omega,by omega⟩,S.back⟩
   ·refine bg (ak (bQ rfl rfl rfl (by omega) (aj rfl rfl (ae ?_))));refine⟨rfl,i+1,(.cons rfl (.cons rfl (.cons rfl (.cons rfl (.cons rfl .nil))))),?_,?_⟩
    ·exact⟨hM,S,g,hv,by omega,fun k o' h hc=>by
      rcases eT k i with h2|h2
      ·exact hok k o' h2 hc
      ·obtain rfl:k=i:=by omega
       rw[BD]at hc;cases hc;assumption⟩
    ·omega
  ·refine cP (au (ak (al rfl rfl (ae (aW ?_)))))
   exact a8 rfl rfl ⟨⟨-1,rfl,⟨fun h=>by omega,fun h=>by
    obtain⟨o,ho,he⟩:=tu.1 h;obtain⟨k,hk⟩:=cg.1 ho;exact absurd (by simpa using he) (hok k o (by have:=(aF.1 hk).1;omega) hk)⟩,by omega,by omega⟩,S.back⟩
theorem Ck {M:aU} {fs:List Fd} {v0:Value} (w0:World) (hM:Lt M w0) (hv:(RT.fd.sl).V M w0 fs v0) {nm:List UInt8} {t:Value} {bf:Nat} (g:w0.heap[bf]? =some (.cells #[.string ⟨nm.toArray⟩,t] 127 (0,0))) (zC:M bf):
  Spec Tryz.prog 152 #[v0,.func (.func 153) #[] #[.pointer (some ⟨bf,0,none⟩)]] w0 (fun v w=>v= .bool (fs.any fun g=>decide (g.1=nm))∧Step M w0 M w aN):=by
 refine bE (args:=[_,_]) (fn:=Tryz.f152) Tryz.func152 rfl (n:=9) Tryz.ntmps152 ?_;have S:Step M w0 M w0 aN:=(ah _ _).cD (fun _ h=>h.elim) (fun _ h=>h.elim);refine au (ak (al rfl rfl (ae (au (ak (aj rfl rfl (aj rfl rfl ?_)))))));refine aS rfl rfl abw (Ee _ hM hv g zC) (fun r1 w1 hc=>?_);obtain⟨⟨k,rfl,hk,_⟩,s1⟩:=hc;have:=av g;replace zC:=(s1.mem _ this).2 zC;replace g:=s1.aX g;replace hv:=hv.le s1.le;replace hM:=s1.lt hM;have:=S.size;replace S:=S.aE s1;refine dI rfl rfl rfl (al rfl rfl (ae (aW ?_)));exact a8 rfl rfl ⟨congrArg Value.bool (by rw[Bool.eq_iff_iff,decide_eq_true_eq];exact hk),S⟩
theorem Jg {M:aU} {d:Dc} {v0:Value} (w0:World) (hM:Lt M w0) (hv:RT.dc.V M w0 d v0) (hl:∀f∈d.2,f.1.length≤900000∧f.2.length≤900000):
  Spec Tryz.prog 107 #[v0] w0 (fun v w=>v= .int .i64 (nc d)∧Step M w0 M w aN):=by
 have fZ:=hM;refine bE (args:=[_]) (fn:=Tryz.f107) Tryz.func107 rfl (n:=49) Tryz.ntmps107 ?_;have S:Step M w0 M w0 aN:=(ah _ _).cD (fun _ h=>h.elim) (fun _ h=>h.elim);refine au (ak ?_);refine Rg.ik (A:=RT.dc) rfl rfl hM hv rfl (fun u0 w1 cQ s0 _=>?_);replace hM:=s0.lt hM;have:=S.size;replace S:=S.aE s0;refine al rfl rfl (ae (au (au (ak ?_))));refine aA (M:=M) (A:=RT.dc) (B:=(RT.fd).sl) a7 rfl rfl qx (by decide) (AU) rfl rfl (by decide) (by assumption) (by repeat (first|exact ar _ _|refine aT (bh (by assumption)) ?_)) (fun tU jR=>?_);refine aY (M:=M) bj rfl rfl rfl rfl rfl (by assumption) (by repeat (first|exact ar _ _|refine aT (bh (by assumption)) ?_)) (fun vB kF=>?_);refine bF bj rfl kF rfl (hY rfl rfl rfl (ae ?_));refine bW rfl (fun c1=>?_) (fun c1=>?_)
 ·refine au (ak (al rfl rfl (ae (aW ?_))));exact a8 rfl rfl ⟨by rw[nc,if_pos (by omega)],S.back⟩
 ·refine bg (au (ak (al rfl rfl (ae (au (au (ak ?_)))))));refine aA (M:=M) (A:=RT.dc) (B:=(RT.fd).sl) a7 rfl rfl qx (by decide) (AU) rfl rfl (by decide) (by assumption) (by repeat (first|exact ar _ _|refine aT (bh (by assumption)) ?_)) (fun M8 Cl=>?_);refine aY (M:=M) bj rfl rfl rfl rfl rfl (by assumption) (by repeat (first|exact ar _ _|refine aT (bh (by assumption)) ?_)) (fun Na FO=>?_);refine bF bj rfl FO rfl (aj rfl rfl (ae (bu ?_)));refine de (σ:=Nat×Nat) (fun q=>[(1,u0),(3,.int .i64 (q.2:Int)),(13,Na),(14,.int .i64 (d.2.length:Int)),(15,.int .i64 (q.1:Int))]) (fun q w=>∃M',Lt M' w∧Step M w0 M' w aN∧bL RT.dc M' w u0 d∧(RT.fd.sl).V M' w d.2 Na∧nc d=xk (d.2.take q.1) (d.2.drop q.1) q.2∧q.1≤d.2.length∧q.2≤900001*q.1) (fun q=>d.2.length-q.1) (0,0) (.cons rfl (.cons rfl (.cons rfl (.cons rfl (.cons rfl .nil))))) ?_ ?_
  ·exact⟨M,hM,S,cQ,FO,by rw[nc,if_neg (by omega)];rfl,bM _,bw _⟩
  ·rintro⟨i,n⟩ w ⟨M1,hM,S,cQ,oY,Ef,hi,hn⟩;dsimp only at Ef hi hn ⊢;refine au (ak (cu rfl rfl rfl (ae (au ?_))));refine bW rfl (fun c5=>?_) (fun c5=>?_)
   ·refine bg (au (bu (au (ak (aj rfl rfl ?_)))));refine bS (M:=M1) bj jz rfl rfl rfl oY (ar _ _) (by omega) (fun u6 x HT MW=>?_);refine cc (M:=M1) (A:=RT.fd) cv rfl jz (by decide) rfl rfl rfl MW (ar _ _) (fun v6 nS=>?_);rw[aK]at HT;obtain rfl:=iB nS;have lg:=FN (n:=n) HT;have wk:=hl _ (aQ HT);refine eu M1 jz rfl (fun Qz VH alf alg o0 yQ=>?_);obtain⟨Cm,Jh⟩:∃M',M'=ins M1 Qz:=⟨_,rfl⟩;rw[←Jh]at yQ;have mh:Cm Qz:=by rw[Jh];exact .inl rfl
    change VH.heap[Qz]? =some (.cells #[.string ⟨#[]⟩,.string ⟨#[]⟩] _ _)at o0;replace cQ:=cQ.le (by decide) yQ.le;replace oY:=oY.le yQ.le;replace hM:=yQ.lt hM;have:=S.size;replace S:=S.aE yQ;refine al rfl rfl ?_;refine eB (M:=Cm) (vs:=[.string ⟨x.1.toArray⟩,.string ⟨x.2.toArray⟩]) jz rfl rfl (by intro u hu;simp at hu;rcases hu with rfl|rfl<;>rfl) rfl rfl o0 mh (fun w6 g6 s6=>?_);have:=av o0;replace mh:=(s6.mem _ this).2 mh;replace cQ:=cQ.le (by decide) s6.le;replace oY:=oY.le s6.le;replace hM:=s6.lt hM;have:=S.size;replace S:=S.trans s6 (fun k hk h=>by have h:_=_:=h;subst h;first|(exfalso;omega)|(show _≤_;omega)|exact⟨by first|omega|assumption,(S.mem _ hk).1 ((s6.mem _ (av o0)).1 mh)⟩|exact .inl rfl|exact .inr rfl|exact .inr (.inl rfl)|exact .inr (.inr rfl)|exact rfl);have OB:=g6;clear o0;have o0:=OB;clear OB;refine ae (au (ak (bI (o':=1) cv rfl rfl I9 (by decide) rfl rfl (br aM rfl rfl rfl (by assumption) rfl ?_))));refine aS rfl rfl abi (G2 _ hM wk.2) (fun r7 w7 hc=>?_);obtain⟨⟨u7,rfl,hu7⟩,s7⟩:=hc;have:=av o0;replace mh:=(s7.mem _ this).2 mh;replace o0:=s7.aX o0;replace cQ:=cQ.le (by decide) s7.le;replace oY:=oY.le s7.le;replace hM:=s7.lt hM;have:=S.size;replace S:=S.aE s7;refine aj rfl rfl (b5 rfl rfl rfl (b5 rfl rfl rfl (al rfl rfl (al rfl rfl (ae (au (bu (au (ak (bI (o':=0) cv rfl rfl I9 (by decide) rfl rfl (br aM rfl rfl rfl (by assumption) rfl ?_)))))))))));refine aS rfl rfl abj (G5 x.1 (by omega) _) (fun r8 w8 hc=>?_);obtain⟨rfl,s8_⟩:=hc;have s8:=s8_ Cm;have:=av o0;replace mh:=(s8.mem _ this).2 mh;replace o0:=s8.aX o0;replace cQ:=cQ.le (by decide) s8.le;replace oY:=oY.le s8.le;replace hM:=s8.lt hM;have:=S.size;replace S:=S.aE s8
    refine fP rfl rfl (bO (v':= .bool (decide (ga x.1=false))) (by cases ga x.1<;>rfl) (al rfl rfl (ae ?_)));refine bW rfl (fun c8=>?_) (fun c8=>?_)
    ·refine au (ak (al rfl rfl (ae (aW ?_))));exact a8 rfl rfl ⟨by rw[Ef,lg,if_pos (by assumption)],S.back⟩
    ·refine au (ak ?_);refine aA (M:=Cm) (A:=RT.dc) (B:=(RT.fd).sl) a7 rfl rfl qx (by decide) (AU) rfl rfl (by decide) (by assumption) (by repeat (first|exact ar _ _|refine aT (bh (by assumption)) ?_)) (fun VI QA=>?_);refine aY (M:=Cm) bj rfl rfl rfl rfl rfl (by assumption) (by repeat (first|exact ar _ _|refine aT (bh (by assumption)) ?_)) (fun VJ Ji=>?_);refine aj rfl rfl ?_;refine Rg.mJ bj jz rfl rfl rfl Ji (by omega) (fun OC yR=>?_);rw[aK]at yR;refine jv (xs:=[]) (ys:=[.tmp 5]) rfl rfl rfl ?_;refine aS rfl rfl abk (Ck _ hM yR o0 mh) (fun r10 w10 hc=>?_);obtain⟨rfl,sk⟩:=hc;have:=av o0;replace mh:=(sk.mem _ this).2 mh;replace o0:=sk.aX o0;replace cQ:=cQ.le (by decide) sk.le;replace oY:=oY.le sk.le;replace hM:=sk.lt hM;have:=S.size;replace S:=S.aE sk;refine al rfl rfl (bO (v':= .bool (decide (((d.2.take i).any fun g=>decide (g.1=x.1))=true))) (by cases((d.2.take i).any fun g=>decide (g.1=x.1))<;>rfl) (ae ?_));refine bW rfl (fun HS=>?_) (fun HS=>?_)
     ·refine au (ak (al rfl rfl (ae (aW ?_))));exact a8 rfl rfl ⟨by rw[Ef,lg,if_neg (by assumption),if_pos (by assumption)],S.back⟩
     ·refine au (ak (aj rfl rfl (eC rfl rfl rfl (al rfl rfl (ae ?_)))));refine bW rfl (fun Vn=>?_) (fun Vn=>?_)
      ·refine au (ak (aj rfl rfl (al rfl rfl (ae (aW ?_)))));exact a8 rfl rfl ⟨by rw[Ef,lg,if_neg (by assumption),if_neg (by assumption),if_pos (by assumption)];rfl,S.back⟩
      ·refine bg (ak (aj rfl rfl ?_));have VK:mg 0 (words x.2)=0:=Classical.not_not.1 Vn;obtain⟨a,cap,rfl⟩:=hu7 VK;have Z7:=lV x.2;refine aj rfl rfl (Rg.IH Tryz.underlying222 rfl rfl (bQ rfl rfl rfl (by omega) (al rfl rfl (ae (ak (bQ rfl rfl rfl (by omega) (aj rfl rfl (ae ?_))))))));refine⟨rfl,(i+1,n+(words x.2).length),(.cons rfl (.cons rfl (.cons rfl (.cons rfl (.cons rfl .nil))))),?_,?_⟩
       ·exact⟨_,hM,S,cQ,oY,by rw[Ef,lg,if_neg (by assumption),if_neg (by assumption),if_neg Vn],by dsimp only;omega,by dsimp only;omega⟩
       ·dsimp only;omega
   ·refine cP (au (au (ak (aj rfl rfl (hY rfl rfl rfl (ae ?_))))));refine bW rfl (fun TX=>?_) (fun TX=>?_)
    ·refine au (ak (al rfl rfl (ae (aW ?_))));exact a8 rfl rfl ⟨by rw[Ef,si (by omega),if_pos (by omega)],S.back⟩
    ·refine bg (au (ak (al rfl rfl (ae (aW ?_)))));exact a8 rfl rfl ⟨by rw[Ef,si (by omega),if_neg (by omega)],S.back⟩
end Go.K
