/- What the law 'MergeRefuses' needs of walks and plain Lean, part 2: nothing is assumed beyond the texts that it imports. -/
import Derived.ChangeKeysEq
import Derived.Ground.Names2Prog
import Derived.KernelRfl
import Derived.Laws.IdiomCopy
import Derived.Laws.MakeOwn
import Derived.Laws.StructEq
import Derived.Lib.RuneBytes
import Derived.Lib.SliceRun
import Derived.Maps.OwnSet
import Derived.Shelf.SlGeneric
import Derived.Shelf.Slices.SearchI
import Derived.Shelf.Small.Strs
import Derived.Shelf.Small.Utf8
import Derived.Shelf.Strings.Builder1
import Derived.Shelf.Strings.BuilderRune
import Derived.Shelf.Strings.SlTrimAscii
import Derived.Test.YtbobcaffmbaadaaGreatDoorProg
import Derived.Test.YtbobcaffmbaadaaGreatDoorZMergeRefuses1
set_option linter.unusedVariables false
set_option linter.unusedSimpArgs false
theorem ab:type_of% @Go.K.Rg.nil:=@Go.K.Rg.nil
theorem ad:type_of% @Go.K.Rg.move:=@Go.K.Rg.move
theorem ae:type_of% @Go.K.T.region:=@Go.K.T.region
theorem ah:type_of% @Go.K.Rg.assign:=@Go.K.Rg.assign
theorem aj:type_of% @Go.K.T.seq:=@Go.K.T.seq
theorem al:type_of% @Go.K.Rg.aF:=@Go.K.Rg.aF
theorem an:type_of% @List.getElem?_eq_some_iff:=@List.getElem?_eq_some_iff
theorem ao:type_of% @Go.Proofs.Tryz.underlying37:=@Go.Proofs.Tryz.underlying37
theorem aq:type_of% @Go.K.Le.refl:=@Go.K.Le.refl
theorem ar:type_of% @Go.K.Rg.bL:=@Go.K.Rg.bL
theorem au:type_of% @List.getElem?_eq_getElem:=@List.getElem?_eq_getElem
theorem aw:type_of% @Go.Proofs.Tryz.underlying3:=@Go.Proofs.Tryz.underlying3
theorem ax:type_of% @Go.K.Step.refl:=@Go.K.Step.refl
theorem ay:type_of% @Int.toNat_natCast:=@Int.toNat_natCast
theorem az:type_of% @List.getD_eq_getElem?_getD:=@List.getD_eq_getElem?_getD
theorem aA:type_of% @List.mem_of_getElem?:=@List.mem_of_getElem?
theorem aE:type_of% @Go.K.Rg.bz:=@Go.K.Rg.bz
theorem aG:type_of% @Go.K.bO.cons:=@Go.K.bO.cons
theorem aH:type_of% @Go.Proofs.Tryz.underlying9:=@Go.Proofs.Tryz.underlying9
theorem aI:type_of% @List.length_map:=@List.length_map
theorem aJ:type_of% @Option.some.inj:=@Option.some.inj
theorem aL:type_of% @Go.K.Rg.bQ:=@Go.K.Rg.bQ
theorem aN:type_of% @Go.K.T.ret:=@Go.K.T.ret
theorem aO:type_of% @Go.K.Rg.bA:=@Go.K.Rg.bA
theorem aQ:type_of% @Go.Proofs.Tryz.underlying57:=@Go.Proofs.Tryz.underlying57
theorem aR:type_of% @Nat.le_refl:=@Nat.le_refl
theorem aS:type_of% @Go.K.Rg.fieldAddr:=@Go.K.Rg.fieldAddr
theorem aT:type_of% @Go.K.T.skip:=@Go.K.T.skip
theorem aV:type_of% @Go.K.Rg.eqv:=@Go.K.Rg.eqv
theorem aW:type_of% @Go.K.Rg.bY:=@Go.K.Rg.bY
theorem aX:type_of% @Go.K.Rg.call:=@Go.K.Rg.call
theorem aY:type_of% @Go.K.Le.trans:=@Go.K.Le.trans
theorem aZ:type_of% @Go.K.T.block:=@Go.K.T.block
theorem a8:type_of% @Go.Proofs.Tryz.underlying69:=@Go.Proofs.Tryz.underlying69
theorem bg:type_of% @List.length_append:=@List.length_append
theorem bj:type_of% @Go.Proofs.Tryz.underlying67:=@Go.Proofs.Tryz.underlying67
theorem bm:type_of% @List.mem_iff_getElem?:=@List.mem_iff_getElem?
theorem br:type_of% @List.take_of_length_le:=@List.take_of_length_le
theorem bu:type_of% @Go.K.Step.le:=@Go.K.Step.le
theorem bB:type_of% @List.getElem?_map:=@List.getElem?_map
theorem bC:type_of% @List.length_take:=@List.length_take
theorem bD:type_of% @Go.K.Rg.cZ:=@Go.K.Rg.cZ
theorem bE:type_of% @List.mem_singleton:=@List.mem_singleton
theorem bF:type_of% @Go.Proofs.Tryz.underlying80:=@Go.Proofs.Tryz.underlying80
theorem bG:type_of% @Nat.zero_le:=@Nat.zero_le
theorem bH:type_of% @List.mem_cons_self:=@List.mem_cons_self
theorem bI:type_of% @Go.Proofs.Tryz.underlying204:=@Go.Proofs.Tryz.underlying204
theorem bJ:type_of% @Go.K.Rg.cI:=@Go.K.Rg.cI
theorem bK:type_of% @Go.K.Rg.extract:=@Go.K.Rg.extract
theorem bM:type_of% @List.length_replicate:=@List.length_replicate
theorem bN:type_of% @Go.K.Rg.cz:=@Go.K.Rg.cz
theorem bP:type_of% @Go.K.T.dP:=@Go.K.T.dP
theorem bR:type_of% @Go.Proofs.Tryz.underlying180:=@Go.Proofs.Tryz.underlying180
theorem bS:type_of% @Go.K.Rg.nilCheck:=@Go.K.Rg.nilCheck
theorem bT:type_of% @Bool.and_eq_true:=@Bool.and_eq_true
theorem bU:type_of% @Go.Proofs.Tryz.underlying72:=@Go.Proofs.Tryz.underlying72
theorem bV:type_of% @Go.K.Rg.load:=@Go.K.Rg.load
theorem bW:type_of% @Go.Proofs.Tryz.underlying83:=@Go.Proofs.Tryz.underlying83
theorem bX:type_of% @List.mem_cons:=@List.mem_cons
theorem b9:type_of% @List.mem_cons_of_mem:=@List.mem_cons_of_mem
theorem ca:type_of% @List.mem_map:=@List.mem_map
theorem cb:type_of% @List.take_add_one:=@List.take_add_one
theorem cd:type_of% @Go.K.Rg.cN:=@Go.K.Rg.cN
theorem cf:type_of% @Go.K.Rg.gL:=@Go.K.Rg.gL
theorem ch:type_of% @Go.Sem.run_bind:=@Go.Sem.run_bind
theorem cj:type_of% @List.getElem?_take:=@List.getElem?_take
theorem ck:type_of% @List.mem_append:=@List.mem_append
theorem cn:type_of% @Go.K.Rg.eg:=@Go.K.Rg.eg
theorem cq:type_of% @List.pairwise_iff_getElem:=@List.pairwise_iff_getElem
theorem cu:type_of% @Go.K.Rg.dx:=@Go.K.Rg.dx
theorem cv:type_of% @Go.Proofs.Tryz.underlying166:=@Go.Proofs.Tryz.underlying166
theorem cw:type_of% @Go.Proofs.Tryz.underlying124:=@Go.Proofs.Tryz.underlying124
theorem cx:type_of% @Go.Proofs.Tryz.underlying5:=@Go.Proofs.Tryz.underlying5
theorem cy:type_of% @List.pairwise_map:=@List.pairwise_map
theorem cA:type_of% @Go.Proofs.Tryz.underlying46:=@Go.Proofs.Tryz.underlying46
theorem cB:type_of% @Go.Result.andThen_ok:=@Go.Result.andThen_ok
theorem cC:type_of% @Go.K.ef.cons:=@Go.K.ef.cons
theorem cD:type_of% @List.length_cons:=@List.length_cons
theorem cF:type_of% @Go.K.Rg.idx:=@Go.K.Rg.idx
theorem cH:type_of% @Option.some.injEq:=@Option.some.injEq
theorem cJ:type_of% @Nat.lt_or_ge:=@Nat.lt_or_ge
theorem cK:type_of% @Go.Proofs.Tryz.underlying119:=@Go.Proofs.Tryz.underlying119
theorem cL:type_of% @Go.K.T.exit:=@Go.K.T.exit
theorem cP:type_of% @List.length_eq_zero_iff:=@List.length_eq_zero_iff
theorem cR:type_of% @Go.K.Step.aK:=@Go.K.Step.aK
theorem cV:type_of% @Option.map_some:=@Option.map_some
theorem cX:type_of% @Go.K.Rg.append:=@Go.K.Rg.append
theorem cY:type_of% @Option.toList_some:=@Option.toList_some
theorem dd:type_of% @Bool.eq_false_iff:=@Bool.eq_false_iff
theorem de:type_of% @Go.K.Rg.dM:=@Go.K.Rg.dM
theorem dh:type_of% @Go.Proofs.Tryz.underlying178:=@Go.Proofs.Tryz.underlying178
theorem dn:type_of% @Go.K.T.loop:=@Go.K.T.loop
theorem dq:type_of% @Prod.mk.injEq:=@Prod.mk.injEq
theorem du:type_of% @List.getElem?_set:=@List.getElem?_set
theorem dw:type_of% @List.length_drop:=@List.length_drop
theorem dz:type_of% @Array.getElem?_setIfInBounds:=@Array.getElem?_setIfInBounds
theorem dB:type_of% @List.drop_eq_getElem_cons:=@List.drop_eq_getElem_cons
theorem dC:type_of% @Eq.symm:=@Eq.symm
theorem dE:type_of% @Go.K.Own.nil:=@Go.K.Own.nil
theorem dF:type_of% @Go.Proofs.Tryz.underlying78:=@Go.Proofs.Tryz.underlying78
theorem dG:type_of% @Go.Proofs.Tryz.underlying183:=@Go.Proofs.Tryz.underlying183
theorem dI:type_of% @Decidable.not_not:=@Decidable.not_not
theorem dJ:type_of% @List.not_mem_nil:=@List.not_mem_nil
theorem dN:type_of% @Go.Proofs.Tryz.underlying153:=@Go.Proofs.Tryz.underlying153
theorem dQ:type_of% @Go.K.Rg.k8:=@Go.K.Rg.k8
theorem dS:type_of% @List.getElem?_eq_none:=@List.getElem?_eq_none
theorem dT:type_of% @Go.K.Rg.lz:=@Go.K.Rg.lz
theorem dU:type_of% @Go.Proofs.Tryz.underlying71:=@Go.Proofs.Tryz.underlying71
theorem dW:type_of% @List.getElem?_cons_zero:=@List.getElem?_cons_zero
theorem dX:type_of% @Go.Proofs.Tryz.underlying196:=@Go.Proofs.Tryz.underlying196
theorem ei:type_of% @List.pairwise_cons:=@List.pairwise_cons
theorem ej:type_of% @Go.Proofs.Tryz.underlying29:=@Go.Proofs.Tryz.underlying29
theorem eo:type_of% @Go.Proofs.Tryz.underlying207:=@Go.Proofs.Tryz.underlying207
theorem ew:type_of% @List.length_singleton:=@List.length_singleton
theorem ey:type_of% @Go.K.Rg.alloc:=@Go.K.Rg.alloc
theorem ez:type_of% @Go.K.Rg.ed:=@Go.K.Rg.ed
theorem eA:type_of% @List.map_append:=@List.map_append
theorem eE:type_of% @Nat.lt_trichotomy:=@Nat.lt_trichotomy
theorem eG:type_of% @Nat.mul_one:=@Nat.mul_one
theorem eI:type_of% @Go.K.bZ.load:=@Go.K.bZ.load
theorem eJ:type_of% @Nat.le_trans:=@Nat.le_trans
theorem eP:type_of% @Go.Proofs.Tryz.underlying142:=@Go.Proofs.Tryz.underlying142
theorem eQ:type_of% @Go.Proofs.Tryz.underlying121:=@Go.Proofs.Tryz.underlying121
theorem eR:type_of% @Go.Proofs.Tryz.underlying131:=@Go.Proofs.Tryz.underlying131
theorem eS:type_of% @List.map_cons:=@List.map_cons
theorem eT:type_of% @Bool.true_and:=@Bool.true_and
theorem fe:type_of% @List.ext_getElem?:=@List.ext_getElem?
theorem ff:type_of% @Go.K.lB.nil:=@Go.K.lB.nil
theorem fp:type_of% @Go.K.Rg.nG:=@Go.K.Rg.nG
theorem fq:type_of% @Go.K.Rg.jz:=@Go.K.Rg.jz
theorem fu:type_of% @Go.Proofs.Tryz.underlying25:=@Go.Proofs.Tryz.underlying25
theorem fv:type_of% @Go.Proofs.Tryz.underlying49:=@Go.Proofs.Tryz.underlying49
theorem fA:type_of% @List.length_set:=@List.length_set
theorem fB:type_of% @List.map_toArray:=@List.map_toArray
theorem fC:type_of% @List.all_eq_true:=@List.all_eq_true
theorem fD:type_of% @List.drop_eq_nil_of_le:=@List.drop_eq_nil_of_le
theorem fJ:type_of% @Go.Proofs.Tryz.underlying0:=@Go.Proofs.Tryz.underlying0
theorem fQ:type_of% @List.nil_append:=@List.nil_append
theorem fR:type_of% @Nat.zero_add:=@Nat.zero_add
theorem fS:type_of% @Go.K.Rg.gU:=@Go.K.Rg.gU
theorem fT:type_of% @List.mem_filter:=@List.mem_filter
theorem fW:type_of% @Go.Value.slice.injEq:=@Go.Value.slice.injEq
theorem gw:type_of% @Nat.mul_le_mul_right:=@Nat.mul_le_mul_right
theorem gx:type_of% @Go.IntWalk.u64_in:=@Go.IntWalk.u64_in
theorem gy:type_of% @List.mem_append_left:=@List.mem_append_left
theorem gI:type_of% @Go.Proofs.Tryz.zeroValue0:=@Go.Proofs.Tryz.zeroValue0
theorem gJ:type_of% @Go.Proofs.Tryz.zeroValue3:=@Go.Proofs.Tryz.zeroValue3
theorem gK:type_of% @Go.Proofs.Tryz.zeroValue9:=@Go.Proofs.Tryz.zeroValue9
theorem gN:type_of% @Go.K.Rg.qg:=@Go.K.Rg.qg
theorem gQ:type_of% @List.drop_of_length_le:=@List.drop_of_length_le
theorem gR:type_of% @Go.K.bZ.move:=@Go.K.bZ.move
theorem gY:type_of% @List.mem_map_of_mem:=@List.mem_map_of_mem
theorem ig:type_of% @Option.map_none:=@Option.map_none
theorem il:type_of% @List.getElem?_toArray:=@List.getElem?_toArray
theorem iu:type_of% @Nat.lt_of_lt_of_le:=@Nat.lt_of_lt_of_le
theorem iA:type_of% @Go.K.Part.snd:=@Go.K.Part.snd
theorem iF:type_of% @Go.Proofs.Tryz.underlying151:=@Go.Proofs.Tryz.underlying151
theorem iG:type_of% @Go.Proofs.Tryz.underlying205:=@Go.Proofs.Tryz.underlying205
theorem iH:type_of% @Go.Proofs.Tryz.underlying133:=@Go.Proofs.Tryz.underlying133
theorem iM:type_of% @Go.K.Rg.gC:=@Go.K.Rg.gC
theorem iN:type_of% @Go.Proofs.Tryz.underlying4:=@Go.Proofs.Tryz.underlying4
theorem iT:type_of% @List.getElem?_replicate:=@List.getElem?_replicate
theorem iU:type_of% @Bool.not_eq_true':=@Bool.not_eq_true'
theorem iW:type_of% @Go.K.Rg.build:=@Go.K.Rg.build
theorem iX:type_of% @List.append_nil:=@List.append_nil
theorem jc:type_of% @Go.K.Rg.tp:=@Go.K.Rg.tp
theorem jd:type_of% @Go.K.iw.all:=@Go.K.iw.all
theorem je:type_of% @List.getD_cons_zero:=@List.getD_cons_zero
theorem jf:type_of% @List.getD_cons_succ:=@List.getD_cons_succ
theorem jg:type_of% @List.mergeSort_perm:=@List.mergeSort_perm
theorem jj:type_of% @Go.K.bZ.field:=@Go.K.bZ.field
theorem jv:type_of% @Nat.lt_irrefl:=@Nat.lt_irrefl
theorem jw:type_of% @Go.Proofs.Tryz.zeroValue4:=@Go.Proofs.Tryz.zeroValue4
theorem jD:type_of% @Go.K.T.iff:=@Go.K.T.iff
theorem jE:type_of% @List.contains_iff_mem:=@List.contains_iff_mem
theorem jF:type_of% @Array.getElem?_modify:=@Array.getElem?_modify
theorem jN:type_of% @List.getElem?_append_left:=@List.getElem?_append_left
theorem jO:type_of% @Go.Proofs.Tryz.underlying189:=@Go.Proofs.Tryz.underlying189
theorem jP:type_of% @Go.Proofs.Tryz.underlying155:=@Go.Proofs.Tryz.underlying155
theorem jQ:type_of% @Go.Proofs.Tryz.underlying198:=@Go.Proofs.Tryz.underlying198
theorem jR:type_of% @Go.Proofs.Tryz.underlying139:=@Go.Proofs.Tryz.underlying139
theorem jY:type_of% @List.length_nil:=@List.length_nil
theorem j4:type_of% @Go.IntWalk.i64_in:=@Go.IntWalk.i64_in
theorem j5:type_of% @List.map_nil:=@List.map_nil
theorem j6:type_of% @Go.Proofs.Tryz.sizeOf0:=@Go.Proofs.Tryz.sizeOf0
theorem j7:type_of% @Go.Proofs.Tryz.sizeOf3:=@Go.Proofs.Tryz.sizeOf3
theorem j8:type_of% @Go.Proofs.Tryz.sizeOf9:=@Go.Proofs.Tryz.sizeOf9
theorem ka:type_of% @Go.K.Rg.makeFunc:=@Go.K.Rg.makeFunc
theorem kd:type_of% @Go.K.eO.refl:=@Go.K.eO.refl
theorem kE:type_of% @Go.Proofs.Tryz.underlying58:=@Go.Proofs.Tryz.underlying58
theorem kJ:type_of% @List.cons_append:=@List.cons_append
theorem kK:type_of% @Bool.false_and:=@Bool.false_and
theorem kL:type_of% @List.getElem?_cons_succ:=@List.getElem?_cons_succ
theorem k7:type_of% @Go.K.Rg.xb:=@Go.K.Rg.xb
theorem lD:type_of% @Go.K.T.rK:=@Go.K.T.rK
theorem lE:type_of% @Nat.eq_or_lt_of_le:=@Nat.eq_or_lt_of_le
theorem lJ:type_of% @Go.Proofs.Tryz.isAgg0:=@Go.Proofs.Tryz.isAgg0
theorem lK:type_of% @Go.Proofs.Tryz.isAgg3:=@Go.Proofs.Tryz.isAgg3
theorem lL:type_of% @Go.Proofs.Tryz.isAgg9:=@Go.Proofs.Tryz.isAgg9
theorem lM:type_of% @Bool.eq_iff_iff:=@Bool.eq_iff_iff
theorem l4:type_of% @Go.Proofs.Tryz.underlying217:=@Go.Proofs.Tryz.underlying217
theorem l5:type_of% @List.length_filter_le:=@List.length_filter_le
theorem mR:type_of% @Go.K.Part.fst:=@Go.K.Part.fst
theorem mS:type_of% @Go.K.Rg.not:=@Go.K.Rg.not
theorem nr:type_of% @Nat.pow_le_pow_right:=@Nat.pow_le_pow_right
theorem nt:type_of% @List.pairwise_append:=@List.pairwise_append
theorem nF:type_of% @Go.Addr.mk.injEq:=@Go.Addr.mk.injEq
theorem nK:type_of% @Nat.mod_eq_of_lt:=@Nat.mod_eq_of_lt
theorem nL:type_of% @Go.Proofs.Tryz.sizeOf4:=@Go.Proofs.Tryz.sizeOf4
theorem nN:type_of% @Go.K.tq.nil:=@Go.K.tq.nil
theorem nP:type_of% @Go.K.Rg.iI:=@Go.K.Rg.iI
theorem nQ:type_of% @Go.Proofs.Tryz.underlying47:=@Go.Proofs.Tryz.underlying47
theorem oH:type_of% @List.take_succ_cons:=@List.take_succ_cons
theorem oI:type_of% @List.length_pos_iff:=@List.length_pos_iff
theorem pR:type_of% @List.eq_of_mem_replicate:=@List.eq_of_mem_replicate
theorem qb:type_of% @Bool.or_eq_true:=@Bool.or_eq_true
theorem qc:type_of% @List.idxOf_cons:=@List.idxOf_cons
theorem qe:type_of% @BitVec.toNat_ofInt:=@BitVec.toNat_ofInt
theorem rj:type_of% @Go.K.gz.nil:=@Go.K.gz.nil
theorem rI:type_of% @Go.Proofs.Tryz.isAgg4:=@Go.Proofs.Tryz.isAgg4
theorem sk:type_of% @List.take_succ_eq_append_getElem:=@List.take_succ_eq_append_getElem
theorem sm:type_of% @List.flatMap_cons:=@List.flatMap_cons
theorem so:type_of% @Go.K.Rg.conv:=@Go.K.Rg.conv
theorem sr:type_of% @List.foldl_append:=@List.foldl_append
theorem su:type_of% @Go.Proofs.Tryz.underlying190:=@Go.Proofs.Tryz.underlying190
theorem sw:type_of% @Go.Proofs.Tryz.underlying209:=@Go.Proofs.Tryz.underlying209
theorem tw:type_of% @Go.Proofs.Tryz.zeroValue5:=@Go.Proofs.Tryz.zeroValue5
theorem uK:type_of% @List.take_append_drop:=@List.take_append_drop
theorem uL:type_of% @List.Pairwise.sublist:=@List.Pairwise.sublist
theorem uN:type_of% @List.any_eq_true:=@List.any_eq_true
theorem uO:type_of% @Go.K.T.kO:=@Go.K.T.kO
theorem uP:type_of% @List.getElem_mem:=@List.getElem_mem
theorem uQ:type_of% @List.mem_flatMap:=@List.mem_flatMap
theorem vV:type_of% @Go.Proofs.Tryz.underlying26:=@Go.Proofs.Tryz.underlying26
theorem wW:type_of% @Go.Addr.add_mid:=@Go.Addr.add_mid
theorem wX:type_of% @Go.K.Rg.box:=@Go.K.Rg.box
theorem wY:type_of% @List.mem_iff_getElem:=@List.mem_iff_getElem
theorem xn:type_of% @Go.K.Rg.mg:=@Go.K.Rg.mg
theorem xo:type_of% @Go.K.bO.nil:=@Go.K.bO.nil
theorem xD:type_of% @Nat.min_eq_left:=@Nat.min_eq_left
theorem zt:type_of% @Int.toNat_of_nonneg:=@Int.toNat_of_nonneg
theorem zu:type_of% @Array.length_toList:=@Array.length_toList
theorem zw:type_of% @List.filter_sublist:=@List.filter_sublist
theorem zC:type_of% @Go.K.Rg.pA:=@Go.K.Rg.pA
namespace Go.K
def put (n:Nat):List UInt8:=if n<128 then[UInt8.ofNat n]else UInt8.ofNat (128+n%128)::put (n/128)
termination_by n
decreasing_by omega
theorem xV {n:Nat} (h:n<128):put n=[UInt8.ofNat n]:=by rw[put,if_pos h]
theorem Fg {n:Nat} (h:128≤n):put n=UInt8.ofNat (128+n%128)::put (n/128):=by rw[put,if_neg (by omega)]
theorem OC (n:Nat):0<(put n).length:=by rw[put];split<;>simp
theorem OD {k:Nat}:∀{n:Nat},n<128^(k+1)→(put n).length≤k+1:=by
 induction k with
 |zero=>intro n h;rw[xV (by simpa using h)];simp
 |succ k ih=>
  intro n h;by_cases h1:n<128
  ·rw[xV h1];simp
  ·rw[Fg (by omega)];have:=ih (n:=n/128) (by rw[Nat.pow_succ]at h;omega);simp;omega
theorem ll {n:Nat} (h:n≤9223372036854775807):(put n).length≤9:=OD (k:=8) (by omega)
def nW:List UInt8→Nat→Nat→Option (Nat×Nat)
 |[],_,_=>none
 |c::cs,i,n=>if c.toNat<128 then(if c.toNat=0∧0<i then none else some (n+c.toNat%128*128^i,i+1))else nW cs (i+1) (n+c.toNat%128*128^i)
def get (b:List UInt8) (at_:Int):Int×Int×Int:=
 if at_<0∨(b.length:Int)<at_ then(0,0,1)
 else match nW ((b.drop at_.toNat).take 9) 0 0 with
  |some (n,k)=>(n,at_+k,0)
  |none=>(0,0,2)
theorem nX {bs:List UInt8} {k:Nat} {c:UInt8} (h:bs[k]? =some c) (n:Nat):nW (bs.drop k) k n=
  if c.toNat<128 then(if c.toNat=0∧0<k then none else some (n+c.toNat%128*128^k,k+1))else nW (bs.drop (k+1)) (k+1) (n+c.toNat%128*128^k):=by
 obtain⟨dO,he⟩:=an.1 h;rw[dB dO,nW,he]
theorem SB (b:List UInt8) (i:Nat):(b.take (min b.length (i+9))).drop i=(b.drop i).take 9:=by
 rw[List.drop_take,List.take_eq_take_iff];simp;omega
def val:List UInt8→Nat
 |[]=>0
 |c::cs=>c.toNat%128+128*val cs
def ek:Int→List Int→Bool
 |_,[]=>true
 |last,x::l=>decide (last<x)&&ek x l
def lO:Int→List Int→List UInt8
 |_,[]=>[]
 |last,x::l=>put (x-last-1).toNat++lO x l
def eC (l:List Int):List UInt8:=put l.length++lO (-1) l
def QD:Int→List Int→List Int
 |_,[]=>[]
 |last,x::l=>let m:=if x<0 then-(x+1)else x;(last+1+m%1000)::QD (last+1+m%1000) l
def good (l:List Int) (most:Nat):List Int:=QD (-1) (l.take most)
theorem uY {b:List UInt8} {at_:Int} (h:(get b at_).2.2=0):0≤at_∧at_<(get b at_).2.1∧(get b at_).2.1≤b.length∧0≤(get b at_).1∧(get b at_).1<9223372036854775808:=by
 unfold get at h ⊢
 split at h
 ·simp at h
 rename_i hr
 rw[if_neg hr]at*
 have key:∀(bs:List UInt8) (i n m k:Nat),nW bs i n=some (m,k)→bs.length+i≤9→n<128^i→i<k∧k≤i+bs.length∧m<128^k:=by
  intro bs
  induction bs with
  |nil=>intro i n m k h;simp[nW]at h
  |cons c cs ih=>
   intro i n m k h hl hn
   have hd:n+c.toNat%128*128^i<128^(i+1):=by
    have:=gw (128^i) (show c.toNat%128≤127 from by omega);rw[Nat.pow_succ];omega
   simp only[nW]at h
   split at h
   ·split at h
    ·cases h
    ·cases h;exact⟨by omega,by simp,hd⟩
   ·obtain⟨h1,h2,h3⟩:=ih (i+1) _ m k h (by simp at hl;omega) hd;exact⟨by omega,by simp;omega,h3⟩
 cases hg:nW ((b.drop at_.toNat).take 9) 0 0 with
 |none=>simp[hg]at h
 |some p=>
  obtain⟨m,k⟩:=p;have hlen:((b.drop at_.toNat).take 9).length≤9∧((b.drop at_.toNat).take 9).length≤b.length-at_.toNat:=by rw[bC,dw];omega
  obtain⟨h1,h2,h3⟩:=key _ 0 0 m k hg (by omega) (by decide);have hp:128^k≤128^9:=nr (by decide) (by omega);simp only;omega
def iD (b:List UInt8):Nat→Int→Int→Int×List Int×Int
 |0,at_,_=>(0,[],at_)
 |k+1,at_,last=>
  if(get b at_).2.2≠0 then((get b at_).2.2,[],0)
  else if 4611686018427387904-last-1<(get b at_).1 then(2,[],0)
  else if(iD b k (get b at_).2.1 (last+1+(get b at_).1)).1≠0 then((iD b k (get b at_).2.1 (last+1+(get b at_).1)).1,[],0)
  else(0,(last+1+(get b at_).1)::(iD b k (get b at_).2.1 (last+1+(get b at_).1)).2.1,(iD b k (get b at_).2.1 (last+1+(get b at_).1)).2.2)
def gZ (b:List UInt8) (at_:Int):Int×List Int×Int:=
 if(get b at_).2.2≠0 then((get b at_).2.2,[],0)else iD b (get b at_).1.toNat (get b at_).2.1 (-1)
theorem gD {l:List Int} {k:Nat} {x:Int} (h:l[k]? =some x) (last:Int):ek last (l.drop k)=(decide (last<x)&&ek x (l.drop (k+1))):=by
 obtain⟨dO,he⟩:=an.1 h;rw[dB dO,ek,he]
theorem H9 {l:List Int} {k:Nat} {x:Int} (h:l[k]? =some x) (last:Int):lO last (l.drop k)=put (x-last-1).toNat++lO x (l.drop (k+1)):=by
 obtain⟨dO,he⟩:=an.1 h;rw[dB dO,lO,he]
theorem xW:∀(l:List Int) (last:Int),-1≤last→(∀x∈l,x≤9223372036854775807)→ek last l=true→(lO last l).length≤9*l.length
 |[],_,_,_,_=>by simp[lO]
 |x::l,last,h1,h2,h3=>by
  simp only[ek,bT,decide_eq_true_eq]at h3;have hx:=h2 x (bH ..);have h4:=xW l x (by omega) (fun y hy=>h2 y (b9 _ hy)) h3.2;have h5:=ll (n:=(x-last-1).toNat) (by omega);simp only[lO,bg,cD];omega
theorem xX (b:List UInt8) (a last:Int):iD b 0 a last=(0,[],a):=rfl
theorem sJ {b:List UInt8} {k:Nat} {a last:Int} (h:(get b a).2.2≠0):iD b (k+1) a last=((get b a).2.2,[],0):=by rw[iD,if_pos h]
theorem uZ {b:List UInt8} {k:Nat} {a last:Int} (h:(get b a).2.2=0) (h2:4611686018427387904-last-1<(get b a).1):iD b (k+1) a last=(2,[],0):=by
 rw[iD,if_neg (by simpa using h),if_pos h2]
theorem xY {b:List UInt8} {k:Nat} {a last:Int} (h:(get b a).2.2=0) (h2: ¬4611686018427387904-last-1<(get b a).1):iD b (k+1) a last=
  if(iD b k (get b a).2.1 (last+1+(get b a).1)).1≠0 then((iD b k (get b a).2.1 (last+1+(get b a).1)).1,[],0)
  else(0,(last+1+(get b a).1)::(iD b k (get b a).2.1 (last+1+(get b a).1)).2.1,(iD b k (get b a).2.1 (last+1+(get b a).1)).2.2):=by
 rw[iD,if_neg (by simpa using h),if_neg h2]
def andThen (acc:List Int) (r:Int×List Int×Int):Int×List Int×Int:=if r.1≠0 then(r.1,[],0)else(0,acc++r.2.1,r.2.2)
theorem oS {b:List UInt8} {k:Nat} {a last:Int} (acc:List Int) (h:(get b a).2.2=0) (h2: ¬4611686018427387904-last-1<(get b a).1):
  andThen acc (iD b (k+1) a last)=andThen (acc++[last+1+(get b a).1]) (iD b k (get b a).2.1 (last+1+(get b a).1)):=by
 rw[xY h h2];unfold andThen;by_cases h3:(iD b k (get b a).2.1 (last+1+(get b a).1)).1=0<;>simp[h3]
theorem CL (r:Int×List Int×Int) (h:r.1≠0→r.2=([],0)):andThen [] r=r:=by
 unfold andThen;by_cases h3:r.1=0
 ·rw[if_neg (by simpa using h3)];ext<;>simp[h3]
 ·rw[if_pos h3,←h h3]
theorem Ia (b:List UInt8):∀(k:Nat) (a last:Int),(iD b k a last).1≠0→(iD b k a last).2=([],0)
 |0,a,last,h=>by simp[iD]at h
 |k+1,a,last,h=>by
  rw[iD]at h ⊢
  split
  ·rfl
  ·rename_i h1;rw[if_neg h1]at h
   split
   ·rfl
   ·rename_i h2;rw[if_neg h2]at h
    split
    ·rfl
    ·rename_i h3;rw[if_neg h3]at h;simp at h
theorem oT (b:List UInt8) (a:Int):0≤(get b a).1∧0≤(get b a).2.2∧(get b a).2.2≤2∧((get b a).2.2≠0→(get b a).1=0∧(get b a).2.1=0):=by
 unfold get
 split
 ·simp
 ·split<;>simp<;>omega
theorem Ar (b:List UInt8) (a:Int):(get b a).1≤9223372036854775807:=by
 by_cases h:(get b a).2.2=0
 ·have:=uY h;omega
 ·have:=(oT b a).2.2.2 h;omega
theorem Kc:∀(k m i acc:Nat) (post:List UInt8),m<128^(k+1)→(0<i→m≠0)→nW ((put m++post).take (k+1)) i acc=some (acc+m*128^i,i+(put m).length):=by
 intro k
 induction k with
 |zero=>
  intro m i acc post h h0;have hm:m<128:=by simpa using h
  have e:(UInt8.ofNat m).toNat=m:=by rw[UInt8.toNat_ofNat'];omega
  rw[xV hm];simp only[kJ,fQ,oH,nW,e];rw[if_pos hm,if_neg (by omega),nK hm];rfl
 |succ k ih=>
  intro m i acc post h h0;by_cases hm:m<128
  ·have e:(UInt8.ofNat m).toNat=m:=by rw[UInt8.toNat_ofNat'];omega
   rw[xV hm];simp only[kJ,fQ,oH,nW,e];rw[if_pos hm,if_neg (by omega),nK hm];rfl
  ·have e:(UInt8.ofNat (128+m%128)).toNat=128+m%128:=by rw[UInt8.toNat_ofNat'];omega
   rw[Fg (by omega)];simp only[kJ,oH,nW,e];rw[if_neg (by omega),ih (m/128) (i+1) _ post (by rw[Nat.pow_succ]at h;omega) (by omega)];have h2:(128+m%128)%128=m%128:=by omega
   rw[h2,Nat.pow_succ];congr 2
   ·have h3:m=m%128+128*(m/128):=by omega
    have h4:m*128^i=(m%128)*128^i+(m/128)*(128^i*128):=by
     conv=>lhs;rw[h3]
     rw[Nat.add_mul,Nat.mul_comm 128 (m/128),Nat.mul_assoc,Nat.mul_comm 128 (128^i)]
    omega
   ·simp;omega
theorem Bi (pre post:List UInt8) {n:Nat} (hn:n≤9223372036854775807):get (pre++put n++post) pre.length=((n:Int),((pre.length+(put n).length:Nat):Int),0):=by
 unfold get;rw[if_neg (by simp;omega)]
 have h1:((pre++put n++post).drop (pre.length:Int).toNat).take 9=(put n++post).take (8+1):=by
  rw[ay,List.append_assoc,List.drop_left]
 rw[h1,Kc 8 n 0 0 post (by omega) (by omega)];simp
theorem As:∀(l:List Int) (pre post:List UInt8) (last:Int),-1≤last→ek last l=true→(∀x∈l,x≤4611686018427387904)→
  iD (pre++lO last l++post) l.length pre.length last=(0,l,((pre.length+(lO last l).length:Nat):Int))
 |[],pre,post,last,_,_,_=>by simp[lO,iD]
 |x::l,pre,post,last,h1,h2,h3=>by
  simp only[ek,bT,decide_eq_true_eq]at h2;have hx:=h3 x (bH ..);have e0:pre++lO last (x::l)++post=pre++put (x-last-1).toNat++(lO x l++post):=by simp[lO]
  have e1:=Bi pre (lO x l++post) (n:=(x-last-1).toNat) (by omega);have e2:pre++put (x-last-1).toNat++(lO x l++post)=(pre++put (x-last-1).toNat)++lO x l++post:=by simp
  have ih:=As l (pre++put (x-last-1).toNat) post x (by omega) h2.2 (fun y hy=>h3 y (b9 _ hy));rw[e0,cD,xY (by rw[e1]) (by rw[e1];simp only;omega),e1];simp only;have e3:last+1+(((x-last-1).toNat:Nat):Int)=x:=by omega
  rw[e3,e2,show((pre.length+(put (x-last-1).toNat).length:Nat):Int)=((pre++put (x-last-1).toNat).length:Int)from by simp,ih];simp[lO];omega
theorem zI (pre post:List UInt8) {l:List Int} (hr:ek (-1) l=true) (h3:∀x∈l,x≤4611686018427387904) (hl:l.length≤9223372036854775807):
  gZ (pre++eC l++post) pre.length=(0,l,((pre.length+(eC l).length:Nat):Int)):=by
 have e0:pre++eC l++post=pre++put l.length++(lO (-1) l++post):=by simp[eC]
 have e1:=Bi pre (lO (-1) l++post) (n:=l.length) hl;have e2:pre++put l.length++(lO (-1) l++post)=(pre++put l.length)++lO (-1) l++post:=by simp
 unfold gZ;rw[e0,e1,if_neg (by simp)];simp only;have:=As l (pre++put l.length) post (-1) (by omega) hr h3;rw[e2,show((pre.length+(put l.length).length:Nat):Int)=((pre++put l.length).length:Int)from by simp,ay,this];simp[eC];omega
end Go.K
namespace Go.K
abbrev Po:=Int×List Int
abbrev Bl:=Int×Int×Int×Int
abbrev Li:=List UInt8×List Bl×Int
abbrev RT.po:RT Po:=RT.pair (RT.int .i64) ((RT.int .i64).sl)
abbrev RT.bl:RT Bl:=RT.pair (RT.int .i64) (RT.pair (RT.int .i64) (RT.pair (RT.int .i64) (RT.int .i64)))
abbrev RT.li:RT Li:=RT.pair (RT.u8.sl) (RT.pair ((RT.bl).sl) (RT.int .i64))
theorem QE:Part RT.po (RT.int .i64) (fun p=>p.1) 0:=mR _ _
theorem WT:Part RT.po ((RT.int .i64).sl) (fun p=>p.2) 1:=iA _ _
theorem bl0:Part RT.bl (RT.int .i64) (fun b=>b.1) 0:=mR _ _
theorem bl1:Part RT.bl (RT.int .i64) (fun b=>b.2.1) 1:=(iA _ _).trans (mR _ _)
theorem bl3:Part RT.bl (RT.int .i64) (fun b=>b.2.2.2) 3:=(iA _ _).trans ((iA _ _).trans (iA _ _))
theorem li0:Part RT.li (RT.u8.sl) (fun x=>x.1) 0:=mR _ _
theorem li1:Part RT.li ((RT.bl).sl) (fun x=>x.2.1) 1:=(iA _ _).trans (mR _ _)
def VY (n:Nat) (k:Int):Bool:=decide (0≤k∧k<n)
def dY:Int→List Po→List UInt8
 |_,[]=>[]
 |last,(d,ps)::l=>put (d-last-1).toNat++eC ps++dY d l
def dv:Int→List Po→Int
 |last,[]=>last
 |_,(d,_)::l=>dv d l
def jm (l:List Po):Int:=(l.map fun p=>(p.2.length:Int)).sum
theorem tK (l l':List Po) (last:Int):dY last (l++l')=dY last l++dY (dv last l) l':=by
 induction l generalizing last with
 |nil=>rfl
 |cons p l ih=>obtain⟨d,ps⟩:=p;simp[dY,dv,ih]
theorem tL (l l':List Po):jm (l++l')=jm l+jm l':=by simp[jm]
def wu (l:List Po) (k:Nat):Bl:=((dY (-1) (l.take (8*k))).length,dv (-1) (l.take (8*k)),dv (-1) (l.take (8*k+8)),((l.drop (8*k)).take 8).length)
def rA (l:List Po) (m:Nat):List Bl:=(List.range m).map (wu l)
def oU (l:List Po):Li:=(dY (-1) l,rA l ((l.length+7)/8),jm l)
def oV (l:List Int):Bool:=ek (-1) l&&l.all (fun n=>decide (n<2147483648))
def fU:Int→List Po→Bool
 |_,[]=>true
 |last,(d,ps)::l=>decide (last<d)&&decide (d<2147483648)&& !ps.isEmpty&&oV ps&&fU d l
theorem Bj:∀{l:List Po} {i:Nat} {last d:Int} {ps:List Int},fU last l=true→l[i]? =some (d,ps)→
  dv last (l.take i)<d∧d<2147483648∧ps≠[]∧oV ps=true∧dv last (l.take (i+1))=d∧last≤dv last (l.take i)
 |[],i,_,_,_,_,h=>by simp at h
 |(d0,p0)::l,0,last,d,ps,hm,h=>by
  simp only[dW,cH,dq]at h;obtain⟨rfl,rfl⟩:=h;simp only[fU,bT,decide_eq_true_eq]at hm;obtain⟨⟨⟨⟨h1,h2⟩,h3⟩,h4⟩,h5⟩:=hm;refine⟨h1,h2,?_,h4,by simp[dv],by simp[dv]⟩;rintro rfl;simp at h3
 |(d0,p0)::l,i+1,last,d,ps,hm,h=>by
  simp only[fU,bT,decide_eq_true_eq]at hm;obtain⟨⟨⟨⟨h1,h2⟩,h3⟩,h4⟩,h5⟩:=hm;obtain⟨a1,a2,a3,a4,a5,a6⟩:=Bj (i:=i) h5 (by simpa using h);refine⟨by simpa[dv]using a1,a2,a3,a4,by simpa[dv]using a5,?_⟩;simp only[oH,dv];omega
theorem xZ {l:List Po} {i:Nat} {d:Int} {ps:List Int} (last:Int) (h:l[i]? =some (d,ps)):
  dY last (l.take (i+1))=dY last (l.take i)++put (d-dv last (l.take i)-1).toNat++eC ps:=by
 obtain⟨h1,h2⟩:=an.1 h;rw[sk h1,h2,tK];simp[dY]
theorem qn {l:List Po} {i:Nat} (last:Int):dY last l=dY last (l.take i)++dY (dv last (l.take i)) (l.drop i):=by
 conv=>lhs;rw[←uK i l]
 exact tK _ _ _
theorem oW {l:List Int}:oV l=true↔ek (-1) l=true∧∀x∈l,x<2147483648:=by
 simp[oV]
def rQ (b:List UInt8) (at_ ahead:Int):Po×Int×Int:=
 if(get b at_).2.2≠0 then((0,[]),0,(get b at_).2.2)
 else((IntKind.i64.wrap (IntKind.i64.wrap (ahead+1)+(get b at_).1),(gZ b (get b at_).2.1).2.1),(gZ b (get b at_).2.1).2.2,(gZ b (get b at_).2.1).1)
theorem Kd {l:List Po} {i:Nat} {d:Int} {ps:List Int} (hm:fU (-1) l=true) (h:l[i]? =some (d,ps)) (hl:ps.length≤1099511627776):
  rQ (dY (-1) l) (((dY (-1) (l.take i)).length:Nat):Int) (dv (-1) (l.take i))=((d,ps),(((dY (-1) (l.take (i+1))).length:Nat):Int),0):=by
 obtain⟨h1,h2,h3,h4,h5,h6⟩:=Bj hm h;obtain⟨h7,h8⟩:=oW.1 h4;have e1:=qn (l:=l) (i:=i+1) (-1);have e2:=xZ (-1) h;generalize hla:dv (-1) (l.take i)=last at h1 h6 e2 ⊢;generalize ru:dY (-1) (l.take i)=pre at e2 ⊢;generalize dY (dv (-1) (l.take (i+1))) (l.drop (i+1))=post at e1;rw[e2]at e1 ⊢;have g1:=Bi pre (eC ps++post) (n:=(d-last-1).toNat) (by omega);have g2:=zI (pre++put (d-last-1).toNat) post h7 (fun x hx=>by have:=h8 x hx;omega) (by omega);rw[show pre++put (d-last-1).toNat++(eC ps++post)=dY (-1) l from by rw[e1];simp]at g1;rw[←e1]at g2;unfold rQ;rw[g1];simp only[ne_eq,not_true_eq_false,if_false];have tu:((pre.length+(put (d-last-1).toNat).length:Nat):Int)=((pre++put (d-last-1).toNat).length:Int):=by simp
 rw[tu,g2];refine Prod.ext (Prod.ext ?_ rfl) (Prod.ext ?_ rfl)
 ·simp only;rw[j4 (last+1) (by omega),j4 _ (by omega)];omega
 ·simp;omega
theorem qo {l:List Int} {k:Nat} {x:Int} (p:Int→Bool) (h:l[k]? =some x):(l.drop k).all p=(p x&&(l.drop (k+1)).all p):=by
 obtain⟨h1,h2⟩:=an.1 h;rw[dB h1,h2,List.all_cons]
theorem mj {l:List Po} {k:Nat} {d:Int} {ps:List Int} (h:l[k]? =some (d,ps)) (last:Int):
  fU last (l.drop k)=(decide (last<d)&&decide (d<2147483648)&& !ps.isEmpty&&oV ps&&fU d (l.drop (k+1))):=by
 obtain⟨h1,h2⟩:=an.1 h;rw[dB h1,h2,fU]
theorem x4 {l:List Po} {i:Nat} {d:Int} {ps:List Int} (h:l[i]? =some (d,ps)):jm (l.take (i+1))=jm (l.take i)+ps.length:=by
 obtain⟨h1,h2⟩:=an.1 h;rw[sk h1,h2,tL];simp[jm]
theorem oX (l:List Po):0≤jm l:=by
 induction l with
 |nil=>simp[jm]
 |cons p l ih=>simp only[jm,eS,List.sum_cons]at ih ⊢;omega
theorem CM (l:List Po) (i:Nat):0≤jm (l.take i)∧jm (l.take i)≤jm l:=by
 refine⟨oX _,?_⟩
 conv=>rhs;rw[←uK i l,tL]
 have:=oX (l.drop i);omega
theorem ny (l:List Po) (i:Nat):(dY (-1) (l.take i)).length≤(dY (-1) l).length:=by
 rw[qn (l:=l) (i:=i) (-1)];simp
theorem Ib (l:List Po) (k:Nat):rA l (k+1)=rA l k++[wu l k]:=by simp[rA,List.range_succ]
theorem sK:∀(l:List Po) (last:Int),fU last l=true→last<2147483648→∀n:Nat,last≤dv last (l.take n)∧dv last (l.take n)<2147483648
 |[],last,_,h,n=>by simp[dv];exact h
 |(d,ps)::l,last,hm,h,0=>by simp[dv];exact h
 |(d,ps)::l,last,hm,h,n+1=>by
  simp only[fU,bT,decide_eq_true_eq]at hm;obtain⟨⟨⟨⟨h1,h2⟩,h3⟩,h4⟩,h5⟩:=hm;have:=sK l d h5 h2 n;simp only[oH,dv];omega
theorem abW {M:aC} {w:World} {a b c d:Int} (ha: -9223372036854775808≤a∧a≤9223372036854775807) (hb: -9223372036854775808≤b∧b≤9223372036854775807) (hc: -9223372036854775808≤c∧c≤9223372036854775807) (hd: -9223372036854775808≤d∧d≤9223372036854775807):
  RT.bl.V M w (a,b,c,d) (.agg [.int .i64 a,.int .i64 b,.int .i64 c,.int .i64 d].toArray):=
 ⟨_,⟨[.int .i64 a],[.int .i64 b,.int .i64 c,.int .i64 d],rfl,⟨rfl,ha⟩,[.int .i64 b],[.int .i64 c,.int .i64 d],rfl,⟨rfl,hb⟩,[.int .i64 c],[.int .i64 d],rfl,⟨rfl,hc⟩,⟨rfl,hd⟩⟩,rfl⟩
theorem WU {M:aC} {w:World} {bx:Nat} {b:List UInt8} {ks:List Bl} {rR:Int} {vb vk:Value} {e:TypeId} {fr:Nat×Nat} (hx:w.heap[bx]? =some (.cells #[vb,vk,.int .i64 rR] e fr)) (hm: ¬M bx) (hb:(RT.u8.sl).V M w b vb) (hk:((RT.bl).sl).V M w ks vk) (ht: -9223372036854775808≤rR∧rR≤9223372036854775807):
  dg RT.li M w (.pointer (some ⟨bx,0,none⟩)) (b,ks,rR):=
 ⟨bx,0,[vb,vk,.int .i64 rR],rfl,hm,⟨[vb],[vk,.int .i64 rR],rfl,mi hb rfl rfl,[vk],[.int .i64 rR],rfl,mi hk rfl rfl,⟨rfl,ht⟩⟩,fun j v hj=>fX hx (by simpa using hj)⟩
theorem Ke {l:List Po} {i:Nat} (h8:i%8=0) (hi:i<l.length):rA l ((i+7)/8)++[(((dY (-1) (l.take i)).length:Int),dv (-1) (l.take i),dv (-1) (l.take (min (i+8) l.length)),(((l.drop i).take 8).length:Int))]=rA l ((min (i+8) l.length+7)/8):=by
 rw[show(min (i+8) l.length+7)/8=(i+7)/8+1 from by omega,Ib];have e:8*((i+7)/8)=i:=by omega
 have e2:l.take (i+8)=l.take (min (i+8) l.length):=by rw[List.take_eq_take_iff];omega
 simp only[wu,e,e2]
end Go.K
namespace Go.K
section
variable {P:Program} {r:Option Nat} {n:Nat} {L:Sl} {ds:List Deferred} {w:World} {K:Kt} {ops:Array Oper} {rest:List Oper} {d:Nat} {x y:Operand} {ty:TypeId} {pos:String} {af:Array Edge}
theorem Rg.CN {t t' e:TypeId} {p:Option Addr} (ht:P.underlying t=some (.pointer e)) (hx:ev L x=some (.pointer p)) (hy:ev L y=some (.pointer none)) (hd:Nat.blt d n=true)
  (k:Rg P r n ops rest ((d,.bool (decide (p=none)))::L) ds w K):
  Rg P r n ops ({dst:=some d,op:= .binOp .eql t x y t',type:=ty,pos,after:=af,guard:=none}::rest) L ds w K:=
 .op (fun _ h=>by cases h) rfl rfl hd _ w (fun ρ h=>by
  have hpe:P.underlying t=some (.pointer (P.pointee t)):=by simp[Program.pointee,ht]
  have he:=run_equal_pointer_nil (P:=P) w t p hpe;simp only[execOp];rw[h x _ hx,h y _ hy]
  cases p<;>simp[eqGuard,binOp,run_underlying ht,he]) k
end
end Go.K
namespace Go.K
section
variable {P:Program} {r:Option Nat} {n:Nat} {L:Sl} {ds:List Deferred} {w:World}
theorem Bk {fn:Func} {Q:Value→World→Prop} {c t b:Nat} {vs:List Value} {fs:TypeDesc} {e:TypeId} {fr:Nat×Nat} {zv:Value} {size bytes:Nat} (hr:fn.results= #[.cell c t]) (hc:lk L c=some (.pointer (some ⟨b,0,none⟩))) (hu:P.underlying t=some fs) (hf:fs.isRow=true) (hi:TI P t zv size bytes) (hl:vs.length=size)
  (hb:w.heap[b]? =some (.cells vs.toArray e fr)) (h:Q (.agg vs.toArray) w):wZ P fn Q .ret L [] w:=
 ⟨rfl,fun a ha=>⟨_,by
  obtain⟨i,zy,_,Ah,_⟩:=hi.get;have SA:w.rangeAt b 0 vs:=fun j v hj=>fX hb (by simpa using hj)
  have:=run_loadVar_mid (P:=P) w b 0 t vs fs SA hu hf (by simp[zy,Ah,hl]);simp[results,hr,ha _ _ hc,asAddr,this,ch],h⟩⟩
end
end Go.K
namespace Go.K
section
variable {P:Program} {r:Option Nat} {n:Nat} {L:Sl} {ds:List Deferred} {w:World} {K:Kt} {ops:Array Oper} {rest:List Oper} {d:Nat} {ty:TypeId} {pos:String} {af:Array Edge} {x y i:Operand} {α:Type} {A:RT α}
theorem Rg.opv {o:Oper} (oE:∀c,o.op≠ .defer c) (hg:o.guard=none) (hd:o.dst=none) (v:Value) (w':World)
  (gT:∀ρ:Operand→Value,(∀x u,ev L x=some u→ρ x=u)→(execOp ρ o).run P w= .ok (.value v) w')
  (h:Rg P r n ops rest L ds w' K):Rg P r n ops (o::rest) L ds w K:=by
 refine⟨fun a ha=>wpListIn_plain hg fun K' Oh=>Ct oE ?_⟩;rw[gT a.eval (fun x u hx=>ha.eval hx),Oper.uponIn_value,hd];exact Oh _ _ (h.run _ ha)
def qp (P:Program) (t:TypeId) (name:String) (f:FuncId) (ptr:Bool):Prop:=
 (P.info? t).bind (fun i=>(i.methods.find? (fun m=>m.name==name)).map fun m=>(m.path.toList.length,m.func))=some (0,some (f,ptr))
theorem qp.get {t:TypeId} {name:String} {f:FuncId} {ptr:Bool} (h:qp P t name f ptr):∃inf m,P.info? t=some inf∧inf.methods.find? (fun m=>m.name==name)=some m∧m.path= #[]∧m.func=some (f,ptr):=by
 unfold qp at h
 cases hi:P.info? t with
 |none=>rw[hi]at h;cases h
 |some inf=>
  rw[hi]at h
  cases hm:inf.methods.find? (fun m=>m.name==name)with
  |none=>simp[hm]at h
  |some m=>
   simp[hm]at h;exact⟨inf,m,rfl,hm,h.1,h.2⟩
def Fh (P:Program) (w:World) (t:TypeId) (v:Value) (name:String) (f:FuncId) (u:Value):Prop:=∀fuel:Nat,(method (fuel+1) t v name).run P w= .ok (f,u) w
theorem qp.ptr {t e:TypeId} {name:String} {f:FuncId} (h:qp P t name f true) (ht:P.underlying t=some (.pointer e)) (v:Value):Fh P w t v name f v:=fun fuel=>by
 obtain⟨inf,m,h1,h2,h3,h4⟩:=h.get;simp[method,typeInfo,h1,h2,h3,h4,follow,receiverAt,run_underlying ht,Place.get]
theorem CO (Cv:Array TypeId) (ty:TypeId) (a:Addr) (s m:String):(Builtin.ssaWrapNilChk_ Cv ty #[.pointer (some a),strVal s,strVal m]).run P w= .ok (.pointer (some a)) w:=rfl
theorem qp.load {t e:TypeId} {u:TypeDesc} {name:String} {f:FuncId} {b:Nat} {cs:Array Value} {te:TypeId} {fr:Nat×Nat} {v:Value} (h:qp P t name f false) (ht:P.underlying t=some (.pointer e)) (hu:P.underlying e=some u) (hf:flat u=true)
  (hb:w.heap[b]? =some (.cells cs te fr)) (hv:cs[0]? =some v):Fh P w t (.pointer (some ⟨b,0,none⟩)) name f v:=fun fuel=>by
 obtain⟨inf,m,h1,h2,h3,h4⟩:=h.get
 have E0:(isAgg e).run P w= .ok false w:=by
  unfold isAgg;rw[ch,run_underlying hu w]
  cases u<;>simp_all [flat,Result.andThen]
 have hl:(loadVar e ⟨b,0,none⟩).run P w= .ok v w:=by simp[loadVar,E0,Go.load,Sem.run,fX hb hv]
 simp[method,typeInfo,h1,h2,h3,h4,follow,receiverAt,run_underlying ht,Place.get,CO,asAddr,hl]
theorem Rg.invoke {t:TypeId} {v u:Value} {name:String} {f:FuncId} {xs:List Operand} {vs:List Value} {Cv:Array TypeId} {Q:Value→World→Prop} (hx:ev L x=some (.iface t v)) (lA:NW L xs=some vs) (hd:Nat.blt d n=true) (hm:Fh P w t v name f u) (he:Enters P f)
  (hs:Spec P f (u::vs).toArray w Q) (k:∀v w',Q v w'→Rg P r n ops rest ((d,v)::L) ds w' K):
  Rg P r n ops ({dst:=some d,op:= .call {callee:= .invoke x name,args:=xs.toArray,argTypes:=Cv},type:=ty,pos,after:=af,guard:=none}::rest) L ds w K:=
 .EY (w1:=w) (fun _ h=>by cases h) rfl rfl hd (fun ρ h=>by
  have h1:=oJ h lA;have h2:=hm (P.types.size+99);rw[show P.types.size+99+1=P.types.size+Made.depth from rfl]at h2;simp only[execOp,resolve,fB,h1,h x _ hx];have h3:=he (u::vs).toArray w;simp[Go.invoke,callMethod,h2]at h3 ⊢;exact h3) hs k
def isI:TypeDesc→Bool
 |.interface _=>true
 |_=>false
theorem Rg.xu {t:TypeId} {u:TypeDesc} {v:Value} (hu:P.underlying t=some u) (hn:isI u=false) (hx:ev L x=some v) (hd:Nat.blt d n=true) (k:Rg P r n ops rest ((d,.iface t v)::L) ds w K):
  Rg P r n ops ({dst:=some d,op:= .makeInterface t x,type:=ty,pos,after:=af,guard:=none}::rest) L ds w K:=
 .op (fun _ h=>by cases h) rfl rfl hd _ w (fun ρ h=>by
  simp only[execOp,h x _ hx]
  cases u<;>simp_all [Instr.makeInterface,run_underlying hu,isI]) k
theorem Rg.G3 {t xt:TypeId} {u:TypeDesc} {v:Value} (hu:P.underlying t=some u) (hn:isI u=false) (hx:ev L x=some (.iface t v)) (hd:Nat.blt d n=true) (k:Rg P r n ops rest ((d,v)::L) ds w K):
  Rg P r n ops ({dst:=some d,op:= .typeAssert x xt t false,type:=ty,pos,after:=af,guard:=none}::rest) L ds w K:=
 .op (fun _ h=>by cases h) rfl rfl hd _ w (fun ρ h=>by
  simp only[execOp,h x _ hx]
  cases u<;>simp_all [Instr.typeAssert,run_underlying hu,isI]) k
theorem dV.set {M:aC} {x:α} {vs:List Value} (hx:A.R M w x vs):∀{xs:List α} {C:List Value},dV A M w xs C→∀{j:Nat},j<xs.length→dV A M w (xs.set j x) (C.take (j*A.n)++vs++C.drop (j*A.n+A.n))
 |[],_,_,j,hj=>by simp at hj
 |y::xs,_,⟨us,rest,h1,h2,h3⟩,0,_=>by
  subst h1;have hl:=A.len h2;refine⟨vs,rest,?_,hx,h3⟩;rw[Nat.zero_mul,List.take_zero,fQ,fR,←hl,List.drop_left]
 |y::xs,_,⟨us,rest,h1,h2,h3⟩,j+1,hj=>by
  subst h1;have hl:=A.len h2;refine⟨us,_,?_,h2,dV.set hx h3 (j:=j) (by simpa using hj)⟩;have e1:(j+1)*A.n=us.length+j*A.n:=by rw[Nat.add_mul,hl];omega
  rw[e1,List.take_length_add_append,show us.length+j*A.n+A.n=us.length+(j*A.n+A.n)from by omega,List.drop_length_add_append];simp
theorem dV.take {M:aC}:∀{xs:List α} {C:List Value},dV A M w xs C→∀m,dV A M w (xs.take m) (C.take (m*A.n))
 |xs,C,h,0=>by simp;exact(rfl:([]:List Value)=[])
 |[],C,h,m+1=>by cases h;simp;exact(rfl:([]:List Value)=[])
 |y::xs,_,⟨us,rest,h1,h2,h3⟩,m+1=>by
  subst h1;have hl:=A.len h2;refine⟨us,rest.take (m*A.n),?_,h2,dV.take h3 m⟩;rw[show(m+1)*A.n=us.length+m*A.n from by rw[Nat.add_mul,hl];omega,List.take_length_add_append]
theorem G4 {l vs:List Value} {o:Nat} (h:o+vs.length≤l.length) (t:Nat):(l.take o++vs++l.drop (o+vs.length))[t]? =if o≤t∧t<o+vs.length then vs[t-o]? else l[t]? :=by
 have h1:(l.take o).length=o:=by rw[bC];omega
 rcases cJ t o with h2|h2
 ·rw[if_neg (by omega),List.append_assoc,jN (by omega),cj,if_pos h2]
 ·rcases cJ t (o+vs.length)with h3|h3
  ·rw[if_pos ⟨h2,h3⟩,jN (by rw[bg];omega),List.getElem?_append_right (by omega),h1]
  ·rw[if_neg (by omega),List.getElem?_append_right (by rw[bg];omega),List.getElem?_drop,bg,h1];congr 1;omega
theorem Own.ve {e:TypeId} {M:aC} {base:Nat} {v:Value} {xs:List α} (h:Own A e M w base v xs) (hv:v≠ .slice none 0 0):∃g cap cur,v= .slice (some ⟨g,0,none⟩) xs.length cap∧base≤g∧M g∧w.heap[g]? =some (.cells cur e (0,0)):=by
 obtain⟨⟨C,hr,_⟩,hm⟩:=h;rcases hr.2 with⟨h1,_⟩|⟨g,cap,cur,h1,h2,h3,_⟩
 ·exact absurd h1 hv
 ·exact⟨g,cap,cur,h1,h2,hm g (by rw[h1];rfl),h3⟩
theorem Own.setCells {e:TypeId} {M:aC} {base g len cap j:Nat} {xs:List α} {x:α} {vs:List Value} (h:Own A e M w base (.slice (some ⟨g,0,none⟩) len cap) xs) (hj:j<xs.length) (hx:A.R M w x vs):
  ∃w',w'=w.setCells g (j*A.n) vs∧Own A e M w' base (.slice (some ⟨g,0,none⟩) len cap) (xs.set j x)∧Step M w M w' (fun k=>k=g):=by
 obtain⟨⟨C,hr,ha⟩,hm⟩:=h;have CP:=hm g rfl;have hl:=A.len hx;rcases hr.2 with⟨h1,_⟩|⟨g',xK,cur,h1,h2,h3,h4,h5,h6,h7⟩
 ·cases h1
 ·simp only[fW,cH,nF]at h1;obtain⟨⟨rfl,_⟩,rfl,rfl⟩:=h1;obtain⟨ES,c1,c2,c3,c4⟩:=na vs w g (j*A.n) cur e (0,0) h3;have hs:=c4 M CP;have Jw:j*A.n+A.n≤xs.length*A.n:=by have:=gw A.n (show j+1≤xs.length from hj);rw[Nat.add_mul]at this;omega
  have lF:xs.length*A.n≤cap*A.n:=gw _ h4;have Sa:C.length=xs.length*A.n:=hr.1;refine⟨_,rfl,⟨⟨C.take (j*A.n)++vs++C.drop (j*A.n+A.n),⟨?_,.inr ⟨g,cap,ES,by rw[fA],h2,c1,by rw[fA];exact h4,h5,by rw[c2];exact h6,?_⟩⟩,dV.set (A.le hs.le hx) (ha.le hs.le) hj⟩,fun b hb=>hm b hb⟩,hs⟩
  ·rw[bg,bg,bC,dw,Sa,fA];omega
  ·rw[fA];refine fe fun t=>?_
   have Kf:=G4 (l:=C) (vs:=vs) (o:=j*A.n) (by rw[hl,Sa];exact Jw) t;rw[hl]at Kf;rw[Kf,cj];have WB:∀t,t<xs.length*A.n→C[t]? =cur[t]? :=fun t ht=>by rw[←h7,cj,if_pos ht];simp
   split
   ·rename_i ht
    have e0:ES.toList[t]? =ES[t]? :=by simp
    rw[e0,c3 t,hl];by_cases h8:j*A.n≤t∧t<j*A.n+A.n
    ·rw[if_pos ⟨h8.1,h8.2,by omega⟩,if_pos h8]
    ·rw[if_neg (fun h=>h8 ⟨h.1,h.2.1⟩),if_neg h8,WB t ht]
   ·rename_i ht
    rw[if_neg (by omega),dS (by rw[Sa];omega)]
theorem Rg.sL {t e:TypeId} {κ:IntKind} {j:Int} {b o len cap bytes size:Nat} {zv:Value} (ht:P.underlying t=some (.slice e)) (hi:TI P e zv size bytes) (hx:ev L x=some (.slice (some ⟨b,o,none⟩) len cap)) (E1:ev L i=some (.int κ j)) (hd:Nat.blt d n=true) (hj:0≤j∧j<len) {q:Nat} (hq:o+j.toNat*size=q)
  (k:Rg P r n ops rest ((d,.pointer (some ⟨b,q,none⟩))::L) ds w K):
  Rg P r n ops ({dst:=some d,op:= .indexAddr t x i,type:=ty,pos,after:=af,guard:=none}::rest) L ds w K:=
 .op (fun _ h=>by cases h) rfl rfl hd _ w (fun ρ h=>by
  simp only[execOp,h x _ hx,h i _ E1];simp[Instr.indexAt,run_underlying ht,asIntOf,hj,hi.sizeOf,wW,hq]) k
theorem Own.ptr {e:TypeId} {M:aC} {base g len cap j:Nat} {xs:List α} {x:α} (h:Own A e M w base (.slice (some ⟨g,0,none⟩) len cap) xs) (hx:xs[j]? =some x):dg A (fun k=>M k∧k≠g) w (.pointer (some ⟨g,j*A.n,none⟩)) x:=by
 obtain⟨⟨C,hr,ha⟩,hm⟩:=h;rcases hr.2 with⟨h1,_⟩|⟨g',xK,cur,h1,h2,h3,h4,h5,h6,h7⟩
 ·cases h1
 ·simp only[fW,cH,nF]at h1;obtain⟨⟨rfl,_⟩,rfl,rfl⟩:=h1;obtain⟨vs,hv,hj⟩:=ha.at_ j x hx;refine⟨g,_,vs,rfl,fun h=>h.2 rfl,A.le (fun b _ hm=>⟨fun h=>hm h.1,rfl⟩) hv,fun t u hu=>?_⟩;have h8:=hj t u hu;rw[←h7,cj]at h8
  split at h8
  ·exact fX h3 (by simpa using h8)
  ·cases h8
theorem Own.cut {e:TypeId} {M:aC} {base g len cap m:Nat} {xs:List α} (h:Own A e M w base (.slice (some ⟨g,0,none⟩) len cap) xs) (hm:m≤xs.length):Own A e M w base (.slice (some ⟨g,0,none⟩) m cap) (xs.take m):=by
 obtain⟨⟨C,hr,ha⟩,hmm⟩:=h;have hl:(xs.take m).length=m:=by rw[bC];omega
 rcases hr.2 with⟨h1,_⟩|⟨g',xK,cur,h1,h2,h3,h4,h5,h6,h7⟩
 ·cases h1
 ·simp only[fW,cH,nF]at h1;obtain⟨⟨rfl,_⟩,rfl,rfl⟩:=h1;have Kg:=gw A.n hm;refine⟨⟨C.take (m*A.n),⟨by rw[bC,hr.1,hl];omega,.inr ⟨g,cap,cur,by rw[hl],h2,h3,by omega,h5,h6,?_⟩⟩,ha.take m⟩,fun b hb=>hmm b hb⟩;rw[hl,←h7,List.take_take,xD Kg]
theorem Rg.SC {t e:TypeId} {h:Operand} {κ:IntKind} {hi:Int} {g len cap bytes size:Nat} {zv:Value} (ht:P.underlying t=some (.slice e)) (EP:TI P e zv size bytes) (hx:ev L x=some (.slice (some ⟨g,0,none⟩) len cap)) (hh:ev L h=some (.int κ hi)) (hd:Nat.blt d n=true) (hb:0≤hi∧hi≤cap)
  (k:Rg P r n ops rest ((d,.slice (some ⟨g,0,none⟩) hi.toNat cap)::L) ds w K):
  Rg P r n ops ({dst:=some d,op:= .slice t x none (some h) none,type:=ty,pos,after:=af,guard:=none}::rest) L ds w K:=by
 refine .op (fun _ h=>by cases h) rfl rfl hd _ w (fun ρ hρ=>?_) k;simp only[execOp,hρ x _ hx,cV,ig,hρ h _ hh];rw[ch,run_sliceAt_slice _ _ _ _ _ _ (ja ht),run_slice_h _ _ _ _ _ (ja ht) _ _ hb.1 hb.2,oK ht,EP.sizeOf];simp[sliced,wW]
theorem Rg.Kh {t e:TypeId} {l:Operand} {κ:IntKind} {lo:Int} {g len cap bytes size:Nat} {zv:Value} (ht:P.underlying t=some (.slice e)) (EP:TI P e zv size bytes) (hx:ev L x=some (.slice (some ⟨g,0,none⟩) len cap)) (hl:ev L l=some (.int κ lo)) (hd:Nat.blt d n=true) (hb:0≤lo∧lo≤len∧lo<cap)
  (k:Rg P r n ops rest ((d,.slice (some ⟨g,lo.toNat*size,none⟩) (len-lo.toNat) (cap-lo.toNat))::L) ds w K):
  Rg P r n ops ({dst:=some d,op:= .slice t x (some l) none none,type:=ty,pos,after:=af,guard:=none}::rest) L ds w K:=by
 refine .op (fun _ h=>by cases h) rfl rfl hd _ w (fun ρ hρ=>?_) k;simp only[execOp,hρ x _ hx,cV,ig,hρ l _ hl];rw[ch,run_sliceAt_slice _ _ _ _ _ _ (ja ht),run_slice_l _ _ _ _ _ (ja ht) _ _ hb.1 hb.2.1,oK ht,EP.sizeOf];have eN: ¬cap=lo.toNat:=by omega
 simp[sliced,wW,eN]
theorem Rg.Fi {t e:TypeId} {zv:Value} {bytes:Nat} {M:aC} {base g len cap j:Nat} {xs:List α} {a:α} {v:Value} (hi:TI P t zv A.n bytes) (hg:A.agg=true) (hx:ev L x=some (.pointer (some ⟨g,j*A.n,none⟩))) (hy:ev L y=some v) (h:Own A e M w base (.slice (some ⟨g,0,none⟩) len cap) xs) (hj:j<xs.length) (hv:A.V M w a v)
  (k:∀w',Own A e M w' base (.slice (some ⟨g,0,none⟩) len cap) (xs.set j a)→Step M w M w' (fun k=>k=g)→Rg P r n ops rest L ds w' K):
  Rg P r n ops ({dst:=none,op:= .store t x y,type:=ty,pos,after:=af,guard:=none}::rest) L ds w K:=by
 obtain⟨vs,lA,rfl⟩:=hv;obtain⟨w',SD,ho,hs⟩:=h.setCells hj lA;obtain⟨⟨C,hr,ha⟩,hm⟩:=h;have hl:=A.len lA;have h1:=A.one lA;rcases hr.2 with⟨h2,_⟩|⟨g',xK,cur,h2,_,h3,h4,h5,h6,h7⟩
 ·cases h2
 ·simp only[fW,cH,nF]at h2;obtain⟨⟨rfl,_⟩,rfl,rfl⟩:=h2;have Jw:j*A.n+A.n≤xs.length*A.n:=by have:=gw A.n (show j+1≤xs.length from hj);rw[Nat.add_mul]at this;omega
  have lF:xs.length*A.n≤cap*A.n:=gw _ h4;refine .Qq (fun _ h=>by cases h) rfl rfl w' (fun ρ hρ=>?_) (k w' ho hs);subst SD;simp only[execOp,hρ x _ hx,hρ y _ hy];obtain⟨inf,zy,_,Ah,_⟩:=hi.get
  have:=run_storeAt_mid (P:=P) w g (j*A.n) t vs.toArray (fun q hq=>by
   have hq':j*A.n+q<cur.size:=by simp at hq;omega
   exact⟨by rw[fX h3 (v:=cur[j*A.n+q]) (by simp[hq'])];rfl,by simp[World.frozen?,h3]⟩) (by simp[zy,Ah,hl]) (by simpa[Array.all_eq_true_iff_forall_mem]using h1)
  simp[RT.val,hg,this]
theorem Rg.Ki {t e:TypeId} {zv:Value} {bytes:Nat} {M:aC} {base g len cap j:Nat} {κ:IntKind} {xs:List Int} {a:Int} (hi:TI P t zv 1 bytes) (hx:ev L x=some (.pointer (some ⟨g,j,none⟩))) (hy:ev L y=some (.int κ a)) (h:Own (RT.int κ) e M w base (.slice (some ⟨g,0,none⟩) len cap) xs) (hj:j<xs.length) (ha:κ.min≤a∧a≤κ.max)
  (k:∀w',Own (RT.int κ) e M w' base (.slice (some ⟨g,0,none⟩) len cap) (xs.set j a)→Step M w M w' (fun k=>k=g)→Rg P r n ops rest L ds w' K):
  Rg P r n ops ({dst:=none,op:= .store t x y,type:=ty,pos,after:=af,guard:=none}::rest) L ds w K:=by
 have hR:(RT.int κ).R M w a [.int κ a]:=⟨rfl,ha.1,ha.2⟩;obtain⟨w',SD,ho,hs⟩:=h.setCells hj hR;obtain⟨⟨C,hr,_⟩,hm⟩:=h;rcases hr.2 with⟨h2,_⟩|⟨g',xK,cur,h2,_,h3,h4,h5,h6,h7⟩
 ·cases h2
 ·simp only[fW,cH,nF]at h2;obtain⟨⟨rfl,_⟩,rfl,rfl⟩:=h2;have e1:(RT.int κ).n=1:=rfl;rw[e1]at h6 SD;refine .Qq (fun _ h=>by cases h) rfl rfl w' (fun ρ hρ=>?_) (k w' ho hs);subst SD;simp only[execOp,hρ x _ hx,hρ y _ hy];have:=nv (P:=P) hi (w:=w) (b:=g) (o:=j) (v:= .int κ a) rfl (by rw[fX h3 (v:=cur[j]'(by omega)) (by simp)];rfl) (by simp[World.frozen?,h3]);simp[this,World.setCells]
theorem Rg.WV {t e:TypeId} {zv:Value} {bytes size:Nat} (ht:P.underlying t=some (.slice e)) (hi:TI P e zv size bytes) (M:aC) (hd:Nat.blt d n=true)
  (k:∀g w',w.heap.size≤g→g<w'.heap.size→w'.heap[g]? =some (.cells #[] e (0,0))→Step M w (ins M g) w' aD→Rg P r n ops rest ((d,.slice (some ⟨g,0,none⟩) 0 0)::L) ds w' K):
  Rg P r n ops ({dst:=some d,op:= .buildSlice t 0 #[],type:=ty,pos,after:=af,guard:=none}::rest) L ds w K:=by
 refine .op (fun _ h=>by cases h) rfl rfl hd (.slice (some ⟨w.heap.size,0,none⟩) 0 0) (w.alloc (.cells #[] e)) (fun ρ hρ=>?_) (k w.heap.size _ (aR _) (by simp) (cp w _) ((cW M w _).own (aR _) (by simp)));simp only[execOp,Instr.buildSlice,ch,run_underlying ht,cB,hi.sizeOf];simp[newRow,newObj,Sem.run,Instr.fill];have h0:Array.range 0= #[]:=by apply Array.ext<;>simp
 simp[h0]
end
theorem Own.empty {α:Type} {A:RT α} {e:TypeId} {M:aC} {w:World} {base g:Nat} (h:w.heap[g]? =some (.cells #[] e (0,0))) (hb:base≤g) (hm:M g):Own A e M w base (.slice (some ⟨g,0,none⟩) 0 0) []:=
 ⟨⟨[],⟨by simp,.inr ⟨g,0,#[],rfl,hb,h,aR _,bG _,by simp,by simp⟩⟩,rfl⟩,fun b hb=>by cases hb;exact hm⟩
theorem Own.Kj {e:TypeId} {M:aC} {w:World} {base g len cap j:Nat} {κ:IntKind} {xs:List Int} {x:Int} (h:Own (RT.int κ) e M w base (.slice (some ⟨g,0,none⟩) len cap) xs) (hx:xs[j]? =some x):dg (RT.int κ) (fun k=>M k∧k≠g) w (.pointer (some ⟨g,j,none⟩)) x:=by
 have:=h.ptr hx
 rwa [show j*(RT.int κ).n=j from eG j]at this
end Go.K
namespace Go.K
section
variable {P:Program} {r:Option Nat} {n:Nat} {L:Sl} {ds:List Deferred} {w:World} {K:Kt} {ops:Array Oper} {rest:List Oper} {d:Nat} {x y i:Operand} {ty:TypeId} {pos:String} {af:Array Edge}
theorem Rg.Kl {t e:TypeId} {κ:IntKind} {j:Int} {b len cap bytes:Nat} {zv:Value} (ht:P.underlying t=some (.slice e)) (hi:TI P e zv 1 bytes) (hx:ev L x=some (.slice (some ⟨b,0,none⟩) len cap)) (E1:ev L i=some (.int κ j)) (hd:Nat.blt d n=true) (hj:0≤j∧j<len)
  (k:Rg P r n ops rest ((d,.pointer (some ⟨b,j.toNat,none⟩))::L) ds w K):
  Rg P r n ops ({dst:=some d,op:= .indexAddr t x i,type:=ty,pos,after:=af,guard:=none}::rest) L ds w K:=
 .op (fun _ h=>by cases h) rfl rfl hd _ w (fun ρ h=>by
  simp only[execOp,h x _ hx,h i _ E1];simp[Instr.indexAt,run_underlying ht,asIntOf,hj,hi.sizeOf,wW]) k
theorem Rg.mn {t e:TypeId} {κ:IntKind} {j:Int} {b len bytes:Nat} {zv:Value} (ht:P.underlying t=some (.array len e)) (hi:TI P e zv 1 bytes) (hx:ev L x=some (.pointer (some ⟨b,0,none⟩))) (E1:ev L i=some (.int κ j)) (hd:Nat.blt d n=true) (hj:0≤j∧j<len)
  (k:Rg P r n ops rest ((d,.pointer (some ⟨b,j.toNat,none⟩))::L) ds w K):
  Rg P r n ops ({dst:=some d,op:= .indexAddr t x i,type:=ty,pos,after:=af,guard:=none}::rest) L ds w K:=
 .op (fun _ h=>by cases h) rfl rfl hd _ w (fun ρ h=>by
  simp only[execOp,h x _ hx,h i _ E1];simp[Instr.indexAt,run_underlying ht,asIntOf,hj,hi.sizeOf,wW,Instr.sureAddr]) k
theorem Rg.mk0 {t e:TypeId} {len:Nat} {bytes:Nat} {zv:Value} (M:aC) (ht:P.underlying t=some (.slice e)) (hi:TI P e zv 1 bytes) (hz:zv.cells= #[zv]) (hx:ev L x=some (.int .i64 len)) (hy:ev L y=some (.int .i64 len)) (hd:Nat.blt d n=true) (hb:bytes*len≤140737488355328) (hl:len≤9223372036854775807)
  (k:∀b w',w.heap.size≤b→b<w'.heap.size→w'.heap[b]? =some (.cells (List.replicate len zv).toArray e (0,0))→Step M w (ins M b) w' aD→Rg P r n ops rest ((d,.slice (some ⟨b,0,none⟩) len len)::L) ds w' K):
  Rg P r n ops ({dst:=some d,op:= .makeSlice t x y,type:=ty,pos,after:=af,guard:=none}::rest) L ds w K:=by
 obtain⟨inf,i1,i2,i3,i4⟩:=hi.get
 have hm:madeCells zv.cells (len*1)=(List.replicate len zv).toArray:=by
  apply Array.ext
  ·simp[madeCells]
  ·intro j h1 h2;simp[madeCells,hz,Nat.mod_one]
 refine .op (fun _ h=>by cases h) rfl rfl hd (.slice (some ⟨w.heap.size,0,none⟩) len len) (w.alloc (.cells (List.replicate len zv).toArray e)) (fun ρ hρ=>?_) (k w.heap.size _ (aR _) (by simp) (cp w _) ((cW M w _).own (aR _) (by simp)))
 have hbc:(inf.bytes:Int)*(len:Int)≤281474976710656:=by
  rw[i4];have h1:((bytes*len:Nat):Int)≤281474976710656:=by omega
  rwa [Int.natCast_mul]at h1
 have hr:=run_make (P:=P) w t e inf zv ht i1 i2 .i64 .i64 (len:Int) (len:Int) (by omega) (Int.le_refl _) hbc (by omega);simp only[ay,i3,hm]at hr;simp only[execOp,hρ x _ hx,hρ y _ hy];simp[ch,hr]
theorem Rg.WW {xt:TypeId} {p:Nat} (hx:ev L x=some (.int .u64 p)) (hd:Nat.blt d n=true) (hp:p<2^64) (k:Rg P r n ops rest ((d,.int .u64 ((2^64-1-p:Nat):Int))::L) ds w K):
  Rg P r n ops ({dst:=some d,op:= .unOp .xor xt x,type:=ty,pos,after:=af,guard:=none}::rest) L ds w K:=by
 refine .op (fun _ h=>by cases h) rfl rfl hd _ w (fun ρ h=>?_) k
 have e:(2^64-1:Nat)^^^p=2^64-1-p:=by
  apply Nat.eq_of_testBit_eq;intro j;have h1:=Nat.testBit_two_pow_sub_succ (x:=p) (n:=64) hp j;rw[show 2^64-1-p=2^64-(p+1)from by omega,h1,Nat.testBit_xor,Nat.testBit_two_pow_sub_one];by_cases hj:j<64
  ·simp[hj]
  ·have:p.testBit j=false:=Nat.testBit_lt_two_pow (iu hp (nr (by decide) (by omega)));simp[hj,this]
 simp only[execOp,h x _ hx]
 have hb:(BitVec.ofInt IntKind.u64.bits IntKind.u64.max^^^BitVec.ofInt IntKind.u64.bits (p:Int)).toNat=2^64-1-p:=by
  rw[BitVec.toNat_xor,qe,qe];have h1:(IntKind.u64.max%((2^IntKind.u64.bits:Nat):Int)).toNat=2^64-1:=by decide
  have h2:((p:Int)%((2^IntKind.u64.bits:Nat):Int)).toNat=p:=by
   change((p:Int)%((18446744073709551616:Nat):Int)).toNat=p;omega
  rw[h1,h2,e]
 have hw:IntKind.u64.wrap ((2^64-1-p:Nat):Int)=((2^64-1-p:Nat):Int):=gx _ (by omega)
 have hu:(Op.unary .xor (.int .u64 (p:Int))).run P w= .ok (.int .u64 ((2^64-1-p:Nat):Int)) w:=by
  change(Op.intBits .xor .u64 IntKind.u64.max (p:Int)).run P w=_;unfold Op.intBits;simp only[];rw[hb,hw];simp
 simp[hu]
theorem Rg.abZ {xt:TypeId} {κ:IntKind} {p:Int} (hx:ev L x=some (.int κ p)) (hd:Nat.blt d n=true) (k:Rg P r n ops rest ((d,.int κ (κ.wrap (0-p)))::L) ds w K):
  Rg P r n ops ({dst:=some d,op:= .unOp .neg xt x,type:=ty,pos,after:=af,guard:=none}::rest) L ds w K:=by
 refine .op (fun _ h=>by cases h) rfl rfl hd _ w (fun ρ h=>?_) k;simp only[execOp,h x _ hx];simp[Op.unary,Op.intArith]
theorem Km (p q:Nat) (hp:p<2^64) (hq:q<2^64):IntKind.u64.wrap (BitVec.ofInt IntKind.u64.bits (p:Int)&&&BitVec.ofInt IntKind.u64.bits (q:Int)).toNat=((p&&&q:Nat):Int):=by
 have h:∀z:Nat,z<2^64→((z:Int)%((2^IntKind.u64.bits:Nat):Int)).toNat=z:=fun z hz=>by
  change((z:Int)%((18446744073709551616:Nat):Int)).toNat=z;omega
 rw[BitVec.toNat_and,qe,qe,h p hp,h q hq];exact gx _ (by have:=Nat.and_le_left (n:=p) (m:=q);omega)
end
def bit (ws:List Nat) (i:Nat):Bool:=(ws.getD (i/64) 0).testBit (i%64)
def Words (ws:List Nat):Prop:=∀x∈ws,x<2^64
theorem Words.get {ws:List Nat} (h:Words ws) (k:Nat):ws.getD k 0<2^64:=by
 rw[az]
 cases hx:ws[k]? with
 |none=>simp
 |some x=>exact h x (aA hx)
theorem Kn (ws:List Nat) (k j x:Nat) (hk:k<ws.length):(ws.set k x).getD j 0=if j=k then x else ws.getD j 0:=by
 rw[az,az,du];by_cases h:k=j
 ·subst h;simp[hk]
 ·rw[if_neg h,if_neg (fun e=>h e.symm)]
theorem Words.set {ws:List Nat} (h:Words ws) {k x:Nat} (hx:x<2^64):Words (ws.set k x):=fun y hy=>by
 rcases List.mem_or_eq_of_mem_set hy with h1|h1
 ·exact h y h1
 ·rw[h1];exact hx
theorem CQ (x i t:Nat):(x/2^i).testBit t=x.testBit (t+i):=Nat.testBit_div_two_pow x t
theorem Ko:∀x:Nat,0<x→∃k m,x=2^k*(2*m+1):=by
 intro x
 induction x using Nat.strongRecOn with
 |_ x ih=>
  intro h;by_cases h2:x%2=1
  ·exact⟨0,x/2,by omega⟩
  ·obtain⟨k,m,e⟩:=ih (x/2) (by omega) (by omega);refine⟨k+1,m,?_⟩;rw[Nat.pow_succ,Nat.mul_right_comm,←e];omega
theorem Kp (m:Nat):(2*m+1).testBit 0=true:=by rw[Nat.testBit_zero];exact decide_eq_true (by omega)
theorem OE (m:Nat):(2*m).testBit 0=false:=by rw[Nat.testBit_zero];exact decide_eq_false (by omega)
theorem Bm {k m:Nat}:(2^k*(2*m+1)).testBit k=true∧∀t,t<k→(2^k*(2*m+1)).testBit t=false:=by
 have h:=fun j=>Nat.testBit_two_pow_mul_add (2*m+1) (b:=0) (i:=k) (Nat.two_pow_pos k) j
 simp only[Nat.add_zero]at h;constructor
 ·rw[h k,if_neg (by omega),Nat.sub_self,Kp]
 ·intro t ht;rw[h t,if_pos ht,Nat.zero_testBit]
theorem OF {k m:Nat} (hx:2^k*(2*m+1)<2^64):(2^k*(2*m+1))&&&(2^64-2^k*(2*m+1))=2^k:=by
 have hp:=Nat.two_pow_pos k;have tz:0<2^k*(2*m+1):=Nat.mul_pos hp (by omega)
 have e1:2^64-2^k*(2*m+1)=2^64-((2^k*(2*m)+(2^k-1))+1):=by
  have:2^k*(2*m+1)=2^k*(2*m)+2^k:=by rw[Nat.mul_add,eG]
  omega
 apply Nat.eq_of_testBit_eq;intro j
 have e2:2^k*(2*m)+(2^k-1)<2^64:=by
  have:2^k*(2*m+1)=2^k*(2*m)+2^k:=by rw[Nat.mul_add,eG]
  omega
 rw[Nat.testBit_and,e1,Nat.testBit_two_pow_sub_succ e2,Nat.testBit_two_pow_mul_add _ (by omega),Nat.testBit_two_pow_sub_one,Nat.testBit_two_pow];have h:=Nat.testBit_two_pow_mul_add (2*m+1) (b:=0) (i:=k) hp j;simp only[Nat.add_zero]at h;rw[h];rcases eE j k with h1|h1|h1
 ·rw[if_pos h1,Nat.zero_testBit,kK,decide_eq_false (by omega)]
 ·subst h1
  have hj:j<64:=by
   rcases cJ j 64 with h2|h2
   ·exact h2
   ·have:=nr (n:=2) (by decide) h2;have:2^j*1≤2^j*(2*m+1):=Nat.mul_le_mul_left _ (by omega);omega
  rw[if_neg (jv _),if_neg (jv _),Nat.sub_self,Kp,OE,decide_eq_true hj,decide_eq_true rfl];rfl
 ·rw[if_neg (by omega),if_neg (by omega),decide_eq_false (show¬k=j by omega)];obtain⟨t,rfl⟩:∃t,j=k+(t+1):=⟨j-k-1,by omega⟩;rw[show k+(t+1)-k=t+1 from by omega,Nat.testBit_succ,Nat.testBit_succ,show(2*m+1)/2=m from by omega,show 2*m/2=m from by omega]
  cases m.testBit t<;>simp
def Fj:List Nat:=[0,1,56,2,57,49,28,3,61,58,42,50,38,29,17,4,62,47,59,36,45,43,51,22,53,39,33,30,24,18,12,5,63,55,48,27,60,41,37,16,46,35,44,21,52,32,23,11,54,26,40,15,34,20,31,10,25,14,19,9,13,8,7,6]
theorem SE:∀k,k<64→(2^k*285870213051353865)%2^64/2^58<64∧Fj[(2^k*285870213051353865)%2^64/2^58]? =some k:=by decide+kernel
theorem Bn (n:Nat):IntKind.u64.wrap (n:Int)=((n%2^64:Nat):Int):=by
 have:IntKind.u64.wrap (n:Int)=(n:Int)%18446744073709551616:=by simp[IntKind.wrap,IntKind.bits,IntKind.signed]
 rw[this];omega
theorem WX (x t:Nat) (ht:t<64):((x:Int)).fdiv (2^min ((t:Int)).toNat IntKind.u64.bits)=((x/2^t:Nat):Int):=by
 rw[ay,show min t IntKind.u64.bits=t from xD (show t≤64 by omega),show(2:Int)^t=((2^t:Nat):Int)from by simp,Int.fdiv_eq_ediv_of_nonneg _ (Int.natCast_nonneg _)];rfl
theorem ab0 (t:Nat) (ht:t<64):IntKind.u64.wrap (1*2^min ((t:Int)).toNat IntKind.u64.bits)=((2^t:Nat):Int):=by
 have h:(2:Nat)^t<2^64:=Nat.pow_lt_pow_right (by decide) ht;rw[ay,show min t IntKind.u64.bits=t from xD (show t≤64 by omega),Int.one_mul,show(2:Int)^t=((2^t:Nat):Int)from by simp,Bn,nK h]
def qq (ws:List Nat):Array Value:=(ws.map fun(x:Nat)=>Value.int .u64 (x:Int)).toArray
theorem mq {ws:List Nat} {k:Nat} (hk:k<ws.length):(qq ws)[k]? =some (.int .u64 (ws.getD k 0:Nat)):=by
 simp[qq,az,au hk]
theorem x5 (ws:List Nat) (k x:Nat):(qq ws).setIfInBounds k (.int .u64 (x:Int))=qq (ws.set k x):=by
 simp[qq,List.map_set]
structure jI (Ts Tw:TypeId) (n:Nat) (ws:List Nat) (M:aC) (w:World) (bs bw:Nat):Prop where
 ms:M bs
 mw:M bw
 ne:bs≠bw
 s:w.heap[bs]? =some (.cells #[.int .i64 n,.slice (some ⟨bw,0,none⟩) ws.length ws.length] Ts (0,0))
 w:w.heap[bw]? =some (.cells (qq ws) Tw (0,0))
 len:ws.length=(n+63)/64
 ok:Words ws
 nn:n≤1099511627776
theorem jI.step {Ts Tw:TypeId} {n:Nat} {ws:List Nat} {M M' N:aC} {w w':World} {bs bw:Nat} (h:jI Ts Tw n ws M w bs bw) (s:Step M w M' w' N) (h1: ¬N bs) (h2: ¬N bw):jI Ts Tw n ws M' w' bs bw:=
 ⟨(s.mem bs (ak h.s)).2 h.ms,(s.mem bw (ak h.w)).2 h.mw,h.ne,s.keep h.s h1,s.keep h.w h2,h.len,h.ok,h.nn⟩
theorem jI.put {Ts Tw:TypeId} {n:Nat} {ws Jy:List Nat} {M:aC} {w w':World} {bs bw:Nat} (h:jI Ts Tw n ws M w bs bw) (s:Step M w M w' (fun b=>b=bw)) (hl:Jy.length=ws.length) (hw:w'.heap[bw]? =some (.cells (qq Jy) Tw (0,0))) (ok:Words Jy):jI Ts Tw n Jy M w' bs bw:=
 ⟨h.ms,h.mw,h.ne,by rw[hl];exact s.keep h.s h.ne,hw,by rw[hl];exact h.len,ok,h.nn⟩
section
variable {P:Program} {r:Option Nat} {n:Nat} {L:Sl} {ds:List Deferred} {w:World} {K:Kt} {ops:Array Oper} {rest:List Oper} {d:Nat} {x:Operand} {ty:TypeId} {pos:String} {af:Array Edge}
end
theorem Bo (ws:List Nat) {k x:Nat} (hk:k<ws.length) (j:Nat):bit (ws.set k x) j=if j/64=k then x.testBit (j%64)else bit ws j:=by
 unfold bit;rw[Kn _ _ _ _ hk]
 split<;>rfl
theorem Kq {x t:Nat} (hx:x<2^64) (ht:t<64):(2^64-1-x).testBit t= !x.testBit t:=by
 rw[show 2^64-1-x=2^64-(x+1)from by omega,Nat.testBit_two_pow_sub_succ hx,decide_eq_true ht,eT]
theorem OG {ws:List Nat} {j:Nat} (h:ws.length≤j/64):bit ws j=false:=by
 unfold bit;rw[az,dS h];simp
theorem x7 (k j:Nat):bit (List.replicate k 0) j=false:=by
 unfold bit;rw[az,iT]
 split<;>simp
def QF (ws:List Nat) (p:Nat) (r:Int):Prop:=(∃j:Nat,r=j∧p≤j∧bit ws j=true∧∀t,p≤t→t<j→bit ws t=false)∨(r= -1∧∀t,p≤t→bit ws t=false)
theorem x8 {ws:List Nat} {i t:Nat} (h:i%64+t<64):bit ws (i+t)=(ws.getD (i/64) 0/2^(i%64)).testBit t:=by
 unfold bit;rw[CQ,show(i+t)/64=i/64 from by omega,show(i+t)%64=t+i%64 from by omega]
theorem CR {x i:Nat} (hx:x<2^64) (hi:i<64) {k m:Nat} (h:x/2^i=2^k*(2*m+1)):i+k<64:=by
 rcases cJ (i+k) 64 with h1|h1
 ·exact h1
 ·exfalso;have h2:(x/2^i).testBit k=true:=by rw[h];exact Bm.1
  rw[CQ]at h2;have:=Nat.testBit_lt_two_pow (iu hx (nr (n:=2) (by decide) (show 64≤k+i by omega)));rw[this]at h2;cases h2
end Go.K
namespace Go.K
abbrev Fo:=Int×Int
abbrev Tw:=Int×Int×Int
abbrev RT.fo:RT Fo:=RT.pair (RT.int .i64) (RT.int .i64)
def RT.CS:RT Nat where
 n:=1
 agg:=false
 R:=fun _ _ b vs=>vs=[.pointer (some ⟨b,0,none⟩)]
 len:=by rintro _ _ x vs rfl;rfl
 one:=by rintro _ _ x vs rfl v hv;simp at hv;subst hv;rfl
 le:=fun _ h=>h
theorem tM {M:aC} {w:World} {b:Nat} {v:Value}:RT.CS.V M w b v↔v= .pointer (some ⟨b,0,none⟩):=⟨fun⟨_,h1,h2⟩=>by cases h1;exact h2,fun h=>⟨_,rfl,h⟩⟩
def hit (l:List Fo) (x:Int):Bool:=match l with| []=>false|p::_=>decide (p.1=x)
theorem ab1 {M:aC} {w:World} {a b:Int} (ha: -9223372036854775808≤a∧a≤9223372036854775807) (hb: -9223372036854775808≤b∧b≤9223372036854775807):RT.fo.V M w (a,b) (.agg [.int .i64 a,.int .i64 b].toArray):=
 eV (gm ha) (gm hb) rfl rfl rfl rfl
end Go.K
namespace Go.K
section
variable {P:Program} {r:Option Nat} {n:Nat} {L:Sl} {ds:List Deferred} {w:World} {K:Kt} {ops:Array Oper} {rest:List Oper} {d:Nat} {x y:Operand} {ty:TypeId} {pos:String} {af:Array Edge}
theorem lP {t:TypeId} {k:IntKind} (ht:P.underlying t=some (.int k)) {cs:Array Value} {off:Nat} {v:Value} (hv:cs[off]? =some v):(part t cs off).run P w= .ok v w:=by
 have E0:(isAgg t).run P w= .ok false w:=by
  unfold isAgg;rw[ch,run_underlying ht w];simp
 unfold part;rw[ch,E0];simp[hv]
end
end Go.K
namespace Go.K
section
variable {P:Program} {r:Option Nat} {n:Nat} {L:Sl} {ds:List Deferred} {w:World} {K:Kt} {ops:Array Oper} {rest:List Oper} {d:Nat} {ty:TypeId} {pos:String} {af:Array Edge} {x y i:Operand}
theorem zJ {t e:TypeId} {inf:TypeInfo} (ht:P.underlying t=some (.array 2 e)) (he:P.underlying e=some (.int .i64)) (hi:P.info? e=some inf) (hc:P.cellsOf e=1) (a b c f:Int):
  (Op.equal t (.agg #[.int .i64 a,.int .i64 b]) (.agg #[.int .i64 c,.int .i64 f])).run P w= .ok (decide ((a,b)=(c,f))) w:=by
 have hI:∀(k:Nat) (p q:Int),(Op.equalIn (k+1) e (.int .i64 p) (.int .i64 q)).run P w= .ok (p==q) w:=fun k p q=>by simp[Op.equalIn,run_underlying he]
 change(Op.equalIn (9999+1) t _ _).run P w=_;rw[run_equalIn_array w 9999 _ _ ht hi,hc,show List.range 2=[0,1]from rfl];simp only[Op.eqItems,ch];rw[lP he (v:= .int .i64 a) rfl];simp only[cB];rw[lP he (v:= .int .i64 c) rfl];simp only[cB];rw[hI 9998];simp only[cB];by_cases h1:a=c
 ·subst h1;simp only[beq_self_eq_true,Bool.not_true,Bool.false_eq_true,if_false,ch];rw[lP he (v:= .int .i64 b) rfl];simp only[cB];rw[lP he (v:= .int .i64 f) rfl];simp only[cB];rw[hI 9998];simp only[cB];by_cases h2:b=f
  ·subst h2;simp
  ·simp[h2]
 ·simp[h1]
theorem Rg.WY {t t' e:TypeId} {inf:TypeInfo} {a b c f:Int} (ht:P.underlying t=some (.array 2 e)) (he:P.underlying e=some (.int .i64)) (hi:P.info? e=some inf) (hc:P.cellsOf e=1) (hq:P.eqGuardType P.depth t=false)
  (hx:ev L x=some (.agg #[.int .i64 a,.int .i64 b])) (hy:ev L y=some (.agg #[.int .i64 c,.int .i64 f])) (hd:Nat.blt d n=true)
  (k:Rg P r n ops rest ((d,.bool (decide ((a,b)=(c,f))))::L) ds w K):
  Rg P r n ops ({dst:=some d,op:= .binOp .eql t x y t',type:=ty,pos,after:=af,guard:=none}::rest) L ds w K:=
 .op (fun _ h=>by cases h) rfl rfl hd _ w (fun ρ h=>by
  have he:=zJ (P:=P) (w:=w) ht he hi hc a b c f;simp only[execOp];rw[h x _ hx,h y _ hy];rw[ch,ch,run_eqGuard_agg (P:=P) w .eql t x y _ _ hq];simp[binOp,he]) k
theorem Rg.Fk {t t' e:TypeId} {zv:Value} {size bytes:Nat} {a b c f:Int} (ht:P.underlying t=some (.array 2 e)) (he:P.underlying e=some (.int .i64)) (hi:TI P e zv size bytes) (hc:P.cellsOf e=1) (hq:P.eqGuardType P.depth t=false)
  (hx:ev L x=some (.agg #[.int .i64 a,.int .i64 b])) (hy:ev L y=some (.agg #[.int .i64 c,.int .i64 f])) (hd:Nat.blt d n=true)
  (k:Rg P r n ops rest ((d,.bool (decide ((a,b)=(c,f))))::L) ds w K):
  Rg P r n ops ({dst:=some d,op:= .binOp .eql t x y t',type:=ty,pos,after:=af,guard:=none}::rest) L ds w K:=by
 obtain⟨inf,h1,_⟩:=hi.get;exact .WY ht he h1 hc hq hx hy hd k
theorem Rg.OH {t e:TypeId} {zv:Value} {bytes:Nat} {a b:Int} (ht:P.underlying t=some (.array 2 e)) (hi:TI P t (.agg #[.int .i64 0,.int .i64 0]) 2 16) (he:TI P e zv 1 bytes) (hx:ev L x=some (.int .i64 a)) (hy:ev L y=some (.int .i64 b)) (hd:Nat.blt d n=true)
  (k:Rg P r n ops rest ((d,.agg #[.int .i64 a,.int .i64 b])::L) ds w K):
  Rg P r n ops ({dst:=some d,op:= .build t #[(0,x),(1,y)],type:=ty,pos,after:=af,guard:=none}::rest) L ds w K:=by
 obtain⟨inf,h1,h2,h3,h4⟩:=hi.get;refine .op (fun _ h=>by cases h) rfl rfl hd _ w (fun ρ h=>?_) k;simp only[execOp,fB,eS,j5,h x _ hx,h y _ hy];simp[Instr.build,zeroValue,typeInfo,h1,h2,run_underlying ht,he.sizeOf,Instr.fill,Value.cells]
theorem dV.ints {M:aC} {κ:IntKind}:∀{xs:List Int} {C:List Value},dV (RT.int κ) M w xs C→C=xs.map (Value.int κ)
 |[],_,h=>by cases h;rfl
 |x::xs,_,⟨us,rest,h1,h2,h3⟩=>by
  subst h1;rw[h2.1,dV.ints h3];rfl
theorem dV.Bp {M:aC} {κ:IntKind}:∀{xs:List Int},(∀x∈xs,κ.min≤x∧x≤κ.max)→dV (RT.int κ) M w xs (xs.map (Value.int κ))
 |[],_=>rfl
 |x::xs,h=>⟨[.int κ x],_,rfl,⟨rfl,h x (bH ..)⟩,dV.Bp fun y hy=>h y (b9 _ hy)⟩
theorem dV.rng {M:aC} {κ:IntKind}:∀{xs:List Int} {C:List Value},dV (RT.int κ) M w xs C→∀x∈xs,κ.min≤x∧x≤κ.max
 |[],_,_,x,hx=>by cases hx
 |y::xs,_,⟨us,rest,h1,h2,h3⟩,x,hx=>by
  rcases bX.1 hx with rfl|hx
  ·exact h2.2
  ·exact dV.rng h3 x hx
theorem Own.over {e:TypeId} {M:aC} {base g len cap o:Nat} {κ:IntKind} {xs ys:List Int} (h:Own (RT.int κ) e M w base (.slice (some ⟨g,0,none⟩) len cap) xs) (ho:o+ys.length≤xs.length) (hy:∀y∈ys,κ.min≤y∧y≤κ.max):
  Own (RT.int κ) e M (w.setCells g o (ys.map (Value.int κ))) base (.slice (some ⟨g,0,none⟩) len cap) (xs.take o++ys++xs.drop (o+ys.length))∧Step M w M (w.setCells g o (ys.map (Value.int κ))) (fun k=>k=g)∧(∀j,j<ys.length→(w.cell? ⟨g,o+j,none⟩).isSome=true)∧(∀j,j<ys.length→w.frozen? ⟨g,o+j,none⟩=false):=by
 obtain⟨⟨C,hr,ha⟩,hm⟩:=h;have CP:=hm g rfl;rcases hr.2 with⟨h1,_⟩|⟨g',xK,cur,h1,h2,h3,h4,h5,h6,h7⟩
 ·cases h1
 ·simp only[fW,cH,nF]at h1;obtain⟨⟨rfl,_⟩,rfl,rfl⟩:=h1;have e1:(RT.int κ).n=1:=rfl;rw[e1,eG]at h6 h7;have hCx:=ha.ints;have Ow:=ha.rng;obtain⟨ES,c1,c2,c3,c4⟩:=na (ys.map (Value.int κ)) w g o cur e (0,0) h3;have hs:=c4 M CP;have hlen:(xs.take o++ys++xs.drop (o+ys.length)).length=xs.length:=by rw[bg,bg,bC,dw];omega
  refine⟨⟨⟨(xs.take o++ys++xs.drop (o+ys.length)).map (Value.int κ),⟨by rw[aI,e1,eG],.inr ⟨g,cap,ES,by rw[hlen],h2,c1,by rw[hlen];exact h4,h5,by rw[c2,e1,eG];exact h6,?_⟩⟩,dV.Bp fun z hz=>?_⟩,fun b hb=>hm b hb⟩,hs,fun j hj=>?_,fun j hj=>by simp[World.frozen?,h3]⟩
  ·rw[e1,eG,hlen];refine fe fun t=>?_
   rw[cj];have Kf:=G4 (l:=xs.map (Value.int κ)) (vs:=ys.map (Value.int κ)) (o:=o) (by rw[aI,aI];exact ho) t;rw[aI,←List.map_take,←List.map_drop,←eA,←eA]at Kf;rw[Kf];have WB:∀t,t<xs.length→(xs.map (Value.int κ))[t]? =cur[t]? :=fun t ht=>by rw[←hCx,←h7,cj,if_pos ht];simp
   split
   ·rename_i ht
    have e0:ES.toList[t]? =ES[t]? :=by simp
    rw[e0,c3 t,aI];by_cases h8:o≤t∧t<o+ys.length
    ·rw[if_pos ⟨h8.1,h8.2,by omega⟩,if_pos h8]
    ·rw[if_neg (fun h=>h8 ⟨h.1,h.2.1⟩),if_neg h8,WB t ht]
   ·rename_i ht
    rw[if_neg (by omega),dS (by rw[aI];omega)]
  ·rcases ck.1 hz with hz|hz
   ·rcases ck.1 hz with hz|hz
    ·exact Ow z (List.mem_of_mem_take hz)
    ·exact hy z hz
   ·exact Ow z (List.mem_of_mem_drop hz)
  ·rw[fX h3 (v:=cur[o+j]'(by omega)) (by simp)];rfl
theorem Own.cell {e:TypeId} {M:aC} {base g len cap j:Nat} {κ:IntKind} {xs:List Int} {a:Int} (h:Own (RT.int κ) e M w base (.slice (some ⟨g,0,none⟩) len cap) xs) (hx:xs[j]? =some a):w.cell? ⟨g,j,none⟩=some (.int κ a):=by
 obtain⟨b,o,vs,h1,h2,h3,h4⟩:=h.ptr hx;simp only[Value.pointer.injEq,cH,nF]at h1;obtain⟨rfl,rfl,_⟩:=h1;have:=h4 0 (.int κ a) (by rw[h3.1];rfl);simpa[RT.int]using this
theorem Rg.QG {tt st e:TypeId} {zv:Value} {bytes:Nat} {M:aC} {base g len cap o dl dc sl sc:Nat} {κ:IntKind} {xs ys:List Int} {sa:Addr} (ht:P.underlying tt=some (.slice e)) (hi:TI P e zv 1 bytes) (hd:Nat.blt d n=true)
  (hx:ev L x=some (.slice (some ⟨g,o,none⟩) dl dc)) (hy:ev L y=some (.slice (some sa) sl sc)) (h:Own (RT.int κ) e M w base (.slice (some ⟨g,0,none⟩) len cap) xs) (hn:ys.length=min sl dl) (ho:o+ys.length≤xs.length)
  (ab2:∀j a,ys[j]? =some a→w.cell? (sa.add j)=some (.int κ a)) (Ow:∀a∈ys,κ.min≤a∧a≤κ.max)
  (k:∀w',Own (RT.int κ) e M w' base (.slice (some ⟨g,0,none⟩) len cap) (xs.take o++ys++xs.drop (o+ys.length))→Step M w M w' (fun k=>k=g)→Rg P r n ops rest ((d,.int .i64 (ys.length:Int))::L) ds w' K):
  Rg P r n ops ({dst:=some d,op:= .call {callee:= .builtin .copy,args:= #[x,y],argTypes:= #[tt,st]},type:=ty,pos,after:=af,guard:=none}::rest) L ds w K:=by
 obtain⟨h1,h2,h3,h4⟩:=h.over ho Ow;obtain⟨inf,i1,_,i2,_⟩:=hi.get
 have gT:=run_copy_cells (P:=P) w tt st ty e g o dl dc sa sl sc (ys.map (Value.int κ)) ht (by simp[i1,i2]) (by rw[aI];exact hn)
  (fun j v hv=>by
   rw[bB]at hv
   cases hj:ys[j]? with
   |none=>rw[hj]at hv;cases hv
   |some a=>rw[hj]at hv;cases hv;exact ab2 j a hj) (by rw[aI];exact h3) (by rw[aI];exact h4) (fun v hv=>by obtain⟨a,_,rfl⟩:=ca.1 hv;rfl)
 rw[aI]at gT;refine .op (fun _ h=>by cases h) rfl rfl hd _ _ (fun ρ hρ=>?_) (k _ h1 h2);simp only[execOp,resolve,fB,eS,j5,hρ x _ hx,hρ y _ hy];simp[Go.invoke,builtin,gT,goInt]
theorem Rg.SF {tt e:TypeId} {bytes:Nat} {M:aC} {base g len cap o dl dc:Nat} {κ:IntKind} {xs:List Int} (ht:P.underlying tt=some (.slice e)) (hi:TI P e (.int κ 0) 1 bytes) (hx:ev L x=some (.slice (some ⟨g,o,none⟩) dl dc)) (h:Own (RT.int κ) e M w base (.slice (some ⟨g,0,none⟩) len cap) xs) (hdl:0<dl) (ho:o+dl≤xs.length) (hz:κ.min≤0∧0≤κ.max)
  (k:∀w',Own (RT.int κ) e M w' base (.slice (some ⟨g,0,none⟩) len cap) (xs.take o++List.replicate dl 0++xs.drop (o+dl))→Step M w M w' (fun k=>k=g)→Rg P r n ops rest L ds w' K):
  Rg P r n ops ({dst:=none,op:= .call {callee:= .builtin .clear,args:= #[x],argTypes:= #[tt]},type:=ty,pos,after:=af,guard:=none}::rest) L ds w K:=by
 obtain⟨h1,h2,h3,h4⟩:=h.over (ys:=List.replicate dl 0) (o:=o) (by rw[bM];exact ho) (fun a ha=>by rw[pR ha];exact hz);rw[bM]at h1 h3 h4;obtain⟨inf,i1,i2,i3,_⟩:=hi.get;have gT:=Go.Lib.run_clear_slice (P:=P) w tt e ty (.int κ 0) ht (fun w=>by simp[zeroValue,typeInfo,i1,i2]) rfl rfl g o dl dc hdl h3 h4;rw[List.map_replicate]at h1 h2;refine .opv (fun _ h=>by cases h) rfl rfl (.tuple #[]) _ (fun ρ hρ=>?_) (k _ h1 h2);simp only[execOp,resolve,fB,eS,j5,hρ x _ hx];simp[Go.invoke,builtin,gT]
end
end Go.K
namespace Go.K
open Go.RowKit (Below)
open Go.Maps (Keyed)
open Go.ChangeMaps (putKey delKey notKey)
abbrev DU:=DataW Unit
structure SG (P:Program) (k:TypeId) (R:Value→Option (DU×List MemPlace)) (M:aC) (w:World) (b:Nat) (m:List (Lit×DU)):Prop where
 mut_:M b
 own:w.ownsMap P k R b m.length (.map m)
section
variable {P:Program} {r:Option Nat} {n:Nat} {L:Sl} {ds:List Deferred} {w:World} {K:Kt} {ops:Array Oper} {rest:List Oper} {d:Nat} {x y z:Operand} {ty:TypeId} {pos:String} {af:Array Edge}
variable {kt:TypeId} {R:Value→Option (DU×List MemPlace)} {M:aC} {b:Nat} {m:List (Lit×DU)}
theorem Step.x9 {w w':World} (h:Below w.heap.size w w') (M:aC):Step M w M w' aD:=
 ⟨fun h0 b hb=>iu (h0 b hb) h.size,h.os,h.tape,h.output,h.size,fun _ _=>Iff.rfl,fun b hb _=>h.block b hb,fun _ h=>h.elim⟩
end
end Go.K
namespace Go.K
def allM:aC:=fun _=>True
theorem Step.all {M M' N:aC} {w w':World} (s:Step M w M' w' N):Step allM w allM w' N:=⟨fun h=>absurd (h w.heap.size trivial) (jv _),s.os,s.tape,s.output,s.size,fun _ _=>Iff.rfl,s.same,fun _ _=>trivial⟩
theorem Step.toAny {M M':aC} {w w':World} (s:Step M w M' w' aD) (M1:aC):Step M1 w M1 w' aD:=s.any M1
theorem dV.int {κ:IntKind} {M M':aC} {w w':World}:∀{xs:List Int} {C:List Value},dV (RT.int κ) M w xs C→dV (RT.int κ) M' w' xs C
 |[],_,h=>h
 |x::xs,C,h=>by
  obtain⟨vs,r,h1,h2,h3⟩:=h;exact⟨vs,r,h1,h2,dV.int h3⟩
theorem Own.OI {κ:IntKind} {e:TypeId} {M:aC} {w:World} {base:Nat} {v:Value} {xs:List Int} (h:Own (RT.int κ) e M w base v xs) {M':aC} (hm:∀b,v.ownBlock=some b→M' b):Own (RT.int κ) e M' w base v xs:=by
 obtain⟨⟨C,h1,h2⟩,_⟩:=h;exact⟨⟨C,h1,dV.int h2⟩,hm⟩
theorem Own.WZ {κ:IntKind} {e:TypeId} {N:aC} {w w':World} {base:Nat} {v:Value} {xs:List Int} (h:Own (RT.int κ) e allM w base v xs) (s:Step allM w allM w' N) (hn:∀b,v.ownBlock=some b→¬N b):Own (RT.int κ) e allM w' base v xs:=by
 obtain⟨⟨C,h1,h2⟩,_⟩:=h;refine⟨⟨C,⟨h1.1,?_⟩,dV.int h2⟩,fun _ _=>trivial⟩;rcases h1.2 with h3|⟨g,cap,cur,h3,h4,h5,h6,h7,h8⟩
 ·exact .inl h3
 ·exact .inr ⟨g,cap,cur,h3,h4,by rw[s.same g (ak h5) (hn g (by rw[h3];rfl))];exact h5,h6,h7,h8⟩
def mU (v:Value):aC:=fun b=>v.ownBlock=some b
theorem Own.lone {κ:IntKind} {e:TypeId} {M:aC} {w:World} {base:Nat} {v:Value} {xs:List Int} (h:Own (RT.int κ) e M w base v xs):Own (RT.int κ) e (mU v) w base v xs:=h.OI fun _ h=>h
end Go.K
namespace Go.K
def Fl (at':Nat→Nat) (cont:Nat→Bool):Nat×Nat:=
 if at' 0<0x80 then(at' 0,1)
 else if at' 0/32==6&&cont 1 then
  if(at' 0%32)*64+at' 1%64≥0x80 then((at' 0%32)*64+at' 1%64,2)else(65533,1)
 else if at' 0/16==14&&cont 1&&cont 2 then
  if(at' 0%16)*4096+(at' 1%64)*64+at' 2%64≥0x800&&Utf8.valid ((at' 0%16)*4096+(at' 1%64)*64+at' 2%64:Nat)then((at' 0%16)*4096+(at' 1%64)*64+at' 2%64,3)else(65533,1)
 else if at' 0/8==30&&cont 1&&cont 2&&cont 3 then
  if(at' 0%8)*262144+(at' 1%64)*4096+(at' 2%64)*64+at' 3%64≥0x10000&&Utf8.valid ((at' 0%8)*262144+(at' 1%64)*4096+(at' 2%64)*64+at' 3%64:Nat)then((at' 0%8)*262144+(at' 1%64)*4096+(at' 2%64)*64+at' 3%64,4)else(65533,1)
 else(65533,1)
theorem Ic (s:ByteArray) (i:Nat):Utf8.decode s i=Fl (fun k=>(s.get! (i+k)).toNat) (fun k=>decide (i+k<s.size)&&(s.get! (i+k)).toNat/64==2):=rfl
def kb (l:List UInt8) (k:Nat):Nat:=(l.getD k 0).toNat
def ko (l:List UInt8) (k:Nat):Bool:=decide (k<l.length)&&kb l k/64==2
def dec (l:List UInt8):Nat×Nat:=Fl (kb l) (ko l)
theorem Ie (l:List UInt8) (j:Nat):(⟨l.toArray⟩:ByteArray).get! j=l.getD j 0:=by
 show l.toArray[j]! =_;rw[az,getElem!_def];simp only[il]
 cases l[j]? <;>rfl
theorem Fm (l:List UInt8) (pos:Nat):Utf8.decode ⟨l.toArray⟩ pos=dec (l.drop pos):=by
 rw[Ic,dec]
 have h1:(fun k=>((⟨l.toArray⟩:ByteArray).get! (pos+k)).toNat)=kb (l.drop pos):=by
  funext k;rw[Ie,kb,az,az,List.getElem?_drop]
 have h2:(fun k=>decide (pos+k<(⟨l.toArray⟩:ByteArray).size)&&((⟨l.toArray⟩:ByteArray).get! (pos+k)).toNat/64==2)=ko (l.drop pos):=by
  funext k;have:=congrFun h1 k;rw[this,ko,dw];congr 1;have hs:(⟨l.toArray⟩:ByteArray).size=l.length:=by simp[ByteArray.size]
  rw[hs];exact decide_eq_decide.2 (by omega)
 rw[h1,h2]
theorem ya {l:List UInt8} {k:Nat} (h:ko l k=true):k<l.length:=by
 simp only[ko,bT,decide_eq_true_eq]at h;exact h.1
theorem lZ {l:List UInt8} (hl:l≠[]):1≤(dec l).2∧(dec l).2≤l.length:=by
 have h0:0<l.length:=oI.2 hl;unfold dec Fl
 split
 ·exact⟨aR _,h0⟩
 ·split
  ·rename_i h
   simp only[bT]at h;have:=ya h.2
   split<;>(simp only;omega)
  ·split
   ·rename_i h
    simp only[bT]at h;have:=ya h.2
    split<;>(simp only;omega)
   ·split
    ·rename_i h
     simp only[bT]at h;have:=ya h.2
     split<;>(simp only;omega)
    ·exact⟨aR _,h0⟩
theorem oY (l:List UInt8) (k:Nat):kb l k<256:=by unfold kb;exact UInt8.toNat_lt _
theorem vf (l:List UInt8):(dec l).1≤1114111:=by
 unfold dec Fl
 split
 ·simp only;omega
 ·split
  ·have:=oY l 0
   split<;>(simp only;omega)
  ·split
   ·have:=oY l 0
    split<;>(simp only;omega)
   ·split
    ·split
     ·rename_i h
      simp only[bT,Utf8.valid,qb,decide_eq_true_eq]at h;simp only;omega
     ·simp only;omega
    ·simp only;omega
def fx (l:List UInt8):List Int:=match l with
 |[]=>[]
 |c::r=>((dec (c::r)).1:Int)::fx ((c::r).drop (dec (c::r)).2)
termination_by l.length
decreasing_by
 have:=(lZ (l:=c::r) (by simp)).1;simp only[dw,cD];omega
theorem vg:fx []=[]:=by unfold fx;rfl
theorem sM {l:List UInt8} (h:l≠[]):fx l=((dec l).1:Int)::fx (l.drop (dec l).2):=by
 cases l with
 |nil=>exact absurd rfl h
 |cons c r=>rw[fx]
theorem iV (l:List UInt8):(fx l).length≤l.length:=by
 induction hn:l.length using Nat.strongRecOn generalizing l with
 |_ n ih=>
  by_cases h:l=[]
  ·subst h;rw[vg];simp
  ·rw[sM h,cD];have hw:=lZ h;have:=ih _ (by rw[dw];omega) (l.drop (dec l).2) rfl;rw[dw]at this;omega
section
variable {P:Program} {r:Option Nat} {n:Nat} {L:Sl} {ds:List Deferred} {w:World} {K:Kt} {ops:Array Oper} {rest:List Oper} {d:Nat} {x:Operand} {ty:TypeId} {pos:String} {af:Array Edge}
theorem Rg.Kr {t:TypeId} {l:List UInt8} (M:aC) (ht:P.underlying t=some .string) (hx:ev L x=some (.string ⟨l.toArray⟩)) (hd:Nat.blt d n=true)
  (k:∀b w',w.heap.size≤b→b<w'.heap.size→w'.heap[b]? =some (.stringIter ⟨l.toArray⟩ 0)→Step M w (ins M b) w' aD→Rg P r n ops rest ((d,.pointer (some ⟨b,0,none⟩))::L) ds w' K):
  Rg P r n ops ({dst:=some d,op:= .range t x,type:=ty,pos,after:=af,guard:=none}::rest) L ds w K:=by
 refine .op (fun _ h=>by cases h) rfl rfl hd (.pointer (some ⟨w.heap.size,0,none⟩)) (w.alloc (.stringIter ⟨l.toArray⟩ 0)) (fun ρ hρ=>?_) (k w.heap.size _ (aR _) (by simp) (cp w _) ((cW M w _).own (aR _) (by simp)));simp only[execOp,hρ x _ hx];simp[Instr.range,ch,run_underlying ht,newObj,Sem.run]
theorem jn (M:aC) {b:Nat} {o:Obj} (hm:M b):Step M w M {w with heap:=w.heap.setIfInBounds b o} (fun k=>k=b):=
 ⟨fun h b hb=>by simpa using h b hb,rfl,rfl,rfl,by simp,fun _ _=>Iff.rfl,fun k _ hn=>by simp[dz,Ne.symm hn],fun k hk=>by subst hk;exact hm⟩
theorem qs {b p:Nat} {s:ByteArray} (hb:w.heap[b]? =some (.stringIter s p)):(getObj b).run P w= .ok (.stringIter s p) w:=by simp[getObj,Sem.run,hb]
theorem Rg.OJ {l:List UInt8} {b p:Nat} {M:aC} (hx:ev L x=some (.pointer (some ⟨b,0,none⟩))) (hb:w.heap[b]? =some (.stringIter ⟨l.toArray⟩ p)) (hm:M b) (hd:Nat.blt d n=true)
  (k1:p<l.length→∀w',w'.heap[b]? =some (.stringIter ⟨l.toArray⟩ (p+(dec (l.drop p)).2))→Step M w M w' (fun k=>k=b)→Rg P r n ops rest ((d,.tuple #[.bool true,.int .i64 p,.int .i32 ((dec (l.drop p)).1:Nat)])::L) ds w' K)
  (k2: ¬p<l.length→Rg P r n ops rest ((d,.tuple #[.bool false])::L) ds w K):
  Rg P r n ops ({dst:=some d,op:= .next x true,type:=ty,pos,after:=af,guard:=none}::rest) L ds w K:=by
 have hs:(⟨l.toArray⟩:ByteArray).size=l.length:=by simp[ByteArray.size]
 have dO:=ak hb;by_cases h:p<l.length
 ·have key:=k1 h {w with heap:=w.heap.setIfInBounds b (.stringIter ⟨l.toArray⟩ (p+(dec (l.drop p)).2))} (by simp[dz,dO]) (jn M hm);refine .op (fun _ h=>by cases h) rfl rfl hd _ _ (fun ρ hρ=>?_) key;simp only[execOp,hρ x _ hx,Instr.next,ch,qs hb,cB];rw[if_pos (by rw[hs];exact h)];simp[Fm,setObj,Sem.run,goInt,hb]
 ·refine .op (fun _ h=>by cases h) rfl rfl hd _ w (fun ρ hρ=>?_) (k2 h);simp only[execOp,hρ x _ hx,Instr.next,ch,qs hb,cB];rw[if_neg (by rw[hs];exact h)];simp
theorem Rg.G5 {t:TypeId} {i:Operand} {l:List UInt8} {κ:IntKind} {j:Int} {c:UInt8} (ht:P.underlying t=some .string) (hx:ev L x=some (.string ⟨l.toArray⟩)) (hi:ev L i=some (.int κ j)) (hd:Nat.blt d n=true) (hj:0≤j) (hc:l[j.toNat]? =some c)
  (k:Rg P r n ops rest ((d,.int .u8 (c.toNat:Int))::L) ds w K):
  Rg P r n ops ({dst:=some d,op:= .index t x i,type:=ty,pos,after:=af,guard:=none}::rest) L ds w K:=by
 have dO:=(an.1 hc).1;have hs:(⟨l.toArray⟩:ByteArray).size=l.length:=by simp[ByteArray.size]
 have hg:(⟨l.toArray⟩:ByteArray)[j.toNat]? =some c:=by
  rw[getElem?_pos _ _ (by rw[hs];exact dO)];congr 1;have:=(an.1 hc).2;rw[←this];rfl
 refine .op (fun _ h=>by cases h) rfl rfl hd _ w (fun ρ hρ=>?_) k;simp only[execOp,hρ x _ hx,hρ i _ hi,Instr.index,ch,asIntOf,Sem.run_pure,cB,run_underlying ht];simp[hj,hg]
theorem rS (l:List UInt8) (a b:Nat):(⟨l.toArray⟩:ByteArray).extract a b=⟨((l.take b).drop a).toArray⟩:=by
 have:((⟨l.toArray⟩:ByteArray).extract a b).data=((l.take b).drop a).toArray:=by
  rw[ByteArray.data_extract];apply Array.toList_inj.1;rw[Array.toList_extract,List.extract_eq_take_drop,List.drop_take]
 exact congrArg ByteArray.mk this
theorem Rg.OK {t:TypeId} {i:Operand} {l:List UInt8} {κ:IntKind} {j:Int} (ht:P.underlying t=some .string) (hx:ev L x=some (.string ⟨l.toArray⟩)) (hi:ev L i=some (.int κ j)) (hd:Nat.blt d n=true) (hj:0≤j∧j≤l.length)
  (k:Rg P r n ops rest ((d,.string ⟨(l.drop j.toNat).toArray⟩)::L) ds w K):
  Rg P r n ops ({dst:=some d,op:= .slice t x (some i) none none,type:=ty,pos,after:=af,guard:=none}::rest) L ds w K:=by
 have hs:(⟨l.toArray⟩:ByteArray).size=l.length:=by simp[ByteArray.size]
 refine .op (fun _ h=>by cases h) rfl rfl hd _ w (fun ρ hρ=>?_) k;simp only[execOp,hρ x _ hx,cV,ig,hρ i _ hi];rw[ch,run_sliceAt_string _ _ _ _ _ _ ht,run_slice_string_l _ _ _ ht _ _ hj.1 (by rw[hs];exact hj.2),rS,hs,List.take_length];simp
theorem Rg.QH {t:TypeId} {i:Operand} {l:List UInt8} {κ:IntKind} {j:Int} (ht:P.underlying t=some .string) (hx:ev L x=some (.string ⟨l.toArray⟩)) (hi:ev L i=some (.int κ j)) (hd:Nat.blt d n=true) (hj:0≤j∧j≤l.length)
  (k:Rg P r n ops rest ((d,.string ⟨(l.take j.toNat).toArray⟩)::L) ds w K):
  Rg P r n ops ({dst:=some d,op:= .slice t x none (some i) none,type:=ty,pos,after:=af,guard:=none}::rest) L ds w K:=by
 have hs:(⟨l.toArray⟩:ByteArray).size=l.length:=by simp[ByteArray.size]
 refine .op (fun _ h=>by cases h) rfl rfl hd _ w (fun ρ hρ=>?_) k;simp only[execOp,hρ x _ hx,cV,ig,hρ i _ hi];rw[ch,run_sliceAt_string _ _ _ _ _ _ ht,run_slice_string_h _ _ _ ht _ _ hj.1 (by rw[hs];exact hj.2),rS,List.drop_zero];simp
end
theorem Own.ec {α:Type} {A:RT α} {e:TypeId} {M:aC} {w:World} {base b p:Nat} {s:ByteArray} {v:Value} {xs:List α} (h:Own A e M w base v xs) (hb:w.heap[b]? =some (.stringIter s p)):v.ownBlock≠some b:=fun hv=>by
 obtain⟨⟨C,h1,_⟩,_⟩:=h;rcases h1.2 with⟨h2,_⟩|⟨g,cap,cur,h2,_,h3,_⟩
 ·rw[h2]at hv;cases hv
 ·rw[h2]at hv;cases hv;rw[h3]at hb;cases hb
theorem Own.dA {α β:Type} {A:RT α} {B:RT β} {e e':TypeId} {M M':aC} {w:World} {base GY:Nat} {v u:Value} {xs:List α} {ys:List β} (h:Own A e M w base v xs) (h':Own B e' M' w GY u ys) (ht:e≠e') {b:Nat} (hb:v.ownBlock=some b):u.ownBlock≠some b:=fun hu=>by
 obtain⟨⟨C,h1,_⟩,_⟩:=h;obtain⟨⟨C',VX,_⟩,_⟩:=h';rcases h1.2 with⟨h2,_⟩|⟨g,cap,cur,h2,_,h3,_⟩
 ·rw[h2]at hb;cases hb
 ·rcases VX.2 with⟨xM,_⟩|⟨g',xK,Ww,xM,_,h3',_⟩
  ·rw[xM]at hu;cases hu
  ·rw[h2]at hb;rw[xM]at hu;cases hb;cases hu;rw[h3]at h3';cases h3';exact ht rfl
theorem Own.eK {α:Type} {A:RT α} {e t:TypeId} {M:aC} {w:World} {base b:Nat} {v:Value} {xs:List α} {cs:Array Value} {fr:Nat×Nat} (h:Own A e M w base v xs) (hb:w.heap[b]? =some (.cells cs t fr)) (ht:t≠e):v.ownBlock≠some b:=fun hv=>by
 obtain⟨⟨C,h1,_⟩,_⟩:=h;rcases h1.2 with⟨h2,_⟩|⟨g,cap,cur,h2,_,h3,_⟩
 ·rw[h2]at hv;cases hv
 ·rw[h2]at hv;cases hv;rw[h3]at hb;cases hb;exact ht rfl
end Go.K
namespace Go.K
open Go.Proofs
theorem I3:TI Tryz.prog 3 (.int .i64 0) 1 8:=by unfold TI;kernel_rfl
theorem I5:TI Tryz.prog 5 (.int .u8 0) 1 1:=by unfold TI;kernel_rfl
theorem I9:TI Tryz.prog 9 (.string ⟨#[]⟩) 1 16:=by unfold TI;kernel_rfl
theorem I26:TI Tryz.prog 26 (.int .i64 0) 1 8:=by unfold TI;kernel_rfl
theorem kG:TI Tryz.prog 37 (.slice none 0 0) 1 24:=by unfold TI;kernel_rfl
theorem zz:TI Tryz.prog 57 (.slice none 0 0) 1 24:=by unfold TI;kernel_rfl
theorem vh:TI Tryz.prog 67 (.slice none 0 0) 1 24:=by unfold TI;kernel_rfl
theorem oZ:TI Tryz.prog 69 (.agg #[(.int .i64 0),(.slice none 0 0)]) 2 32:=by unfold TI;kernel_rfl
theorem G6:TI Tryz.prog 71 (.agg #[(.int .i64 0),(.slice none 0 0),(.int .i64 0)]) 3 40:=by unfold TI;kernel_rfl
theorem Au:TI Tryz.prog 78 (.agg #[(.string ⟨#[]⟩),(.string ⟨#[]⟩)]) 2 32:=by unfold TI;kernel_rfl
theorem o0:TI Tryz.prog 83 (.agg #[(.int .i64 0),(.slice none 0 0)]) 2 32:=by unfold TI;kernel_rfl
theorem zK:TI Tryz.prog 142 (.pointer none) 1 8:=by unfold TI;kernel_rfl
theorem ab3:TI Tryz.prog 155 (.slice none 0 0) 1 24:=by unfold TI;kernel_rfl
theorem kD:TI Tryz.prog 166 (.agg #[(.string ⟨#[]⟩),(.string ⟨#[]⟩)]) 2 32:=by unfold TI;kernel_rfl
theorem CT:TI Tryz.prog 204 (.slice none 0 0) 1 24:=by unfold TI;kernel_rfl
theorem Ig:TI Tryz.prog 205 (.slice none 0 0) 1 24:=by unfold TI;kernel_rfl
theorem ab4:TI Tryz.prog 207 (.agg #[(.slice none 0 0),(.slice none 0 0),(.int .i64 0)]) 3 56:=by unfold TI;kernel_rfl
theorem Bq:TI Tryz.prog 209 (.agg #[(.int .i64 0),(.int .i64 0),(.int .i64 0),(.int .i64 0)]) 4 32:=by unfold TI;kernel_rfl
theorem Ih:TI Tryz.prog 266 (.agg #[(.string ⟨#[]⟩),(.int .i64 0)]) 2 24:=by unfold TI;kernel_rfl
theorem ab5:TI Tryz.prog 336 (.agg #[(.pointer none),(.slice none 0 0)]) 2 32:=by unfold TI;kernel_rfl
theorem B69:placesOf Tryz.prog 69=[(0,1),(1,1)].map some:=by kernel_rfl
theorem B71:placesOf Tryz.prog 71=[(0,2),(2,1)].map some:=by kernel_rfl
theorem B78:placesOf Tryz.prog 78=[(0,1),(1,1)].map some:=by kernel_rfl
theorem W0:placesOf Tryz.prog 83=[(0,1),(1,1)].map some:=by kernel_rfl
theorem ab6:placesOf Tryz.prog 207=[(0,1),(1,1),(2,1)].map some:=by kernel_rfl
theorem ab7:placesOf Tryz.prog 209=[(0,1),(1,1),(2,1),(3,1)].map some:=by kernel_rfl
theorem W2:placesOf Tryz.prog 266=[(0,1),(1,1)].map some:=by kernel_rfl
theorem mixed:Tryz.prog.follows .mixedOrders=true:=by kernel_rfl
theorem E44:Enters Tryz.prog 44:=enters Tryz.func44 rfl (by decide)
theorem E80:Enters Tryz.prog 80:=enters Tryz.func80 rfl (by decide)
theorem E93:Enters Tryz.prog 93:=enters Tryz.func93 rfl (by decide)
theorem E94:Enters Tryz.prog 94:=enters Tryz.func94 rfl (by decide)
theorem ab9:Enters Tryz.prog 128:=enters Tryz.func128 rfl (by decide)
theorem aca:Enters Tryz.prog 129:=enters Tryz.func129 rfl (by decide)
theorem acb:Enters Tryz.prog 130:=enters Tryz.func130 rfl (by decide)
theorem acd:Enters Tryz.prog 131:=enters Tryz.func131 rfl (by decide)
theorem W3:Enters Tryz.prog 132:=enters Tryz.func132 rfl (by decide)
theorem ace:Enters Tryz.prog 136:=enters Tryz.func136 rfl (by decide)
theorem acf:Enters Tryz.prog 137:=enters Tryz.func137 rfl (by decide)
theorem acg:Enters Tryz.prog 138:=enters Tryz.func138 rfl (by decide)
theorem ach:Enters Tryz.prog 139:=enters Tryz.func139 rfl (by decide)
theorem aci:Enters Tryz.prog 148:=enters Tryz.func148 rfl (by decide)
theorem W4:Enters Tryz.prog 183:=enters Tryz.func183 rfl (by decide)
theorem acj:Enters Tryz.prog 184:=enters Tryz.func184 rfl (by decide)
theorem ack:Enters Tryz.prog 185:=enters Tryz.func185 rfl (by decide)
theorem acm:Enters Tryz.prog 186:=enters Tryz.func186 rfl (by decide)
theorem acn:Enters Tryz.prog 187:=enters Tryz.func187 rfl (by decide)
theorem aco:Enters Tryz.prog 188:=enters Tryz.func188 rfl (by decide)
theorem acp:Enters Tryz.prog 190:=enters Tryz.func190 rfl (by decide)
theorem acq:Enters Tryz.prog 193:=enters Tryz.func193 rfl (by decide)
theorem acr:Enters Tryz.prog 194:=enters Tryz.func194 rfl (by decide)
theorem SH:Enters Tryz.prog 195:=enters Tryz.func195 rfl (by decide)
theorem acs:Enters Tryz.prog 196:=enters Tryz.func196 rfl (by decide)
theorem acu:Enters Tryz.prog 201:=enters Tryz.func201 rfl (by decide)
theorem acv:Enters Tryz.prog 222:=enters Tryz.func222 rfl (by decide)
theorem acw:Enters Tryz.prog 223:=enters Tryz.func223 rfl (by decide)
theorem W5:Enters Tryz.prog 224:=enters Tryz.func224 rfl (by decide)
theorem acx:Enters Tryz.prog 225:=enters Tryz.func225 rfl (by decide)
theorem acy:Enters Tryz.prog 226:=enters Tryz.func226 rfl (by decide)
theorem W6:Enters Tryz.prog 227:=enters Tryz.func227 rfl (by decide)
theorem acz:Enters Tryz.prog 228:=enters Tryz.func228 rfl (by decide)
theorem acA:Enters Tryz.prog 229:=enters Tryz.func229 rfl (by decide)
theorem acB:Enters Tryz.prog 237:=enters Tryz.func237 rfl (by decide)
theorem acC:Enters Tryz.prog 249:=enters Tryz.func249 rfl (by decide)
theorem acD:Enters Tryz.prog 250:=enters Tryz.func250 rfl (by decide)
theorem acE:Enters Tryz.prog 251:=enters Tryz.func251 rfl (by decide)
theorem W7:Enters Tryz.prog 252:=enters Tryz.func252 rfl (by decide)
theorem acF:Enters Tryz.prog 253:=enters Tryz.func253 rfl (by decide)
theorem W8:Enters Tryz.prog 254:=enters Tryz.func254 rfl (by decide)
theorem W9:Enters Tryz.prog 263:=enters Tryz.func263 rfl (by decide)
theorem acG:Enters Tryz.prog 264:=enters Tryz.func264 rfl (by decide)
theorem acH:Enters Tryz.prog 265:=enters Tryz.func265 rfl (by decide)
theorem acI:Enters Tryz.prog 266:=enters Tryz.func266 rfl (by decide)
theorem acJ:Enters Tryz.prog 267:=enters Tryz.func267 rfl (by decide)
theorem acK:Enters Tryz.prog 284:=enters Tryz.func284 rfl (by decide)
theorem acL:Enters Tryz.prog 285:=enters Tryz.func285 rfl (by decide)
theorem Xa:Enters Tryz.prog 287:=enters Tryz.func287 rfl (by decide)
theorem acM:Enters Tryz.prog 290:=enters Tryz.func290 rfl (by decide)
end Go.K
namespace Go.K
open Go.Proofs
set_option maxRecDepth 10000
def fK (c:Int):Bool:=decide ((97≤c∧c≤122)∨(65≤c∧c≤90)∨(192≤c∧c≤591∧c≠215∧c≠247))
def o5 (c:Int):Bool:=decide (48≤c∧c≤57)
def fL (c:Int):Int:=if(65≤c∧c≤90)∨(192≤c∧c≤222∧c≠215)then c+32 else c
theorem CU (c:Int) (w0:World):
  Spec Tryz.prog 225 #[.int .i64 c] w0 (fun v w=>v= .bool (fK c)∧w=w0):=by
 refine bc (args:=[_]) (fn:=Tryz.f225) Tryz.func225 rfl (n:=33) Tryz.ntmps225 (aj (ae (ah rfl rfl (ab (aj (ae (ad rfl rfl (dT rfl rfl rfl (ad rfl rfl ?_)))))))));refine aO (g:=5) rfl (fun iJ=>?_) (fun iJ=>?_)
 ·refine al rfl rfl (ad rfl rfl (al rfl rfl (gN rfl rfl rfl (aW rfl rfl rfl (ad rfl rfl ?_)))));refine aO (g:=9) rfl (fun Br=>?_) (fun Br=>?_)
  ·refine ar rfl rfl rfl rfl (ar rfl rfl rfl rfl (ar rfl rfl rfl rfl (cn rfl rfl rfl (cn rfl rfl rfl (ar rfl rfl rfl rfl (aW rfl rfl rfl (ad rfl rfl (ar rfl rfl rfl rfl (ar rfl rfl rfl rfl (ar rfl rfl rfl rfl (cn rfl rfl rfl ?_)))))))))));refine cn rfl rfl rfl (ar rfl rfl rfl rfl (ar rfl rfl rfl rfl (cn rfl rfl rfl (cn rfl rfl rfl (ar rfl rfl rfl rfl (ar rfl rfl rfl rfl (cn rfl rfl rfl (cn rfl rfl rfl (ar rfl rfl rfl rfl (aW rfl rfl rfl (ah rfl rfl ?_)))))))))));refine ab (aN ?_);exact aU rfl rfl ⟨by simp only[fK];first|rfl|(congr 1;first|(exact(decide_eq_true (by omega)).symm)|(exact(decide_eq_false (by omega)).symm)|(exact decide_eq_decide.2 (by omega))),rfl⟩
  ·refine al rfl rfl (ad rfl rfl (al rfl rfl (dT rfl rfl rfl (al rfl rfl (ad rfl rfl ?_)))));refine aO (g:=12) rfl (fun sN=>?_) (fun sN=>?_)
   ·refine al rfl rfl (ad rfl rfl (al rfl rfl (gN rfl rfl rfl (al rfl rfl (aW rfl rfl rfl (aE rfl rfl rfl (ad rfl rfl ?_)))))));refine aO (g:=17) rfl (fun yb=>?_) (fun yb=>?_)
    ·refine ar rfl rfl rfl rfl (ar rfl rfl rfl rfl (ar rfl rfl rfl rfl (cn rfl rfl rfl (cn rfl rfl rfl (ar rfl rfl rfl rfl (ar rfl rfl rfl rfl (cn rfl rfl rfl (cn rfl rfl rfl (ar rfl rfl rfl rfl (ar rfl rfl rfl rfl (cn rfl rfl rfl ?_)))))))))));refine cn rfl rfl rfl (ar rfl rfl rfl rfl (aW rfl rfl rfl (ah rfl rfl (ab (aN ?_)))));exact aU rfl rfl ⟨by simp only[fK];first|rfl|(congr 1;first|(exact(decide_eq_true (by omega)).symm)|(exact(decide_eq_false (by omega)).symm)|(exact decide_eq_decide.2 (by omega))),rfl⟩
    ·refine al rfl rfl (ad rfl rfl (al rfl rfl (dT rfl rfl rfl (al rfl rfl (ad rfl rfl ?_)))));refine aO (g:=20) rfl (fun mv=>?_) (fun mv=>?_)
     ·refine al rfl rfl (ad rfl rfl (al rfl rfl (gN rfl rfl rfl (al rfl rfl (aW rfl rfl rfl (al rfl rfl (ad rfl rfl ?_)))))));refine aO (g:=24) rfl (fun yc=>?_) (fun yc=>?_)
      ·refine al rfl rfl (ad rfl rfl (al rfl rfl (fp rfl rfl rfl (al rfl rfl (aW rfl rfl rfl (al rfl rfl (ad rfl rfl ?_)))))));refine aO (g:=28) rfl (fun yd=>?_) (fun yd=>?_)
       ·refine al rfl rfl (ad rfl rfl (al rfl rfl (fp rfl rfl rfl (al rfl rfl (aW rfl rfl rfl (aE rfl rfl rfl (ah rfl rfl (ab (aN ?_)))))))));exact aU rfl rfl ⟨by simp only[fK];first|rfl|(congr 1;first|(exact(decide_eq_true (by omega)).symm)|(exact(decide_eq_false (by omega)).symm)|(exact decide_eq_decide.2 (by omega))),rfl⟩
       ·refine ar rfl rfl rfl rfl (ar rfl rfl rfl rfl (al rfl rfl (aE rfl rfl rfl (aE rfl rfl rfl (ah rfl rfl (ab (aN ?_)))))));exact aU rfl rfl ⟨by simp only[fK];first|rfl|(congr 1;first|(exact(decide_eq_true (by omega)).symm)|(exact(decide_eq_false (by omega)).symm)|(exact decide_eq_decide.2 (by omega))),rfl⟩
      ·refine ar rfl rfl rfl rfl (ar rfl rfl rfl rfl (al rfl rfl (aE rfl rfl rfl (al rfl rfl (ad rfl rfl (ar rfl rfl rfl rfl (ar rfl rfl rfl rfl (al rfl rfl (aE rfl rfl rfl (aE rfl rfl rfl (ah rfl rfl ?_)))))))))));refine ab (aN ?_);exact aU rfl rfl ⟨by simp only[fK];first|rfl|(congr 1;first|(exact(decide_eq_true (by omega)).symm)|(exact(decide_eq_false (by omega)).symm)|(exact decide_eq_decide.2 (by omega))),rfl⟩
     ·refine ar rfl rfl rfl rfl (ar rfl rfl rfl rfl (al rfl rfl (aE rfl rfl rfl (al rfl rfl (ad rfl rfl (ar rfl rfl rfl rfl (ar rfl rfl rfl rfl (al rfl rfl (aE rfl rfl rfl (al rfl rfl (ad rfl rfl ?_)))))))))));refine ar rfl rfl rfl rfl (ar rfl rfl rfl rfl (al rfl rfl (aE rfl rfl rfl (aE rfl rfl rfl (ah rfl rfl (ab (aN ?_)))))));exact aU rfl rfl ⟨by simp only[fK];first|rfl|(congr 1;first|(exact(decide_eq_true (by omega)).symm)|(exact(decide_eq_false (by omega)).symm)|(exact decide_eq_decide.2 (by omega))),rfl⟩
   ·refine ar rfl rfl rfl rfl (ar rfl rfl rfl rfl (al rfl rfl (aE rfl rfl rfl (aE rfl rfl rfl (ad rfl rfl (al rfl rfl (ad rfl rfl (al rfl rfl (dT rfl rfl rfl (al rfl rfl (ad rfl rfl ?_)))))))))));refine aO (g:=20) rfl (fun mv=>?_) (fun mv=>?_)
    ·refine al rfl rfl (ad rfl rfl (al rfl rfl (gN rfl rfl rfl (al rfl rfl (aW rfl rfl rfl (al rfl rfl (ad rfl rfl ?_)))))));refine aO (g:=24) rfl (fun yc=>?_) (fun yc=>?_)
     ·refine al rfl rfl (ad rfl rfl (al rfl rfl (fp rfl rfl rfl (al rfl rfl (aW rfl rfl rfl (al rfl rfl (ad rfl rfl ?_)))))));refine aO (g:=28) rfl (fun yd=>?_) (fun yd=>?_)
      ·refine al rfl rfl (ad rfl rfl (al rfl rfl (fp rfl rfl rfl (al rfl rfl (aW rfl rfl rfl (aE rfl rfl rfl (ah rfl rfl (ab (aN ?_)))))))));exact aU rfl rfl ⟨by simp only[fK];first|rfl|(congr 1;first|(exact(decide_eq_true (by omega)).symm)|(exact(decide_eq_false (by omega)).symm)|(exact decide_eq_decide.2 (by omega))),rfl⟩
      ·refine ar rfl rfl rfl rfl (ar rfl rfl rfl rfl (al rfl rfl (aE rfl rfl rfl (aE rfl rfl rfl (ah rfl rfl (ab (aN ?_)))))));exact aU rfl rfl ⟨by simp only[fK];first|rfl|(congr 1;first|(exact(decide_eq_true (by omega)).symm)|(exact(decide_eq_false (by omega)).symm)|(exact decide_eq_decide.2 (by omega))),rfl⟩
     ·refine ar rfl rfl rfl rfl (ar rfl rfl rfl rfl (al rfl rfl (aE rfl rfl rfl (al rfl rfl (ad rfl rfl (ar rfl rfl rfl rfl (ar rfl rfl rfl rfl (al rfl rfl (aE rfl rfl rfl (aE rfl rfl rfl (ah rfl rfl ?_)))))))))));refine ab (aN ?_);exact aU rfl rfl ⟨by simp only[fK];first|rfl|(congr 1;first|(exact(decide_eq_true (by omega)).symm)|(exact(decide_eq_false (by omega)).symm)|(exact decide_eq_decide.2 (by omega))),rfl⟩
    ·refine ar rfl rfl rfl rfl (ar rfl rfl rfl rfl (al rfl rfl (aE rfl rfl rfl (al rfl rfl (ad rfl rfl (ar rfl rfl rfl rfl (ar rfl rfl rfl rfl (al rfl rfl (aE rfl rfl rfl (al rfl rfl (ad rfl rfl ?_)))))))))));refine ar rfl rfl rfl rfl (ar rfl rfl rfl rfl (al rfl rfl (aE rfl rfl rfl (aE rfl rfl rfl (ah rfl rfl (ab (aN ?_)))))));exact aU rfl rfl ⟨by simp only[fK];first|rfl|(congr 1;first|(exact(decide_eq_true (by omega)).symm)|(exact(decide_eq_false (by omega)).symm)|(exact decide_eq_decide.2 (by omega))),rfl⟩
 ·refine ar rfl rfl rfl rfl (ar rfl rfl rfl rfl (aE rfl rfl rfl (ad rfl rfl (al rfl rfl (ad rfl rfl (al rfl rfl (dT rfl rfl rfl (al rfl rfl (ad rfl rfl ?_)))))))));refine aO (g:=12) rfl (fun sN=>?_) (fun sN=>?_)
  ·refine al rfl rfl (ad rfl rfl (al rfl rfl (gN rfl rfl rfl (al rfl rfl (aW rfl rfl rfl (aE rfl rfl rfl (ad rfl rfl ?_)))))));refine aO (g:=17) rfl (fun yb=>?_) (fun yb=>?_)
   ·refine ar rfl rfl rfl rfl (ar rfl rfl rfl rfl (ar rfl rfl rfl rfl (cn rfl rfl rfl (cn rfl rfl rfl (ar rfl rfl rfl rfl (ar rfl rfl rfl rfl (cn rfl rfl rfl (cn rfl rfl rfl (ar rfl rfl rfl rfl (ar rfl rfl rfl rfl (cn rfl rfl rfl ?_)))))))))));refine cn rfl rfl rfl (ar rfl rfl rfl rfl (aW rfl rfl rfl (ah rfl rfl (ab (aN ?_)))));exact aU rfl rfl ⟨by simp only[fK];first|rfl|(congr 1;first|(exact(decide_eq_true (by omega)).symm)|(exact(decide_eq_false (by omega)).symm)|(exact decide_eq_decide.2 (by omega))),rfl⟩
   ·refine al rfl rfl (ad rfl rfl (al rfl rfl (dT rfl rfl rfl (al rfl rfl (ad rfl rfl ?_)))));refine aO (g:=20) rfl (fun mv=>?_) (fun mv=>?_)
    ·refine al rfl rfl (ad rfl rfl (al rfl rfl (gN rfl rfl rfl (al rfl rfl (aW rfl rfl rfl (al rfl rfl (ad rfl rfl ?_)))))));refine aO (g:=24) rfl (fun yc=>?_) (fun yc=>?_)
     ·refine al rfl rfl (ad rfl rfl (al rfl rfl (fp rfl rfl rfl (al rfl rfl (aW rfl rfl rfl (al rfl rfl (ad rfl rfl ?_)))))));refine aO (g:=28) rfl (fun yd=>?_) (fun yd=>?_)
      ·refine al rfl rfl (ad rfl rfl (al rfl rfl (fp rfl rfl rfl (al rfl rfl (aW rfl rfl rfl (aE rfl rfl rfl (ah rfl rfl (ab (aN ?_)))))))));exact aU rfl rfl ⟨by simp only[fK];first|rfl|(congr 1;first|(exact(decide_eq_true (by omega)).symm)|(exact(decide_eq_false (by omega)).symm)|(exact decide_eq_decide.2 (by omega))),rfl⟩
      ·refine ar rfl rfl rfl rfl (ar rfl rfl rfl rfl (al rfl rfl (aE rfl rfl rfl (aE rfl rfl rfl (ah rfl rfl (ab (aN ?_)))))));exact aU rfl rfl ⟨by simp only[fK];first|rfl|(congr 1;first|(exact(decide_eq_true (by omega)).symm)|(exact(decide_eq_false (by omega)).symm)|(exact decide_eq_decide.2 (by omega))),rfl⟩
     ·refine ar rfl rfl rfl rfl (ar rfl rfl rfl rfl (al rfl rfl (aE rfl rfl rfl (al rfl rfl (ad rfl rfl (ar rfl rfl rfl rfl (ar rfl rfl rfl rfl (al rfl rfl (aE rfl rfl rfl (aE rfl rfl rfl (ah rfl rfl ?_)))))))))));refine ab (aN ?_);exact aU rfl rfl ⟨by simp only[fK];first|rfl|(congr 1;first|(exact(decide_eq_true (by omega)).symm)|(exact(decide_eq_false (by omega)).symm)|(exact decide_eq_decide.2 (by omega))),rfl⟩
    ·refine ar rfl rfl rfl rfl (ar rfl rfl rfl rfl (al rfl rfl (aE rfl rfl rfl (al rfl rfl (ad rfl rfl (ar rfl rfl rfl rfl (ar rfl rfl rfl rfl (al rfl rfl (aE rfl rfl rfl (al rfl rfl (ad rfl rfl ?_)))))))))));refine ar rfl rfl rfl rfl (ar rfl rfl rfl rfl (al rfl rfl (aE rfl rfl rfl (aE rfl rfl rfl (ah rfl rfl (ab (aN ?_)))))));exact aU rfl rfl ⟨by simp only[fK];first|rfl|(congr 1;first|(exact(decide_eq_true (by omega)).symm)|(exact(decide_eq_false (by omega)).symm)|(exact decide_eq_decide.2 (by omega))),rfl⟩
  ·refine ar rfl rfl rfl rfl (ar rfl rfl rfl rfl (al rfl rfl (aE rfl rfl rfl (aE rfl rfl rfl (ad rfl rfl (al rfl rfl (ad rfl rfl (al rfl rfl (dT rfl rfl rfl (al rfl rfl (ad rfl rfl ?_)))))))))));refine aO (g:=20) rfl (fun mv=>?_) (fun mv=>?_)
   ·refine al rfl rfl (ad rfl rfl (al rfl rfl (gN rfl rfl rfl (al rfl rfl (aW rfl rfl rfl (al rfl rfl (ad rfl rfl ?_)))))));refine aO (g:=24) rfl (fun yc=>?_) (fun yc=>?_)
    ·refine al rfl rfl (ad rfl rfl (al rfl rfl (fp rfl rfl rfl (al rfl rfl (aW rfl rfl rfl (al rfl rfl (ad rfl rfl ?_)))))));refine aO (g:=28) rfl (fun yd=>?_) (fun yd=>?_)
     ·refine al rfl rfl (ad rfl rfl (al rfl rfl (fp rfl rfl rfl (al rfl rfl (aW rfl rfl rfl (aE rfl rfl rfl (ah rfl rfl (ab (aN ?_)))))))));exact aU rfl rfl ⟨by simp only[fK];first|rfl|(congr 1;first|(exact(decide_eq_true (by omega)).symm)|(exact(decide_eq_false (by omega)).symm)|(exact decide_eq_decide.2 (by omega))),rfl⟩
     ·refine ar rfl rfl rfl rfl (ar rfl rfl rfl rfl (al rfl rfl (aE rfl rfl rfl (aE rfl rfl rfl (ah rfl rfl (ab (aN ?_)))))));exact aU rfl rfl ⟨by simp only[fK];first|rfl|(congr 1;first|(exact(decide_eq_true (by omega)).symm)|(exact(decide_eq_false (by omega)).symm)|(exact decide_eq_decide.2 (by omega))),rfl⟩
    ·refine ar rfl rfl rfl rfl (ar rfl rfl rfl rfl (al rfl rfl (aE rfl rfl rfl (al rfl rfl (ad rfl rfl (ar rfl rfl rfl rfl (ar rfl rfl rfl rfl (al rfl rfl (aE rfl rfl rfl (aE rfl rfl rfl (ah rfl rfl ?_)))))))))));refine ab (aN ?_);exact aU rfl rfl ⟨by simp only[fK];first|rfl|(congr 1;first|(exact(decide_eq_true (by omega)).symm)|(exact(decide_eq_false (by omega)).symm)|(exact decide_eq_decide.2 (by omega))),rfl⟩
   ·refine ar rfl rfl rfl rfl (ar rfl rfl rfl rfl (al rfl rfl (aE rfl rfl rfl (al rfl rfl (ad rfl rfl (ar rfl rfl rfl rfl (ar rfl rfl rfl rfl (al rfl rfl (aE rfl rfl rfl (al rfl rfl (ad rfl rfl ?_)))))))))));refine ar rfl rfl rfl rfl (ar rfl rfl rfl rfl (al rfl rfl (aE rfl rfl rfl (aE rfl rfl rfl (ah rfl rfl (ab (aN ?_)))))));exact aU rfl rfl ⟨by simp only[fK];first|rfl|(congr 1;first|(exact(decide_eq_true (by omega)).symm)|(exact(decide_eq_false (by omega)).symm)|(exact decide_eq_decide.2 (by omega))),rfl⟩
theorem Fp (c:Int) (w0:World):
  Spec Tryz.prog 226 #[.int .i64 c] w0 (fun v w=>v= .bool (o5 c)∧w=w0):=by
 refine bc (args:=[_]) (fn:=Tryz.f226) Tryz.func226 rfl (n:=9) Tryz.ntmps226 (aj (ae (ah rfl rfl (ab (aj (ae (ad rfl rfl (dT rfl rfl rfl (ad rfl rfl ?_)))))))));refine aO (g:=5) rfl (fun iJ=>?_) (fun iJ=>?_)
 ·refine al rfl rfl (ad rfl rfl (al rfl rfl (gN rfl rfl rfl (aW rfl rfl rfl (ah rfl rfl (ab (aN ?_)))))));exact aU rfl rfl ⟨by simp only[o5];first|rfl|(congr 1;first|(exact(decide_eq_true (by omega)).symm)|(exact(decide_eq_false (by omega)).symm)|(exact decide_eq_decide.2 (by omega))),rfl⟩
 ·refine ar rfl rfl rfl rfl (ar rfl rfl rfl rfl (aE rfl rfl rfl (ah rfl rfl (ab (aN ?_)))));exact aU rfl rfl ⟨by simp only[o5];first|rfl|(congr 1;first|(exact(decide_eq_true (by omega)).symm)|(exact(decide_eq_false (by omega)).symm)|(exact decide_eq_decide.2 (by omega))),rfl⟩
theorem Av (c:Int) (w0:World) (hc:0≤c∧c≤1114111):
  Spec Tryz.prog 227 #[.int .i64 c] w0 (fun v w=>v= .int .i64 (fL c)∧w=w0):=by
 refine bc (args:=[_]) (fn:=Tryz.f227) Tryz.func227 rfl (n:=24) Tryz.ntmps227 (aj (ae (ah rfl rfl (ab (aj (aj (ae (ad rfl rfl (dT rfl rfl rfl (ad rfl rfl ?_))))))))));refine aO (g:=5) rfl (fun iJ=>?_) (fun iJ=>?_)
 ·refine al rfl rfl (ad rfl rfl (al rfl rfl (gN rfl rfl rfl (aW rfl rfl rfl (ad rfl rfl ?_)))));refine aO (g:=9) rfl (fun Br=>?_) (fun Br=>?_)
  ·refine ar rfl rfl rfl rfl (ar rfl rfl rfl rfl (ar rfl rfl rfl rfl (cn rfl rfl rfl (cn rfl rfl rfl (ar rfl rfl rfl rfl (ar rfl rfl rfl rfl (cn rfl rfl rfl (cn rfl rfl rfl (ar rfl rfl rfl rfl (aW rfl rfl rfl (ab ?_)))))))))));refine lD rfl (aj (ae (ad rfl rfl (bD rfl rfl rfl (by omega) (ah rfl rfl (ab (aN ?_)))))));exact aU rfl rfl ⟨by rw[fL,if_pos (by omega)],rfl⟩
  ·refine al rfl rfl (ad rfl rfl (al rfl rfl (dT rfl rfl rfl (al rfl rfl (ad rfl rfl ?_)))));refine aO (g:=12) rfl (fun sN=>?_) (fun sN=>?_)
   ·refine al rfl rfl (ad rfl rfl (al rfl rfl (gN rfl rfl rfl (al rfl rfl (aW rfl rfl rfl (al rfl rfl (ad rfl rfl ?_)))))));refine aO (g:=16) rfl (fun Ks=>?_) (fun Ks=>?_)
    ·refine al rfl rfl (ad rfl rfl (al rfl rfl (fp rfl rfl rfl (al rfl rfl (aW rfl rfl rfl (aE rfl rfl rfl (ab ?_)))))));refine bP rfl (fun c1=>?_) (fun c1=>?_)
     ·refine aj (ae (ad rfl rfl (bD rfl rfl rfl (by omega) (ah rfl rfl (ab (aN ?_))))));exact aU rfl rfl ⟨by rw[fL,if_pos (by omega)],rfl⟩
     ·refine aT (aj (ae (ad rfl rfl (ah rfl rfl (ab (aN ?_))))));exact aU rfl rfl ⟨by rw[fL,if_neg (by omega)],rfl⟩
    ·refine ar rfl rfl rfl rfl (ar rfl rfl rfl rfl (al rfl rfl (aE rfl rfl rfl (aE rfl rfl rfl (ab (jD rfl (aT (aj (ae (ad rfl rfl (ah rfl rfl ?_)))))))))));refine ab (aN ?_);exact aU rfl rfl ⟨by rw[fL,if_neg (by omega)],rfl⟩
   ·refine ar rfl rfl rfl rfl (ar rfl rfl rfl rfl (al rfl rfl (aE rfl rfl rfl (al rfl rfl (ad rfl rfl (ar rfl rfl rfl rfl (ar rfl rfl rfl rfl (al rfl rfl (aE rfl rfl rfl (aE rfl rfl rfl (ab ?_)))))))))));refine jD rfl (aT (aj (ae (ad rfl rfl (ah rfl rfl (ab (aN ?_)))))));exact aU rfl rfl ⟨by rw[fL,if_neg (by omega)],rfl⟩
 ·refine ar rfl rfl rfl rfl (ar rfl rfl rfl rfl (aE rfl rfl rfl (ad rfl rfl (al rfl rfl (ad rfl rfl (al rfl rfl (dT rfl rfl rfl (al rfl rfl (ad rfl rfl ?_)))))))));refine aO (g:=12) rfl (fun sN=>?_) (fun sN=>?_)
  ·refine al rfl rfl (ad rfl rfl (al rfl rfl (gN rfl rfl rfl (al rfl rfl (aW rfl rfl rfl (al rfl rfl (ad rfl rfl ?_)))))));refine aO (g:=16) rfl (fun Ks=>?_) (fun Ks=>?_)
   ·refine al rfl rfl (ad rfl rfl (al rfl rfl (fp rfl rfl rfl (al rfl rfl (aW rfl rfl rfl (aE rfl rfl rfl (ab ?_)))))));refine bP rfl (fun c1=>?_) (fun c1=>?_)
    ·refine aj (ae (ad rfl rfl (bD rfl rfl rfl (by omega) (ah rfl rfl (ab (aN ?_))))));exact aU rfl rfl ⟨by rw[fL,if_pos (by omega)],rfl⟩
    ·refine aT (aj (ae (ad rfl rfl (ah rfl rfl (ab (aN ?_))))));exact aU rfl rfl ⟨by rw[fL,if_neg (by omega)],rfl⟩
   ·refine ar rfl rfl rfl rfl (ar rfl rfl rfl rfl (al rfl rfl (aE rfl rfl rfl (aE rfl rfl rfl (ab (jD rfl (aT (aj (ae (ad rfl rfl (ah rfl rfl ?_)))))))))));refine ab (aN ?_);exact aU rfl rfl ⟨by rw[fL,if_neg (by omega)],rfl⟩
  ·refine ar rfl rfl rfl rfl (ar rfl rfl rfl rfl (al rfl rfl (aE rfl rfl rfl (al rfl rfl (ad rfl rfl (ar rfl rfl rfl rfl (ar rfl rfl rfl rfl (al rfl rfl (aE rfl rfl rfl (aE rfl rfl rfl (ab ?_)))))))))));refine jD rfl (aT (aj (ae (ad rfl rfl (ah rfl rfl (ab (aN ?_)))))));exact aU rfl rfl ⟨by rw[fL,if_neg (by omega)],rfl⟩
end Go.K
namespace Go.Proofs
open Go.Shelf
def Tryz.wx:Go.Shelf.Ren:=⟨fun|169=>267|n=>n,fun|70=>334|9=>9|0=>0|72=>336|37=>204|127=>358|3=>3|5=>5|n=>n,fun|n=>n⟩
theorem Tryz.OL:Go.Proofs.Lays.n169 Tryz.prog Tryz.wx:={
 mixed:=by kernel_rfl
 f169:=Tryz.func267.trans (congrArg some (by kernel_rfl))
 t0:=fJ
 a0:=lJ
 z0:=j6
 v0:=gI
 t3:=aw
 a3:=lK
 z3:=j7
 v3:=gJ
 t9:=aH
 a9:=lL
 z9:=j8
 v9:=gK
 t37:=bI
 a37:=Tryz.isAgg204
 z37:=Tryz.sizeOf204
 v37:=Tryz.zeroValue204
 t70:=Tryz.underlying334
 a70:=Tryz.isAgg334
 z70:=Tryz.sizeOf334
 v70:=Tryz.zeroValue334
 t72:=Tryz.underlying336
 a72:=Tryz.isAgg336
 z72:=Tryz.sizeOf336
 v72:=Tryz.zeroValue336
 t127:=Tryz.underlying358
 a127:=Tryz.isAgg358
 z127:=Tryz.sizeOf358
 v127:=Tryz.zeroValue358}
def Tryz.CV:Go.Shelf.Ren:=⟨fun|119=>290|n=>n,fun|21=>21|4=>4|n=>n,fun|n=>n⟩
theorem Tryz.OM:Go.Proofs.Lays.n119 Tryz.prog Tryz.CV:={
 mixed:=by kernel_rfl
 f119:=Tryz.func290.trans (congrArg some (by kernel_rfl))
 t4:=iN
 a4:=rI
 z4:=nL
 v4:=jw
 t21:=Tryz.underlying21
 a21:=Tryz.isAgg21
 z21:=Tryz.sizeOf21
 v21:=Tryz.zeroValue21}
def Tryz.CW:Go.Shelf.Ren:=⟨fun|106=>137|213=>189|265=>239|n=>n,fun|9=>9|3=>3|n=>n,fun|n=>n⟩
theorem Tryz.ON:Go.Proofs.Lays.n106 Tryz.prog Tryz.CW:={
 mixed:=by kernel_rfl
 f106:=Tryz.func137.trans (congrArg some (by kernel_rfl))
 f213:=Tryz.func189.trans (congrArg some (by kernel_rfl))
 f265:=Tryz.func239.trans (congrArg some (by kernel_rfl))
 t3:=aw
 a3:=lK
 z3:=j7
 v3:=gJ
 t9:=aH
 a9:=lL
 z9:=j8
 v9:=gK}
theorem Tryz.tN:Builder.Extra Tryz.prog Tryz.wx:={
 sizeBuilder:=by kernel_rfl
 liesBuilder:=by kernel_rfl
 t5:=cx
 a5:=Tryz.isAgg5
 z5:=Tryz.sizeOf5
 v5:=tw
 infoByte:=by kernel_rfl
 cellsByte:=by kernel_rfl
 sizeByte:=by kernel_rfl
 neB5:=by decide}
def Tryz.wy:Go.Shelf.Ren:=⟨fun|168=>265|240=>288|242=>289|276=>298|278=>299|n=>n,fun|0=>0|3=>3|4=>4|5=>5|9=>9|20=>20|21=>21|37=>204|46=>189|51=>257|70=>334|72=>336|75=>338|80=>342|164=>363|n=>n,fun|n=>n⟩
theorem Tryz.OO:Go.Proofs.Lays.n168 Tryz.prog Tryz.wy:={
 mixed:=by kernel_rfl
 f168:=Tryz.func265.trans (congrArg some (by kernel_rfl))
 f240:=Tryz.func288.trans (congrArg some (by kernel_rfl))
 f242:=Tryz.func289.trans (congrArg some (by kernel_rfl))
 f276:=Tryz.func298.trans (congrArg some (by kernel_rfl))
 f278:=Tryz.func299.trans (congrArg some (by kernel_rfl))
 t0:=fJ
 a0:=lJ
 z0:=j6
 v0:=gI
 t3:=aw
 a3:=lK
 z3:=j7
 v3:=gJ
 t4:=iN
 a4:=rI
 z4:=nL
 v4:=jw
 t5:=cx
 a5:=Tryz.isAgg5
 z5:=Tryz.sizeOf5
 v5:=tw
 t9:=aH
 a9:=lL
 z9:=j8
 v9:=gK
 t20:=Tryz.underlying20
 a20:=Tryz.isAgg20
 z20:=Tryz.sizeOf20
 v20:=Tryz.zeroValue20
 t21:=Tryz.underlying21
 a21:=Tryz.isAgg21
 z21:=Tryz.sizeOf21
 v21:=Tryz.zeroValue21
 t37:=bI
 a37:=Tryz.isAgg204
 z37:=Tryz.sizeOf204
 v37:=Tryz.zeroValue204
 t46:=jO
 a46:=Tryz.isAgg189
 z46:=Tryz.sizeOf189
 v46:=Tryz.zeroValue189
 t51:=Tryz.underlying257
 a51:=Tryz.isAgg257
 z51:=Tryz.sizeOf257
 v51:=Tryz.zeroValue257
 t70:=Tryz.underlying334
 a70:=Tryz.isAgg334
 z70:=Tryz.sizeOf334
 v70:=Tryz.zeroValue334
 t72:=Tryz.underlying336
 a72:=Tryz.isAgg336
 z72:=Tryz.sizeOf336
 v72:=Tryz.zeroValue336
 t75:=Tryz.underlying338
 a75:=Tryz.isAgg338
 z75:=Tryz.sizeOf338
 v75:=Tryz.zeroValue338
 t164:=Tryz.underlying363
 a164:=Tryz.isAgg363
 z164:=Tryz.sizeOf363
 v164:=Tryz.zeroValue363}
theorem Tryz.tO:Builder.Extra Tryz.prog Tryz.wy where
 sizeBuilder:=by kernel_rfl
 liesBuilder:=by kernel_rfl
 t5:=cx
 a5:=Tryz.isAgg5
 z5:=Tryz.sizeOf5
 v5:=tw
 infoByte:=by kernel_rfl
 cellsByte:=by kernel_rfl
 sizeByte:=by kernel_rfl
 neB5:=by decide
end Go.Proofs
namespace Go.K
open Go.Proofs
set_option maxRecDepth 10000
open Go.RowKit Go.Shelf
theorem Fq (r:Int) (w:World):Spec Tryz.prog 290 #[.int .i32 r] w (fun v w'=>v= .bool (Lib.validRune r)∧w'=w):=(Any.utf8_ValidRune Tryz.OM r w).mono fun e w' ⟨h1,h2⟩=>⟨_,h1,rfl,h2⟩
theorem Ii {B b:Nat} {bs:List Value} {r:Int} (w:World) (hr: -2147483648≤r∧r≤2147483647) (h:Lib.IsBuilderF 336 5 B b bs w) (hl:bs.length+4≤140737488355328) (hB:B≤w.heap.size):
  Spec Tryz.prog 265 #[.pointer (some ⟨b,0,none⟩),.int .i32 r] w (fun v w'=>Lib.IsBuilderF 336 5 B b (bs++Lib.runeCells r) w'∧Below B w w'):=
 (Any.Builder_WriteRune_k Tryz.OO Tryz.tO B b bs r hr.1 hr.2 w h hl hB).mono fun e w' ⟨h1,h2,h3,_⟩=>⟨_,h1,.inr h2,h3⟩
theorem Ku {B b:Nat} {l:List UInt8} (w:World) (h:Lib.IsBuilderF 336 5 B b (Lib.byteCells l) w) (hB:B≤w.heap.size):
  Spec Tryz.prog 267 #[.pointer (some ⟨b,0,none⟩)] w (fun v w'=>v= .string ⟨l.toArray⟩∧Below B w w'):=
 (Any.Builder_String_any_k Tryz.OL Tryz.tN B b l w h hB).mono fun e w' ⟨h1,_,h3,_⟩=>⟨_,h1,rfl,h3⟩
theorem wrap32 {c:Int} (h:0≤c∧c≤1114111):IntKind.i32.wrap c=c:=by
 show(if(true&&decide (c%4294967296≥2147483648))=true then c%4294967296-4294967296 else c%4294967296)=c;rw[if_neg (by simp only[eT,decide_eq_true_eq];omega)];omega
def tP (c:Int):Int:=if c<0∨c>1114111∨Lib.validRune c=false then 65533 else c
theorem G7 (c:Int):0≤tP c∧tP c≤1114111:=by unfold tP;split<;>omega
def kH (l:List Int):List UInt8:=l.flatMap fun c=>Lib.encodeRune (tP c)
theorem my (l:List Int) (c:Int):kH (l++[c])=kH l++Lib.encodeRune (tP c):=by simp[kH]
theorem OP (r:Int):(Lib.encodeRune r).length≤4:=by have:=(Lib.encodeRuneZ_length r).2;simpa[Lib.encodeRune]using this
theorem gA (l:List Int):(kH l).length≤4*l.length:=by
 induction l with
 |nil=>simp[kH]
 |cons c l ih=>
  have:=OP (tP c);simp only[kH,sm,bg,cD]at ih ⊢;omega
theorem ye (l:List Int) (c:Int):Lib.byteCells (kH l)++Lib.runeCells (tP c)=Lib.byteCells (kH (l++[c])):=by
 rw[my,←Lib.byteCells_encodeRune];simp[Lib.byteCells]
theorem Kv (c:Int) (w0:World):
  Spec Tryz.prog 266 #[.int .i64 c] w0 (fun v w=>v= .int .i32 (tP c)∧w=w0):=by
 refine bc (args:=[_]) (fn:=Tryz.f266) Tryz.func266 rfl (n:=17) Tryz.ntmps266 (aj (ae (ah rfl rfl (ab (aj (aj (ae (ad rfl rfl (cf rfl rfl rfl (ad rfl rfl ?_))))))))));refine aO (g:=5) rfl (fun iJ=>?_) (fun iJ=>?_)
 ·refine ar rfl rfl rfl rfl (ar rfl rfl rfl rfl (aW rfl rfl rfl (ad rfl rfl (ar rfl rfl rfl rfl (ar rfl rfl rfl rfl (ar rfl rfl rfl rfl (ar rfl rfl rfl rfl (aW rfl rfl rfl (ab (lD rfl (aj ?_)))))))))));refine ae (ah rfl rfl (ab (aN ?_)));exact aU rfl rfl ⟨by rw[tP,if_pos (by first|exact .inl (by omega)|exact .inr (.inl (by omega))|exact .inr (.inr (by assumption)))],rfl⟩
 ·refine al rfl rfl (ad rfl rfl (al rfl rfl (jc rfl rfl rfl (aE rfl rfl rfl (ad rfl rfl ?_)))));refine aO (g:=9) rfl (fun Br=>?_) (fun Br=>?_)
  ·refine ar rfl rfl rfl rfl (ar rfl rfl rfl rfl (ar rfl rfl rfl rfl (ar rfl rfl rfl rfl (aW rfl rfl rfl (ab (lD rfl (aj (ae (ah rfl rfl (ab (aN ?_)))))))))));exact aU rfl rfl ⟨by rw[tP,if_pos (by first|exact .inl (by omega)|exact .inr (.inl (by omega))|exact .inr (.inr (by assumption)))],rfl⟩
  ·refine al rfl rfl (ad rfl rfl (al rfl rfl (so aw Tryz.underlying21 rfl rfl (aV (v':= .int .i32 c) (congrArg (Value.int .i32) (wrap32 (by omega))) (al rfl rfl ?_)))));refine aX rfl rfl acM (Fq _ _) (fun r wc hc=>?_);obtain⟨rfl,rfl⟩:=hc;refine al rfl rfl (mS rfl rfl (aV (v':= .bool (decide (Lib.validRune c=false))) (by cases Lib.validRune c<;>rfl) (aE rfl rfl rfl (ab ?_))));refine bP rfl (fun c1=>?_) (fun c1=>?_)
   ·refine aj (ae (ah rfl rfl (ab (aN ?_))));exact aU rfl rfl ⟨by rw[tP,if_pos (by first|exact .inl (by omega)|exact .inr (.inl (by omega))|exact .inr (.inr (by assumption)))],rfl⟩
   ·refine aT (aj (ae (ad rfl rfl (so aw Tryz.underlying21 rfl rfl (aV (v':= .int .i32 c) (congrArg (Value.int .i32) (wrap32 (by omega))) (ah rfl rfl (ab (aN ?_))))))));exact aU rfl rfl ⟨by rw[tP,if_neg (by rintro(h|h|h)<;>first|omega|exact absurd h (by assumption))],rfl⟩
theorem Ij {M:aC} {xs:List Int} {v0:Value} (w0:World) (hM:Lt M w0) (hv:((RT.int .i64).sl).V M w0 xs v0) (hl:xs.length≤1000000):
  Spec Tryz.prog 228 #[v0] w0 (fun v w=>v= .string ⟨(kH xs).toArray⟩∧Step M w0 M w aD):=by
 refine bc (args:=[_]) (fn:=Tryz.f228) Tryz.func228 rfl (n:=17) Tryz.ntmps228 (aj (ae (ah rfl rfl (ab (aj (ae ?_))))));refine ey M ab5 rfl (fun b w1 p1 q1 g1 s1=>?_);have wz:Lib.IsBuilderF 336 5 w0.heap.size b (Lib.byteCells (kH (xs.take 0))) w1:= .of (.inl ⟨p1,.slice none 0 0,g1,World.ownsRow_nil _ _ _ _,by simp[Value.ownBlock]⟩);have S1:Below w0.heap.size w0 w1:=s1.below;refine ab (aj (aj (ae (ad rfl rfl (bJ ao rfl hv rfl (ad rfl rfl (ab (aZ ?_))))))));refine dn (σ:=Nat) (fun k=>[(3,.pointer (some ⟨b,0,none⟩)),(6,v0),(7,.int .i64 (xs.length:Int)),(8,.int .i64 (k:Int))]) (fun k w=>Lib.IsBuilderF 336 5 w0.heap.size b (Lib.byteCells (kH (xs.take k))) w∧Below w0.heap.size w0 w∧k≤xs.length) (fun k=>xs.length-k) 0 (.cons rfl (.cons rfl (.cons rfl (.cons rfl .nil)))) ?_ ?_
 ·exact⟨wz,S1,bG _⟩
 ·rintro k w ⟨hb,S,hk⟩;refine aj (ae (cf rfl rfl rfl (ab (aj ?_))));refine bP rfl (fun c3=>?_) (fun c3=>?_)
  ·refine aT (aj (aZ (aj (ae ?_))));refine cF (M:=M) ao I3 rfl rfl rfl hv (Step.x9 S M).le (by omega) (fun u4 c wC ET=>?_);refine cd (M:=M) aw rfl rfl ET (aq _ _) (fun in4=>?_);refine ah rfl rfl (ab (ae (ad rfl rfl ?_)));refine aX rfl rfl acI (Kv c _) (fun r wc hc=>?_);obtain⟨rfl,rfl⟩:=hc;refine aX rfl rfl acH (Ii _ (by have:=G7 c;omega) hb (by rw[Lib.byteCells_length];have:=gA (xs.take k);rw[bC]at this;omega) S.size) (fun r5 w5 hc=>?_);obtain⟨QI,S5⟩:=hc;have tk:xs.take (k+1)=xs.take k++[c]:=by rw[cb];simp only[ay]at wC;rw[wC];rfl
   rw[ye,←tk]at QI;have S6:=S.trans S5;refine ab (ae (bD rfl rfl rfl (by omega) (ad rfl rfl (ab ?_))));refine⟨rfl,k+1,(.cons rfl (.cons rfl (.cons rfl (.cons rfl .nil)))),?_,?_⟩
   ·exact⟨QI,S6,by omega⟩
   ·omega
  ·refine cL (aj (ae ?_));refine aX rfl rfl acJ (Ku _ hb S.size) (fun r7 w7 hc=>?_);obtain⟨rfl,S7⟩:=hc;refine ah rfl rfl (ab (aN ?_));have e:xs.take k=xs:=br (by omega);rw[e];exact aU rfl rfl ⟨rfl,Step.x9 (S.trans S7) M⟩
end Go.K
namespace Go.K
def nO (c:Int):Int:=if 194≤c∧c<224 then 2 else if 224≤c∧c<240 then 3 else if 240≤c∧c<245 then 4 else 0
def ij (c:Int):Int:=if 194≤c∧c<224 then 128 else if 224≤c∧c<240 then 2048 else if 240≤c∧c<245 then 65536 else 0
def vr (c:Int):Int:=if 194≤c∧c<224 then c-192 else if 224≤c∧c<240 then c-224 else if 240≤c∧c<245 then c-240 else 0
def vO (l:List UInt8):Nat→Int
 |0=>vr (kb l 0)
 |k+1=>64*vO l k+kb l (k+1)-128
theorem hU {l:List UInt8} {k:Nat}:ko l k=true↔k<l.length∧128≤kb l k∧kb l k<192:=by
 unfold ko;simp only[bT,decide_eq_true_eq,beq_iff_eq];omega
theorem Aw {n:Nat}:Utf8.valid (n:Int)=true↔(n<55296∨(57344≤n∧n≤1114111)):=by
 simp only[Utf8.valid,qb,bT,decide_eq_true_eq];omega
theorem Xb {l:List UInt8} (h:(kb l 0:Int)<128):dec l=(kb l 0,1):=by
 unfold dec Fl;rw[if_pos (by omega)]
theorem G8 {l:List UInt8} (h0:128≤(kb l 0:Int)) (h:nO (kb l 0)=0∨∃k:Nat,1≤k∧(k:Int)<nO (kb l 0)∧ko l k=false):dec l=(65533,1):=by
 have hb:=oY l 0;unfold dec Fl;rw[if_neg (by omega)]
 have hk:nO (kb l 0)=0∨(2≤nO (kb l 0)∧ko l 1=false)∨(3≤nO (kb l 0)∧ko l 2=false)∨(4≤nO (kb l 0)∧ko l 3=false):=by
  rcases h with h|⟨k,h1,h2,h3⟩
  ·exact .inl h
  ·have:nO (kb l 0)≤4:=by
    unfold nO
    split
    ·omega
    ·split
     ·omega
     ·split<;>omega
   have hk:k=1∨k=2∨k=3:=by omega
   rcases hk with rfl|rfl|rfl
   ·exact .inr (.inl ⟨by omega,h3⟩)
   ·exact .inr (.inr (.inl ⟨by omega,h3⟩))
   ·exact .inr (.inr (.inr ⟨by omega,h3⟩))
 simp only[beq_iff_eq,bT,decide_eq_true_eq,ge_iff_le,Aw];have hn:nO (kb l 0)=if 194≤(kb l 0:Int)∧(kb l 0:Int)<224 then 2 else if 224≤(kb l 0:Int)∧(kb l 0:Int)<240 then 3 else if 240≤(kb l 0:Int)∧(kb l 0:Int)<245 then 4 else 0:=rfl
 rw[hn]at hk
 split
 ·rename_i hc
  obtain⟨VZ,Kw⟩:=hc
  split
  ·rename_i hv
   exfalso;by_cases amM:194≤(kb l 0:Int)
   ·rw[if_pos (by omega)]at hk;rcases hk with hk|⟨_,hk⟩|⟨hk,_⟩|⟨hk,_⟩
    ·omega
    ·rw[hk]at Kw;cases Kw
    ·omega
    ·omega
   ·omega
  ·rfl
 ·split
  ·rename_i hc
   obtain⟨⟨VZ,Kw⟩,Xc⟩:=hc
   split
   ·exfalso;rw[if_neg (by omega),if_pos (by omega)]at hk;rcases hk with hk|⟨_,hk⟩|⟨_,hk⟩|⟨hk,_⟩
    ·omega
    ·rw[hk]at Kw;cases Kw
    ·rw[hk]at Xc;cases Xc
    ·omega
   ·rfl
  ·split
   ·rename_i hc
    obtain⟨⟨⟨VZ,Kw⟩,Xc⟩,hc4⟩:=hc
    split
    ·rename_i hv
     exfalso;by_cases amN:(kb l 0:Int)<245
     ·rw[if_neg (by omega),if_neg (by omega),if_pos (by omega)]at hk;rcases hk with hk|⟨_,hk⟩|⟨_,hk⟩|⟨_,hk⟩
      ·omega
      ·rw[hk]at Kw;cases Kw
      ·rw[hk]at Xc;cases Xc
      ·rw[hk]at hc4;cases hc4
     ·omega
    ·rfl
   ·rfl
theorem nY {c:Int} (h:nO c≠0):(nO c=2∧ij c=128∧vr c=c-192∧194≤c∧c<224)∨(nO c=3∧ij c=2048∧vr c=c-224∧224≤c∧c<240)∨(nO c=4∧ij c=65536∧vr c=c-240∧240≤c∧c<245):=by
 by_cases h1:194≤c∧c<224
 ·exact .inl ⟨if_pos h1,if_pos h1,if_pos h1,h1.1,h1.2⟩
 ·by_cases h2:224≤c∧c<240
  ·exact .inr (.inl ⟨(if_neg h1).trans (if_pos h2),(if_neg h1).trans (if_pos h2),(if_neg h1).trans (if_pos h2),h2.1,h2.2⟩)
  ·by_cases h3:240≤c∧c<245
   ·exact .inr (.inr ⟨(if_neg h1).trans ((if_neg h2).trans (if_pos h3)),(if_neg h1).trans ((if_neg h2).trans (if_pos h3)),(if_neg h1).trans ((if_neg h2).trans (if_pos h3)),h3.1,h3.2⟩)
   ·exact absurd ((if_neg h1).trans ((if_neg h2).trans (if_neg h3))) h
theorem CX {l:List UInt8} (hn:nO (kb l 0)≠0) (hc:∀k:Nat,1≤k→(k:Int)<nO (kb l 0)→ko l k=true) (v:Int) (hv:v=vO l (nO (kb l 0)-1).toNat):
  dec l=if v<ij (kb l 0)∨v>1114111∨(55296≤v∧v≤57343)then(65533,1)else(v.toNat,(nO (kb l 0)).toNat):=by
 have hb:=oY l 0;have b1:=oY l 1;have b2:=oY l 2;have b3:=oY l 3;unfold dec Fl;simp only[beq_iff_eq,bT,decide_eq_true_eq,ge_iff_le,Aw];rcases nY hn with⟨e1,e2,e3,e4,e5⟩|⟨e1,e2,e3,e4,e5⟩|⟨e1,e2,e3,e4,e5⟩
 ·have c1:=hc 1 (by omega) (by omega);have d1:=hU.1 c1;rw[e1]at hv;have G9:v=64*((kb l 0:Int)-192)+kb l 1-128:=by rw[hv];show 64*vr (kb l 0)+_-_=_;rw[e3]
  rw[if_neg (by omega),if_pos ⟨by omega,c1⟩,e2,e1];by_cases hx:v<128∨v>1114111∨(55296≤v∧v≤57343)
  ·rw[if_pos hx,if_neg (by omega)]
  ·rw[if_neg hx,if_pos (by omega)];simp only[dq];omega
 ·have c1:=hc 1 (by omega) (by omega);have c2:=hc 2 (by omega) (by omega);have d1:=hU.1 c1;have d2:=hU.1 c2;rw[e1]at hv;have G9:v=64*(64*((kb l 0:Int)-224)+kb l 1-128)+kb l 2-128:=by rw[hv];show 64*(64*vr (kb l 0)+_-_)+_-_=_;rw[e3]
  rw[if_neg (by omega),if_neg (by omega),if_pos ⟨⟨by omega,c1⟩,c2⟩,e2,e1];by_cases hx:v<2048∨v>1114111∨(55296≤v∧v≤57343)
  ·rw[if_pos hx,if_neg (by omega)]
  ·rw[if_neg hx,if_pos (by omega)];simp only[dq];omega
 ·have c1:=hc 1 (by omega) (by omega);have c2:=hc 2 (by omega) (by omega);have c3:=hc 3 (by omega) (by omega);have d1:=hU.1 c1;have d2:=hU.1 c2;have d3:=hU.1 c3;rw[e1]at hv;have G9:v=64*(64*(64*((kb l 0:Int)-240)+kb l 1-128)+kb l 2-128)+kb l 3-128:=by rw[hv];show 64*(64*(64*vr (kb l 0)+_-_)+_-_)+_-_=_;rw[e3]
  rw[if_neg (by omega),if_neg (by omega),if_neg (by omega),if_pos ⟨⟨⟨by omega,c1⟩,c2⟩,c3⟩,e2,e1];by_cases hx:v<65536∨v>1114111∨(55296≤v∧v≤57343)
  ·rw[if_pos hx,if_neg (by omega)]
  ·rw[if_neg hx,if_pos (by omega)];simp only[dq];omega
end Go.K
namespace Go.K
open Go.Proofs
set_option maxRecDepth 10000
theorem Bs (c:Int) (w0:World):
  Spec Tryz.prog 285 #[.int .i64 c] w0 (fun v w=>v= .bool (fK c)∧w=w0):=by
 refine bc (args:=[_]) (fn:=Tryz.f285) Tryz.func285 rfl (n:=31) Tryz.ntmps285 (aj (ae (ah rfl rfl (ab (aj (aj (ae (ad rfl rfl (dT rfl rfl rfl (ad rfl rfl ?_))))))))));refine aO (g:=5) rfl (fun iJ=>?_) (fun iJ=>?_)
 ·refine al rfl rfl (ad rfl rfl (al rfl rfl (gN rfl rfl rfl (aW rfl rfl rfl (ad rfl rfl ?_)))));refine aO (g:=9) rfl (fun Br=>?_) (fun Br=>?_)
  ·refine ar rfl rfl rfl rfl (ar rfl rfl rfl rfl (ar rfl rfl rfl rfl (cn rfl rfl rfl (cn rfl rfl rfl (ar rfl rfl rfl rfl (aW rfl rfl rfl (ab (lD rfl (aj (ae (ah rfl rfl ?_)))))))))));refine ab (aN ?_);exact aU rfl rfl ⟨by simp only[fK];first|rfl|(congr 1;first|(exact(decide_eq_true (by omega)).symm)|(exact(decide_eq_false (by omega)).symm)|(exact decide_eq_decide.2 (by omega))),rfl⟩
  ·refine al rfl rfl (ad rfl rfl (al rfl rfl (dT rfl rfl rfl (al rfl rfl (ad rfl rfl ?_)))));refine aO (g:=12) rfl (fun sN=>?_) (fun sN=>?_)
   ·refine al rfl rfl (ad rfl rfl (al rfl rfl (gN rfl rfl rfl (al rfl rfl (aW rfl rfl rfl (aE rfl rfl rfl (ab ?_)))))));refine bP rfl (fun c1=>?_) (fun c1=>?_)
    ·refine aj (ae (ah rfl rfl (ab (aN ?_))));exact aU rfl rfl ⟨by simp only[fK];first|rfl|(congr 1;first|(exact(decide_eq_true (by omega)).symm)|(exact(decide_eq_false (by omega)).symm)|(exact decide_eq_decide.2 (by omega))),rfl⟩
    ·refine aT (aj (ae (ad rfl rfl (dT rfl rfl rfl (ad rfl rfl ?_)))));refine aO (g:=19) rfl (fun Fs=>?_) (fun Fs=>?_)
     ·refine al rfl rfl (ad rfl rfl (al rfl rfl (gN rfl rfl rfl (aW rfl rfl rfl (ad rfl rfl ?_)))));refine aO (g:=23) rfl (fun Ft=>?_) (fun Ft=>?_)
      ·refine al rfl rfl (ad rfl rfl (al rfl rfl (fp rfl rfl rfl (aW rfl rfl rfl (ad rfl rfl ?_)))));refine aO (g:=27) rfl (fun yf=>?_) (fun yf=>?_)
       ·refine al rfl rfl (ad rfl rfl (al rfl rfl (fp rfl rfl rfl (aW rfl rfl rfl (ah rfl rfl (ab (aN ?_)))))));exact aU rfl rfl ⟨by simp only[fK];first|rfl|(congr 1;first|(exact(decide_eq_true (by omega)).symm)|(exact(decide_eq_false (by omega)).symm)|(exact decide_eq_decide.2 (by omega))),rfl⟩
       ·refine ar rfl rfl rfl rfl (ar rfl rfl rfl rfl (aE rfl rfl rfl (ah rfl rfl (ab (aN ?_)))));exact aU rfl rfl ⟨by simp only[fK];first|rfl|(congr 1;first|(exact(decide_eq_true (by omega)).symm)|(exact(decide_eq_false (by omega)).symm)|(exact decide_eq_decide.2 (by omega))),rfl⟩
      ·refine ar rfl rfl rfl rfl (ar rfl rfl rfl rfl (aE rfl rfl rfl (ad rfl rfl (ar rfl rfl rfl rfl (ar rfl rfl rfl rfl (aE rfl rfl rfl (ah rfl rfl (ab (aN ?_)))))))));exact aU rfl rfl ⟨by simp only[fK];first|rfl|(congr 1;first|(exact(decide_eq_true (by omega)).symm)|(exact(decide_eq_false (by omega)).symm)|(exact decide_eq_decide.2 (by omega))),rfl⟩
     ·refine ar rfl rfl rfl rfl (ar rfl rfl rfl rfl (aE rfl rfl rfl (ad rfl rfl (ar rfl rfl rfl rfl (ar rfl rfl rfl rfl (aE rfl rfl rfl (ad rfl rfl (ar rfl rfl rfl rfl (ar rfl rfl rfl rfl (aE rfl rfl rfl (ah rfl rfl ?_)))))))))));refine ab (aN ?_);exact aU rfl rfl ⟨by simp only[fK];first|rfl|(congr 1;first|(exact(decide_eq_true (by omega)).symm)|(exact(decide_eq_false (by omega)).symm)|(exact decide_eq_decide.2 (by omega))),rfl⟩
   ·refine ar rfl rfl rfl rfl (ar rfl rfl rfl rfl (al rfl rfl (aE rfl rfl rfl (aE rfl rfl rfl (ab (jD rfl (aT (aj (ae (ad rfl rfl (dT rfl rfl rfl ?_)))))))))));refine ad rfl rfl ?_;refine aO (g:=19) rfl (fun Fs=>?_) (fun Fs=>?_)
    ·refine al rfl rfl (ad rfl rfl (al rfl rfl (gN rfl rfl rfl (aW rfl rfl rfl (ad rfl rfl ?_)))));refine aO (g:=23) rfl (fun Ft=>?_) (fun Ft=>?_)
     ·refine al rfl rfl (ad rfl rfl (al rfl rfl (fp rfl rfl rfl (aW rfl rfl rfl (ad rfl rfl ?_)))));refine aO (g:=27) rfl (fun yf=>?_) (fun yf=>?_)
      ·refine al rfl rfl (ad rfl rfl (al rfl rfl (fp rfl rfl rfl (aW rfl rfl rfl (ah rfl rfl (ab (aN ?_)))))));exact aU rfl rfl ⟨by simp only[fK];first|rfl|(congr 1;first|(exact(decide_eq_true (by omega)).symm)|(exact(decide_eq_false (by omega)).symm)|(exact decide_eq_decide.2 (by omega))),rfl⟩
      ·refine ar rfl rfl rfl rfl (ar rfl rfl rfl rfl (aE rfl rfl rfl (ah rfl rfl (ab (aN ?_)))));exact aU rfl rfl ⟨by simp only[fK];first|rfl|(congr 1;first|(exact(decide_eq_true (by omega)).symm)|(exact(decide_eq_false (by omega)).symm)|(exact decide_eq_decide.2 (by omega))),rfl⟩
     ·refine ar rfl rfl rfl rfl (ar rfl rfl rfl rfl (aE rfl rfl rfl (ad rfl rfl (ar rfl rfl rfl rfl (ar rfl rfl rfl rfl (aE rfl rfl rfl (ah rfl rfl (ab (aN ?_)))))))));exact aU rfl rfl ⟨by simp only[fK];first|rfl|(congr 1;first|(exact(decide_eq_true (by omega)).symm)|(exact(decide_eq_false (by omega)).symm)|(exact decide_eq_decide.2 (by omega))),rfl⟩
    ·refine ar rfl rfl rfl rfl (ar rfl rfl rfl rfl (aE rfl rfl rfl (ad rfl rfl (ar rfl rfl rfl rfl (ar rfl rfl rfl rfl (aE rfl rfl rfl (ad rfl rfl (ar rfl rfl rfl rfl (ar rfl rfl rfl rfl (aE rfl rfl rfl (ah rfl rfl ?_)))))))))));refine ab (aN ?_);exact aU rfl rfl ⟨by simp only[fK];first|rfl|(congr 1;first|(exact(decide_eq_true (by omega)).symm)|(exact(decide_eq_false (by omega)).symm)|(exact decide_eq_decide.2 (by omega))),rfl⟩
 ·refine ar rfl rfl rfl rfl (ar rfl rfl rfl rfl (aE rfl rfl rfl (ad rfl rfl (al rfl rfl (ad rfl rfl (al rfl rfl (dT rfl rfl rfl (al rfl rfl (ad rfl rfl ?_)))))))));refine aO (g:=12) rfl (fun sN=>?_) (fun sN=>?_)
  ·refine al rfl rfl (ad rfl rfl (al rfl rfl (gN rfl rfl rfl (al rfl rfl (aW rfl rfl rfl (aE rfl rfl rfl (ab ?_)))))));refine bP rfl (fun c1=>?_) (fun c1=>?_)
   ·refine aj (ae (ah rfl rfl (ab (aN ?_))));exact aU rfl rfl ⟨by simp only[fK];first|rfl|(congr 1;first|(exact(decide_eq_true (by omega)).symm)|(exact(decide_eq_false (by omega)).symm)|(exact decide_eq_decide.2 (by omega))),rfl⟩
   ·refine aT (aj (ae (ad rfl rfl (dT rfl rfl rfl (ad rfl rfl ?_)))));refine aO (g:=19) rfl (fun Fs=>?_) (fun Fs=>?_)
    ·refine al rfl rfl (ad rfl rfl (al rfl rfl (gN rfl rfl rfl (aW rfl rfl rfl (ad rfl rfl ?_)))));refine aO (g:=23) rfl (fun Ft=>?_) (fun Ft=>?_)
     ·refine al rfl rfl (ad rfl rfl (al rfl rfl (fp rfl rfl rfl (aW rfl rfl rfl (ad rfl rfl ?_)))));refine aO (g:=27) rfl (fun yf=>?_) (fun yf=>?_)
      ·refine al rfl rfl (ad rfl rfl (al rfl rfl (fp rfl rfl rfl (aW rfl rfl rfl (ah rfl rfl (ab (aN ?_)))))));exact aU rfl rfl ⟨by simp only[fK];first|rfl|(congr 1;first|(exact(decide_eq_true (by omega)).symm)|(exact(decide_eq_false (by omega)).symm)|(exact decide_eq_decide.2 (by omega))),rfl⟩
      ·refine ar rfl rfl rfl rfl (ar rfl rfl rfl rfl (aE rfl rfl rfl (ah rfl rfl (ab (aN ?_)))));exact aU rfl rfl ⟨by simp only[fK];first|rfl|(congr 1;first|(exact(decide_eq_true (by omega)).symm)|(exact(decide_eq_false (by omega)).symm)|(exact decide_eq_decide.2 (by omega))),rfl⟩
     ·refine ar rfl rfl rfl rfl (ar rfl rfl rfl rfl (aE rfl rfl rfl (ad rfl rfl (ar rfl rfl rfl rfl (ar rfl rfl rfl rfl (aE rfl rfl rfl (ah rfl rfl (ab (aN ?_)))))))));exact aU rfl rfl ⟨by simp only[fK];first|rfl|(congr 1;first|(exact(decide_eq_true (by omega)).symm)|(exact(decide_eq_false (by omega)).symm)|(exact decide_eq_decide.2 (by omega))),rfl⟩
    ·refine ar rfl rfl rfl rfl (ar rfl rfl rfl rfl (aE rfl rfl rfl (ad rfl rfl (ar rfl rfl rfl rfl (ar rfl rfl rfl rfl (aE rfl rfl rfl (ad rfl rfl (ar rfl rfl rfl rfl (ar rfl rfl rfl rfl (aE rfl rfl rfl (ah rfl rfl ?_)))))))))));refine ab (aN ?_);exact aU rfl rfl ⟨by simp only[fK];first|rfl|(congr 1;first|(exact(decide_eq_true (by omega)).symm)|(exact(decide_eq_false (by omega)).symm)|(exact decide_eq_decide.2 (by omega))),rfl⟩
  ·refine ar rfl rfl rfl rfl (ar rfl rfl rfl rfl (al rfl rfl (aE rfl rfl rfl (aE rfl rfl rfl (ab (jD rfl (aT (aj (ae (ad rfl rfl (dT rfl rfl rfl ?_)))))))))));refine ad rfl rfl ?_;refine aO (g:=19) rfl (fun Fs=>?_) (fun Fs=>?_)
   ·refine al rfl rfl (ad rfl rfl (al rfl rfl (gN rfl rfl rfl (aW rfl rfl rfl (ad rfl rfl ?_)))));refine aO (g:=23) rfl (fun Ft=>?_) (fun Ft=>?_)
    ·refine al rfl rfl (ad rfl rfl (al rfl rfl (fp rfl rfl rfl (aW rfl rfl rfl (ad rfl rfl ?_)))));refine aO (g:=27) rfl (fun yf=>?_) (fun yf=>?_)
     ·refine al rfl rfl (ad rfl rfl (al rfl rfl (fp rfl rfl rfl (aW rfl rfl rfl (ah rfl rfl (ab (aN ?_)))))));exact aU rfl rfl ⟨by simp only[fK];first|rfl|(congr 1;first|(exact(decide_eq_true (by omega)).symm)|(exact(decide_eq_false (by omega)).symm)|(exact decide_eq_decide.2 (by omega))),rfl⟩
     ·refine ar rfl rfl rfl rfl (ar rfl rfl rfl rfl (aE rfl rfl rfl (ah rfl rfl (ab (aN ?_)))));exact aU rfl rfl ⟨by simp only[fK];first|rfl|(congr 1;first|(exact(decide_eq_true (by omega)).symm)|(exact(decide_eq_false (by omega)).symm)|(exact decide_eq_decide.2 (by omega))),rfl⟩
    ·refine ar rfl rfl rfl rfl (ar rfl rfl rfl rfl (aE rfl rfl rfl (ad rfl rfl (ar rfl rfl rfl rfl (ar rfl rfl rfl rfl (aE rfl rfl rfl (ah rfl rfl (ab (aN ?_)))))))));exact aU rfl rfl ⟨by simp only[fK];first|rfl|(congr 1;first|(exact(decide_eq_true (by omega)).symm)|(exact(decide_eq_false (by omega)).symm)|(exact decide_eq_decide.2 (by omega))),rfl⟩
   ·refine ar rfl rfl rfl rfl (ar rfl rfl rfl rfl (aE rfl rfl rfl (ad rfl rfl (ar rfl rfl rfl rfl (ar rfl rfl rfl rfl (aE rfl rfl rfl (ad rfl rfl (ar rfl rfl rfl rfl (ar rfl rfl rfl rfl (aE rfl rfl rfl (ah rfl rfl ?_)))))))))));refine ab (aN ?_);exact aU rfl rfl ⟨by simp only[fK];first|rfl|(congr 1;first|(exact(decide_eq_true (by omega)).symm)|(exact(decide_eq_false (by omega)).symm)|(exact decide_eq_decide.2 (by omega))),rfl⟩
theorem Fu (c:Int) (w0:World) (hc:0≤c∧c≤1114111):
  Spec Tryz.prog 253 #[.int .i64 c] w0 (fun v w=>v= .int .i64 (fL c)∧w=w0):=by
 refine bc (args:=[_]) (fn:=Tryz.f253) Tryz.func253 rfl (n:=28) Tryz.ntmps253 (aj (ae (ah rfl rfl (ab (aj (aj (ae (ad rfl rfl (dT rfl rfl rfl (ad rfl rfl ?_))))))))));refine aO (g:=5) rfl (fun iJ=>?_) (fun iJ=>?_)
 ·refine al rfl rfl (ad rfl rfl (al rfl rfl (gN rfl rfl rfl (aW rfl rfl rfl (ad rfl rfl ?_)))));refine aO (g:=9) rfl (fun Br=>?_) (fun Br=>?_)
  ·refine ar rfl rfl rfl rfl (ar rfl rfl rfl rfl (ar rfl rfl rfl rfl (cn rfl rfl rfl (cn rfl rfl rfl (ar rfl rfl rfl rfl (aW rfl rfl rfl (ad rfl rfl (ar rfl rfl rfl rfl (ar rfl rfl rfl rfl (ar rfl rfl rfl rfl (cn rfl rfl rfl ?_)))))))))));refine cn rfl rfl rfl (ar rfl rfl rfl rfl (aW rfl rfl rfl (ab (lD rfl (aj (ae (ad rfl rfl (bD rfl rfl rfl (by omega) (ah rfl rfl (ab (aN ?_)))))))))));exact aU rfl rfl ⟨by rw[fL,if_pos (by omega)],rfl⟩
  ·refine al rfl rfl (ad rfl rfl (al rfl rfl (dT rfl rfl rfl (al rfl rfl (ad rfl rfl ?_)))));refine aO (g:=12) rfl (fun sN=>?_) (fun sN=>?_)
   ·refine al rfl rfl (ad rfl rfl (al rfl rfl (gN rfl rfl rfl (al rfl rfl (aW rfl rfl rfl (aE rfl rfl rfl (ad rfl rfl ?_)))))));refine aO (g:=17) rfl (fun yb=>?_) (fun yb=>?_)
    ·refine ar rfl rfl rfl rfl (ar rfl rfl rfl rfl (ar rfl rfl rfl rfl (cn rfl rfl rfl (cn rfl rfl rfl (ar rfl rfl rfl rfl (aW rfl rfl rfl (ab (lD rfl (aj (ae (ad rfl rfl ?_)))))))))));refine bD rfl rfl rfl (by omega) (ah rfl rfl (ab (aN ?_)));exact aU rfl rfl ⟨by rw[fL,if_pos (by omega)],rfl⟩
    ·refine al rfl rfl (ad rfl rfl (al rfl rfl (dT rfl rfl rfl (al rfl rfl (ad rfl rfl ?_)))));refine aO (g:=20) rfl (fun mv=>?_) (fun mv=>?_)
     ·refine al rfl rfl (ad rfl rfl (al rfl rfl (gN rfl rfl rfl (al rfl rfl (aW rfl rfl rfl (aE rfl rfl rfl (ab ?_)))))));refine bP rfl (fun c1=>?_) (fun c1=>?_)
      ·refine aj (ae (ad rfl rfl (bD rfl rfl rfl (by omega) (ah rfl rfl (ab (aN ?_))))));exact aU rfl rfl ⟨by rw[fL,if_pos (by omega)],rfl⟩
      ·refine aT (aj (ae (ad rfl rfl (ah rfl rfl (ab (aN ?_))))));exact aU rfl rfl ⟨by rw[fL,if_neg (by omega)],rfl⟩
     ·refine ar rfl rfl rfl rfl (ar rfl rfl rfl rfl (al rfl rfl (aE rfl rfl rfl (aE rfl rfl rfl (ab (jD rfl (aT (aj (ae (ad rfl rfl (ah rfl rfl ?_)))))))))));refine ab (aN ?_);exact aU rfl rfl ⟨by rw[fL,if_neg (by omega)],rfl⟩
   ·refine ar rfl rfl rfl rfl (ar rfl rfl rfl rfl (al rfl rfl (aE rfl rfl rfl (aE rfl rfl rfl (ad rfl rfl (al rfl rfl (ad rfl rfl (al rfl rfl (dT rfl rfl rfl (al rfl rfl (ad rfl rfl ?_)))))))))));refine aO (g:=20) rfl (fun mv=>?_) (fun mv=>?_)
    ·refine al rfl rfl (ad rfl rfl (al rfl rfl (gN rfl rfl rfl (al rfl rfl (aW rfl rfl rfl (aE rfl rfl rfl (ab ?_)))))));refine bP rfl (fun c1=>?_) (fun c1=>?_)
     ·refine aj (ae (ad rfl rfl (bD rfl rfl rfl (by omega) (ah rfl rfl (ab (aN ?_))))));exact aU rfl rfl ⟨by rw[fL,if_pos (by omega)],rfl⟩
     ·refine aT (aj (ae (ad rfl rfl (ah rfl rfl (ab (aN ?_))))));exact aU rfl rfl ⟨by rw[fL,if_neg (by omega)],rfl⟩
    ·refine ar rfl rfl rfl rfl (ar rfl rfl rfl rfl (al rfl rfl (aE rfl rfl rfl (aE rfl rfl rfl (ab (jD rfl (aT (aj (ae (ad rfl rfl (ah rfl rfl ?_)))))))))));refine ab (aN ?_);exact aU rfl rfl ⟨by rw[fL,if_neg (by omega)],rfl⟩
 ·refine ar rfl rfl rfl rfl (ar rfl rfl rfl rfl (aE rfl rfl rfl (ad rfl rfl (al rfl rfl (ad rfl rfl (al rfl rfl (dT rfl rfl rfl (al rfl rfl (ad rfl rfl ?_)))))))));refine aO (g:=12) rfl (fun sN=>?_) (fun sN=>?_)
  ·refine al rfl rfl (ad rfl rfl (al rfl rfl (gN rfl rfl rfl (al rfl rfl (aW rfl rfl rfl (aE rfl rfl rfl (ad rfl rfl ?_)))))));refine aO (g:=17) rfl (fun yb=>?_) (fun yb=>?_)
   ·refine ar rfl rfl rfl rfl (ar rfl rfl rfl rfl (ar rfl rfl rfl rfl (cn rfl rfl rfl (cn rfl rfl rfl (ar rfl rfl rfl rfl (aW rfl rfl rfl (ab (lD rfl (aj (ae (ad rfl rfl ?_)))))))))));refine bD rfl rfl rfl (by omega) (ah rfl rfl (ab (aN ?_)));exact aU rfl rfl ⟨by rw[fL,if_pos (by omega)],rfl⟩
   ·refine al rfl rfl (ad rfl rfl (al rfl rfl (dT rfl rfl rfl (al rfl rfl (ad rfl rfl ?_)))));refine aO (g:=20) rfl (fun mv=>?_) (fun mv=>?_)
    ·refine al rfl rfl (ad rfl rfl (al rfl rfl (gN rfl rfl rfl (al rfl rfl (aW rfl rfl rfl (aE rfl rfl rfl (ab ?_)))))));refine bP rfl (fun c1=>?_) (fun c1=>?_)
     ·refine aj (ae (ad rfl rfl (bD rfl rfl rfl (by omega) (ah rfl rfl (ab (aN ?_))))));exact aU rfl rfl ⟨by rw[fL,if_pos (by omega)],rfl⟩
     ·refine aT (aj (ae (ad rfl rfl (ah rfl rfl (ab (aN ?_))))));exact aU rfl rfl ⟨by rw[fL,if_neg (by omega)],rfl⟩
    ·refine ar rfl rfl rfl rfl (ar rfl rfl rfl rfl (al rfl rfl (aE rfl rfl rfl (aE rfl rfl rfl (ab (jD rfl (aT (aj (ae (ad rfl rfl (ah rfl rfl ?_)))))))))));refine ab (aN ?_);exact aU rfl rfl ⟨by rw[fL,if_neg (by omega)],rfl⟩
  ·refine ar rfl rfl rfl rfl (ar rfl rfl rfl rfl (al rfl rfl (aE rfl rfl rfl (aE rfl rfl rfl (ad rfl rfl (al rfl rfl (ad rfl rfl (al rfl rfl (dT rfl rfl rfl (al rfl rfl (ad rfl rfl ?_)))))))))));refine aO (g:=20) rfl (fun mv=>?_) (fun mv=>?_)
   ·refine al rfl rfl (ad rfl rfl (al rfl rfl (gN rfl rfl rfl (al rfl rfl (aW rfl rfl rfl (aE rfl rfl rfl (ab ?_)))))));refine bP rfl (fun c1=>?_) (fun c1=>?_)
    ·refine aj (ae (ad rfl rfl (bD rfl rfl rfl (by omega) (ah rfl rfl (ab (aN ?_))))));exact aU rfl rfl ⟨by rw[fL,if_pos (by omega)],rfl⟩
    ·refine aT (aj (ae (ad rfl rfl (ah rfl rfl (ab (aN ?_))))));exact aU rfl rfl ⟨by rw[fL,if_neg (by omega)],rfl⟩
   ·refine ar rfl rfl rfl rfl (ar rfl rfl rfl rfl (al rfl rfl (aE rfl rfl rfl (aE rfl rfl rfl (ab (jD rfl (aT (aj (ae (ad rfl rfl (ah rfl rfl ?_)))))))))));refine ab (aN ?_);exact aU rfl rfl ⟨by rw[fL,if_neg (by omega)],rfl⟩
def xv (c:Int):Bool:=decide (fK c=true∨o5 c=true)
theorem CY (c:Int) (w0:World):
  Spec Tryz.prog 252 #[.int .i64 c] w0 (fun v w=>v= .bool (xv c)∧w=w0):=by
 refine bc (args:=[_]) (fn:=Tryz.f252) Tryz.func252 rfl (n:=13) Tryz.ntmps252 (aj (ae (ah rfl rfl (ab (aj (ae (ad rfl rfl ?_)))))));refine aX rfl rfl acL (Bs _ _) (fun r wc hc=>?_);obtain⟨rfl,rfl⟩:=hc;refine aV (v':= .bool (decide (fK c=true))) (by cases fK c<;>rfl) (ad rfl rfl ?_);refine aO (g:=5) rfl (fun iJ=>?_) (fun iJ=>?_)
 ·refine ar rfl rfl rfl rfl (ar rfl rfl rfl rfl (ar rfl rfl rfl rfl (cn rfl rfl rfl (cn rfl rfl rfl (ar rfl rfl rfl rfl (aW rfl rfl rfl (ah rfl rfl (ab (aN ?_)))))))));have e:(o5 c=true)=(48≤c∧c≤57):=by simp[o5]
  exact aU rfl rfl ⟨by simp only[xv,e];first|(congr 1;first|(exact(decide_eq_true (.inl (by assumption))).symm)|(exact(decide_eq_true (.inr (by omega))).symm)|(exact(decide_eq_false (by rintro(h|h)<;>first|exact absurd h (by assumption)|omega)).symm)|(exact decide_eq_decide.2 ⟨fun h=> .inr (by omega),fun h=>h.elim (fun h=>absurd h (by assumption)) (fun h=>by omega)⟩)),rfl⟩
 ·refine al rfl rfl (ad rfl rfl (al rfl rfl (dT rfl rfl rfl (al rfl rfl (ad rfl rfl ?_)))));refine aO (g:=8) rfl (fun vu=>?_) (fun vu=>?_)
  ·refine al rfl rfl (ad rfl rfl (al rfl rfl (gN rfl rfl rfl (al rfl rfl (aW rfl rfl rfl (aE rfl rfl rfl (ah rfl rfl (ab (aN ?_)))))))));have e:(o5 c=true)=(48≤c∧c≤57):=by simp[o5]
   exact aU rfl rfl ⟨by simp only[xv,e];first|(congr 1;first|(exact(decide_eq_true (.inl (by assumption))).symm)|(exact(decide_eq_true (.inr (by omega))).symm)|(exact(decide_eq_false (by rintro(h|h)<;>first|exact absurd h (by assumption)|omega)).symm)|(exact decide_eq_decide.2 ⟨fun h=> .inr (by omega),fun h=>h.elim (fun h=>absurd h (by assumption)) (fun h=>by omega)⟩)),rfl⟩
  ·refine ar rfl rfl rfl rfl (ar rfl rfl rfl rfl (al rfl rfl (aE rfl rfl rfl (aE rfl rfl rfl (ah rfl rfl (ab (aN ?_)))))));have e:(o5 c=true)=(48≤c∧c≤57):=by simp[o5]
   exact aU rfl rfl ⟨by simp only[xv,e];first|(congr 1;first|(exact(decide_eq_true (.inl (by assumption))).symm)|(exact(decide_eq_true (.inr (by omega))).symm)|(exact(decide_eq_false (by rintro(h|h)<;>first|exact absurd h (by assumption)|omega)).symm)|(exact decide_eq_decide.2 ⟨fun h=> .inr (by omega),fun h=>h.elim (fun h=>absurd h (by assumption)) (fun h=>by omega)⟩)),rfl⟩
theorem SI {l:List UInt8} {c:Int} (hc:c=(kb l 0:Int)) (hn:nO c≠0):∀{k:Nat},(∀j:Nat,1≤j→j<k+1→ko l j=true)→k≤3→0≤vO l k∧vO l k≤100000000:=by
 have key:∀k:Nat,(∀j:Nat,1≤j→j<k+1→ko l j=true)→0≤vO l k∧vO l k≤33*64^k-1:=by
  intro k
  induction k with
  |zero=>
   intro _;have:=nY hn;show 0≤vr (kb l 0:Int)∧vr (kb l 0:Int)≤33*64^0-1;rw[←hc];simp only[Int.pow_zero];omega
  |succ k ih=>
   intro h;have h1:=ih fun j h2 h3=>h j h2 (by omega)
   have h2:=hU.1 (h (k+1) (by omega) (by omega));show 0≤64*vO l k+_-128∧64*vO l k+_-128≤_;rw[Int.pow_succ];omega
 intro k h hk;have:=key k h
 have h3:(64:Int)^k≤262144:=by
  rcases(show k=0∨k=1∨k=2∨k=3 by omega)with rfl|rfl|rfl|rfl<;>decide
 omega
theorem Kx {l:List UInt8} (w0:World) (hl:l≠[]) (hlen:l.length≤1000000):
  Spec Tryz.prog 284 #[.string ⟨l.toArray⟩] w0 (fun v w=>v= .tuple #[.int .i64 ((dec l).1:Int),.int .i64 ((dec l).2:Int)]∧w=w0):=by
 have tz:0<l.length:=oI.2 hl;have hb0:=oY l 0;obtain⟨c,hc⟩:∃c:Int,c=(kb l 0:Int):=⟨_,rfl⟩;have hcr:0≤c∧c<256:=by omega
 refine bc (args:=[_]) (fn:=Tryz.f284) Tryz.func284 rfl (n:=85) Tryz.ntmps284 (aj (ae (ah rfl rfl (ah rfl rfl (ab (aj (ae (ad rfl rfl ?_))))))));refine Rg.G5 (c:=l.getD 0 0) aH rfl rfl rfl (by decide) (by rw[az];show l[0]? =_;rw[au tz];rfl) ?_;refine aV (v':= .int .u8 c) (by rw[hc];rfl) (Rg.uU cx aw rfl rfl (by omega) (ah rfl rfl (ab (aj (aj (ae (ad rfl rfl (cf rfl rfl rfl (ab ?_)))))))));refine bP rfl (fun c2=>?_) (fun c2=>?_)
 ·refine aj (ae (ad rfl rfl (ah rfl rfl (ah rfl rfl (ab (aN ?_))))));exact eU rfl rfl rfl ⟨by rw[Xb (by omega),hc];rfl,rfl⟩
 ·refine aT (aj (ae (ah rfl rfl (ab (aj (ae (ah rfl rfl (ab (aj (ae (ah rfl rfl ?_)))))))))));refine ab ?_;refine T.tG [(0,.string ⟨l.toArray⟩),(4,.int .i64 c),(5,.int .i64 (nO c)),(6,.int .i64 (ij c)),(7,.int .i64 (vr c))] ?_ ?_
  ·refine aj (ae (ad rfl rfl (dT rfl rfl rfl (ad rfl rfl ?_))));refine aO (g:=18) rfl (fun acO=>?_) (fun acO=>?_)
   ·refine al rfl rfl (ad rfl rfl (al rfl rfl (cf rfl rfl rfl (aW rfl rfl rfl (ab ?_)))));refine bP rfl (fun c7=>?_) (fun c7=>?_)
    ·refine aj (ae (ah rfl rfl (ab (aj (ae (ah rfl rfl (ab (ae (ad rfl rfl (fq rfl rfl rfl (by omega) (ah rfl rfl ?_)))))))))));refine ab ?_;exact⟨rfl,rfl,rfl,.cons rfl (.cons rfl (.cons (congrArg (fun z=>some (Value.int .i64 z)) (by first|(exfalso;omega)|(unfold nO;repeat (first|rw[if_pos (by omega)]|rw[if_neg (by omega)])))) (.cons (congrArg (fun z=>some (Value.int .i64 z)) (by first|(exfalso;omega)|(unfold ij;repeat (first|rw[if_pos (by omega)]|rw[if_neg (by omega)])))) (.cons (congrArg (fun z=>some (Value.int .i64 z)) (by first|(exfalso;omega)|(unfold vr;repeat (first|rw[if_pos (by omega)]|rw[if_neg (by omega)])))) (.nil)))))⟩
    ·refine aj (ae (ad rfl rfl (dT rfl rfl rfl (ad rfl rfl ?_))));refine aO (g:=26) rfl (fun Ky=>?_) (fun Ky=>?_)
     ·refine al rfl rfl (ad rfl rfl (al rfl rfl (cf rfl rfl rfl (aW rfl rfl rfl (ab ?_)))));refine bP rfl (fun Fv=>?_) (fun Fv=>?_)
      ·refine aj (ae (ah rfl rfl (ab (aj (ae (ah rfl rfl (ab (ae (ad rfl rfl (fq rfl rfl rfl (by omega) (ah rfl rfl ?_)))))))))));refine ab ?_;exact⟨rfl,rfl,rfl,.cons rfl (.cons rfl (.cons (congrArg (fun z=>some (Value.int .i64 z)) (by first|(exfalso;omega)|(unfold nO;repeat (first|rw[if_pos (by omega)]|rw[if_neg (by omega)])))) (.cons (congrArg (fun z=>some (Value.int .i64 z)) (by first|(exfalso;omega)|(unfold ij;repeat (first|rw[if_pos (by omega)]|rw[if_neg (by omega)])))) (.cons (congrArg (fun z=>some (Value.int .i64 z)) (by first|(exfalso;omega)|(unfold vr;repeat (first|rw[if_pos (by omega)]|rw[if_neg (by omega)])))) (.nil)))))⟩
      ·refine aj (ae (ad rfl rfl (dT rfl rfl rfl (ad rfl rfl ?_))));refine aO (g:=34) rfl (fun yg=>?_) (fun yg=>?_)
       ·refine al rfl rfl (ad rfl rfl (al rfl rfl (cf rfl rfl rfl (aW rfl rfl rfl (ab ?_)))));refine bP rfl (fun OQ=>?_) (fun OQ=>?_)
        ·refine aj (ae (ah rfl rfl (ab (aj (ae (ah rfl rfl (ab (ae (ad rfl rfl (fq rfl rfl rfl (by omega) (ah rfl rfl ?_)))))))))));refine ab ?_;exact⟨rfl,rfl,rfl,.cons rfl (.cons rfl (.cons (congrArg (fun z=>some (Value.int .i64 z)) (by first|(exfalso;omega)|(unfold nO;repeat (first|rw[if_pos (by omega)]|rw[if_neg (by omega)])))) (.cons (congrArg (fun z=>some (Value.int .i64 z)) (by first|(exfalso;omega)|(unfold ij;repeat (first|rw[if_pos (by omega)]|rw[if_neg (by omega)])))) (.cons (congrArg (fun z=>some (Value.int .i64 z)) (by first|(exfalso;omega)|(unfold vr;repeat (first|rw[if_pos (by omega)]|rw[if_neg (by omega)])))) (.nil)))))⟩
        ·refine aT ?_;exact⟨rfl,rfl,rfl,.cons rfl (.cons rfl (.cons (congrArg (fun z=>some (Value.int .i64 z)) (by first|(exfalso;omega)|(unfold nO;repeat (first|rw[if_pos (by omega)]|rw[if_neg (by omega)])))) (.cons (congrArg (fun z=>some (Value.int .i64 z)) (by first|(exfalso;omega)|(unfold ij;repeat (first|rw[if_pos (by omega)]|rw[if_neg (by omega)])))) (.cons (congrArg (fun z=>some (Value.int .i64 z)) (by first|(exfalso;omega)|(unfold vr;repeat (first|rw[if_pos (by omega)]|rw[if_neg (by omega)])))) (.nil)))))⟩
       ·refine ar rfl rfl rfl rfl (ar rfl rfl rfl rfl (aE rfl rfl rfl (ab (jD rfl (aT ?_)))));exact⟨rfl,rfl,rfl,.cons rfl (.cons rfl (.cons (congrArg (fun z=>some (Value.int .i64 z)) (by first|(exfalso;omega)|(unfold nO;repeat (first|rw[if_pos (by omega)]|rw[if_neg (by omega)])))) (.cons (congrArg (fun z=>some (Value.int .i64 z)) (by first|(exfalso;omega)|(unfold ij;repeat (first|rw[if_pos (by omega)]|rw[if_neg (by omega)])))) (.cons (congrArg (fun z=>some (Value.int .i64 z)) (by first|(exfalso;omega)|(unfold vr;repeat (first|rw[if_pos (by omega)]|rw[if_neg (by omega)])))) (.nil)))))⟩
     ·refine ar rfl rfl rfl rfl (ar rfl rfl rfl rfl (aE rfl rfl rfl (ab (jD rfl (aj (ae (ad rfl rfl (dT rfl rfl rfl (ad rfl rfl ?_)))))))));refine aO (g:=34) rfl (fun yg=>?_) (fun yg=>?_)
      ·refine al rfl rfl (ad rfl rfl (al rfl rfl (cf rfl rfl rfl (aW rfl rfl rfl (ab ?_)))));refine bP rfl (fun OQ=>?_) (fun OQ=>?_)
       ·refine aj (ae (ah rfl rfl (ab (aj (ae (ah rfl rfl (ab (ae (ad rfl rfl (fq rfl rfl rfl (by omega) (ah rfl rfl ?_)))))))))));refine ab ?_;exact⟨rfl,rfl,rfl,.cons rfl (.cons rfl (.cons (congrArg (fun z=>some (Value.int .i64 z)) (by first|(exfalso;omega)|(unfold nO;repeat (first|rw[if_pos (by omega)]|rw[if_neg (by omega)])))) (.cons (congrArg (fun z=>some (Value.int .i64 z)) (by first|(exfalso;omega)|(unfold ij;repeat (first|rw[if_pos (by omega)]|rw[if_neg (by omega)])))) (.cons (congrArg (fun z=>some (Value.int .i64 z)) (by first|(exfalso;omega)|(unfold vr;repeat (first|rw[if_pos (by omega)]|rw[if_neg (by omega)])))) (.nil)))))⟩
       ·refine aT ?_;exact⟨rfl,rfl,rfl,.cons rfl (.cons rfl (.cons (congrArg (fun z=>some (Value.int .i64 z)) (by first|(exfalso;omega)|(unfold nO;repeat (first|rw[if_pos (by omega)]|rw[if_neg (by omega)])))) (.cons (congrArg (fun z=>some (Value.int .i64 z)) (by first|(exfalso;omega)|(unfold ij;repeat (first|rw[if_pos (by omega)]|rw[if_neg (by omega)])))) (.cons (congrArg (fun z=>some (Value.int .i64 z)) (by first|(exfalso;omega)|(unfold vr;repeat (first|rw[if_pos (by omega)]|rw[if_neg (by omega)])))) (.nil)))))⟩
      ·refine ar rfl rfl rfl rfl (ar rfl rfl rfl rfl (aE rfl rfl rfl (ab (jD rfl (aT ?_)))));exact⟨rfl,rfl,rfl,.cons rfl (.cons rfl (.cons (congrArg (fun z=>some (Value.int .i64 z)) (by first|(exfalso;omega)|(unfold nO;repeat (first|rw[if_pos (by omega)]|rw[if_neg (by omega)])))) (.cons (congrArg (fun z=>some (Value.int .i64 z)) (by first|(exfalso;omega)|(unfold ij;repeat (first|rw[if_pos (by omega)]|rw[if_neg (by omega)])))) (.cons (congrArg (fun z=>some (Value.int .i64 z)) (by first|(exfalso;omega)|(unfold vr;repeat (first|rw[if_pos (by omega)]|rw[if_neg (by omega)])))) (.nil)))))⟩
   ·refine ar rfl rfl rfl rfl (ar rfl rfl rfl rfl (aE rfl rfl rfl (ab (jD rfl (aj (ae (ad rfl rfl (dT rfl rfl rfl (ad rfl rfl ?_)))))))));refine aO (g:=26) rfl (fun Ky=>?_) (fun Ky=>?_)
    ·refine al rfl rfl (ad rfl rfl (al rfl rfl (cf rfl rfl rfl (aW rfl rfl rfl (ab ?_)))));refine bP rfl (fun Fv=>?_) (fun Fv=>?_)
     ·refine aj (ae (ah rfl rfl (ab (aj (ae (ah rfl rfl (ab (ae (ad rfl rfl (fq rfl rfl rfl (by omega) (ah rfl rfl ?_)))))))))));refine ab ?_;exact⟨rfl,rfl,rfl,.cons rfl (.cons rfl (.cons (congrArg (fun z=>some (Value.int .i64 z)) (by first|(exfalso;omega)|(unfold nO;repeat (first|rw[if_pos (by omega)]|rw[if_neg (by omega)])))) (.cons (congrArg (fun z=>some (Value.int .i64 z)) (by first|(exfalso;omega)|(unfold ij;repeat (first|rw[if_pos (by omega)]|rw[if_neg (by omega)])))) (.cons (congrArg (fun z=>some (Value.int .i64 z)) (by first|(exfalso;omega)|(unfold vr;repeat (first|rw[if_pos (by omega)]|rw[if_neg (by omega)])))) (.nil)))))⟩
     ·refine aj (ae (ad rfl rfl (dT rfl rfl rfl (ad rfl rfl ?_))));refine aO (g:=34) rfl (fun yg=>?_) (fun yg=>?_)
      ·refine al rfl rfl (ad rfl rfl (al rfl rfl (cf rfl rfl rfl (aW rfl rfl rfl (ab ?_)))));refine bP rfl (fun OQ=>?_) (fun OQ=>?_)
       ·refine aj (ae (ah rfl rfl (ab (aj (ae (ah rfl rfl (ab (ae (ad rfl rfl (fq rfl rfl rfl (by omega) (ah rfl rfl ?_)))))))))));refine ab ?_;exact⟨rfl,rfl,rfl,.cons rfl (.cons rfl (.cons (congrArg (fun z=>some (Value.int .i64 z)) (by first|(exfalso;omega)|(unfold nO;repeat (first|rw[if_pos (by omega)]|rw[if_neg (by omega)])))) (.cons (congrArg (fun z=>some (Value.int .i64 z)) (by first|(exfalso;omega)|(unfold ij;repeat (first|rw[if_pos (by omega)]|rw[if_neg (by omega)])))) (.cons (congrArg (fun z=>some (Value.int .i64 z)) (by first|(exfalso;omega)|(unfold vr;repeat (first|rw[if_pos (by omega)]|rw[if_neg (by omega)])))) (.nil)))))⟩
       ·refine aT ?_;exact⟨rfl,rfl,rfl,.cons rfl (.cons rfl (.cons (congrArg (fun z=>some (Value.int .i64 z)) (by first|(exfalso;omega)|(unfold nO;repeat (first|rw[if_pos (by omega)]|rw[if_neg (by omega)])))) (.cons (congrArg (fun z=>some (Value.int .i64 z)) (by first|(exfalso;omega)|(unfold ij;repeat (first|rw[if_pos (by omega)]|rw[if_neg (by omega)])))) (.cons (congrArg (fun z=>some (Value.int .i64 z)) (by first|(exfalso;omega)|(unfold vr;repeat (first|rw[if_pos (by omega)]|rw[if_neg (by omega)])))) (.nil)))))⟩
      ·refine ar rfl rfl rfl rfl (ar rfl rfl rfl rfl (aE rfl rfl rfl (ab (jD rfl (aT ?_)))));exact⟨rfl,rfl,rfl,.cons rfl (.cons rfl (.cons (congrArg (fun z=>some (Value.int .i64 z)) (by first|(exfalso;omega)|(unfold nO;repeat (first|rw[if_pos (by omega)]|rw[if_neg (by omega)])))) (.cons (congrArg (fun z=>some (Value.int .i64 z)) (by first|(exfalso;omega)|(unfold ij;repeat (first|rw[if_pos (by omega)]|rw[if_neg (by omega)])))) (.cons (congrArg (fun z=>some (Value.int .i64 z)) (by first|(exfalso;omega)|(unfold vr;repeat (first|rw[if_pos (by omega)]|rw[if_neg (by omega)])))) (.nil)))))⟩
    ·refine ar rfl rfl rfl rfl (ar rfl rfl rfl rfl (aE rfl rfl rfl (ab (jD rfl (aj (ae (ad rfl rfl (dT rfl rfl rfl (ad rfl rfl ?_)))))))));refine aO (g:=34) rfl (fun yg=>?_) (fun yg=>?_)
     ·refine al rfl rfl (ad rfl rfl (al rfl rfl (cf rfl rfl rfl (aW rfl rfl rfl (ab ?_)))));refine bP rfl (fun OQ=>?_) (fun OQ=>?_)
      ·refine aj (ae (ah rfl rfl (ab (aj (ae (ah rfl rfl (ab (ae (ad rfl rfl (fq rfl rfl rfl (by omega) (ah rfl rfl ?_)))))))))));refine ab ?_;exact⟨rfl,rfl,rfl,.cons rfl (.cons rfl (.cons (congrArg (fun z=>some (Value.int .i64 z)) (by first|(exfalso;omega)|(unfold nO;repeat (first|rw[if_pos (by omega)]|rw[if_neg (by omega)])))) (.cons (congrArg (fun z=>some (Value.int .i64 z)) (by first|(exfalso;omega)|(unfold ij;repeat (first|rw[if_pos (by omega)]|rw[if_neg (by omega)])))) (.cons (congrArg (fun z=>some (Value.int .i64 z)) (by first|(exfalso;omega)|(unfold vr;repeat (first|rw[if_pos (by omega)]|rw[if_neg (by omega)])))) (.nil)))))⟩
      ·refine aT ?_;exact⟨rfl,rfl,rfl,.cons rfl (.cons rfl (.cons (congrArg (fun z=>some (Value.int .i64 z)) (by first|(exfalso;omega)|(unfold nO;repeat (first|rw[if_pos (by omega)]|rw[if_neg (by omega)])))) (.cons (congrArg (fun z=>some (Value.int .i64 z)) (by first|(exfalso;omega)|(unfold ij;repeat (first|rw[if_pos (by omega)]|rw[if_neg (by omega)])))) (.cons (congrArg (fun z=>some (Value.int .i64 z)) (by first|(exfalso;omega)|(unfold vr;repeat (first|rw[if_pos (by omega)]|rw[if_neg (by omega)])))) (.nil)))))⟩
     ·refine ar rfl rfl rfl rfl (ar rfl rfl rfl rfl (aE rfl rfl rfl (ab (jD rfl (aT ?_)))));exact⟨rfl,rfl,rfl,.cons rfl (.cons rfl (.cons (congrArg (fun z=>some (Value.int .i64 z)) (by first|(exfalso;omega)|(unfold nO;repeat (first|rw[if_pos (by omega)]|rw[if_neg (by omega)])))) (.cons (congrArg (fun z=>some (Value.int .i64 z)) (by first|(exfalso;omega)|(unfold ij;repeat (first|rw[if_pos (by omega)]|rw[if_neg (by omega)])))) (.cons (congrArg (fun z=>some (Value.int .i64 z)) (by first|(exfalso;omega)|(unfold vr;repeat (first|rw[if_pos (by omega)]|rw[if_neg (by omega)])))) (.nil)))))⟩
  ·refine aj (aj (ae (ad rfl rfl (k7 rfl rfl rfl (ad rfl rfl ?_)))));refine aO (g:=42) rfl (fun Xd=>?_) (fun Xd=>?_)
   ·refine ar rfl rfl rfl rfl (ar rfl rfl rfl rfl (ar rfl rfl rfl rfl (ar rfl rfl rfl rfl (aW rfl rfl rfl (ab (lD rfl (aj (ae (ah rfl rfl (ah rfl rfl (ab ?_)))))))))));refine aN ?_
    have hx:nO (kb l 0:Int)=0∨∃k:Nat,1≤k∧(k:Int)<nO (kb l 0:Int)∧ko l k=false:=by
     rw[←hc];by_cases h0:nO c=0
     ·exact .inl h0
     ·have hnc:=nY h0;exact .inr ⟨(nO c).toNat-1,by omega,by omega,dd.2 fun h=>by have:=(hU.1 h).1;omega⟩
    have e:dec l=(65533,1):=G8 (by omega) hx;exact eU rfl rfl rfl ⟨by rw[e];rfl,rfl⟩
   ·refine al rfl rfl (ad rfl rfl (al rfl rfl (Rg.nu aH rfl rfl (aV (v':= .int .i64 (l.length:Int)) (by simp[ByteArray.size]) (al rfl rfl (ad rfl rfl (al rfl rfl (cf rfl rfl rfl (aE rfl rfl rfl (ab ?_))))))))));refine bP rfl (fun c19=>?_) (fun c19=>?_)
    ·refine aj (ae (ah rfl rfl (ah rfl rfl (ab (aN ?_)))))
     have hx:nO (kb l 0:Int)=0∨∃k:Nat,1≤k∧(k:Int)<nO (kb l 0:Int)∧ko l k=false:=by
      rw[←hc];by_cases h0:nO c=0
      ·exact .inl h0
      ·have hnc:=nY h0;exact .inr ⟨(nO c).toNat-1,by omega,by omega,dd.2 fun h=>by have:=(hU.1 h).1;omega⟩
     have e:dec l=(65533,1):=G8 (by omega) hx;exact eU rfl rfl rfl ⟨by rw[e];rfl,rfl⟩
    ·refine aT (aj (aj (ae (ah rfl rfl (ab (aZ ?_))))));refine dn (σ:=Nat) (fun i=>[(0,.string ⟨l.toArray⟩),(5,.int .i64 (nO c)),(6,.int .i64 (ij c)),(7,.int .i64 (vO l (i-1))),(8,.int .i64 (i:Int))]) (fun i w=>w=w0∧1≤i∧(i:Int)≤nO c∧∀k:Nat,1≤k→k<i→ko l k=true) (fun i=>(nO c).toNat-i) 1 (.cons rfl (.cons rfl (.cons rfl (.cons (congrArg (fun z=>some (Value.int .i64 z)) (by show vr c=vr (kb l 0:Int);rw[hc])) (.cons rfl .nil))))) ?_ ?_
     ·exact⟨rfl,aR _,by have:=nY (c:=c) (by omega);omega,fun k h1 h2=>by omega⟩
     ·rintro i w ⟨rfl,zy,Ah,hok⟩;have hnc:=nY (c:=c) (by omega)
      have hvr:0≤vO l (i-1)∧vO l (i-1)≤100000000:=by
       exact SI (l:=l) (c:=c) (k:=i-1) hc (by omega) (fun j h1 h2=>hok j h1 (by omega)) (by omega)
      refine aj (aj (ae (ad rfl rfl (ad rfl rfl (cf rfl rfl rfl (ab ?_))))));refine bP rfl (fun c22=>?_) (fun c22=>?_)
      ·refine aT (aj (aZ (aj (ae (ad rfl rfl (ad rfl rfl ?_))))));have kq:i<l.length:=by omega
       refine Rg.G5 (c:=l.getD i 0) aH rfl rfl rfl (by omega) (by rw[az,ay,au kq];rfl) ?_;refine aV (v':= .int .u8 (kb l i:Int)) rfl ?_;have QK:=oY l i;refine Rg.uU cx aw rfl rfl (by omega) (ah rfl rfl (ab (aj (aj (ae (ad rfl rfl (cf rfl rfl rfl (ad rfl rfl ?_))))))));refine aO (g:=59) rfl (fun Xe=>?_) (fun Xe=>?_)
       ·refine ar rfl rfl rfl rfl (ar rfl rfl rfl rfl (aW rfl rfl rfl (ab (lD rfl (aj (ae (ah rfl rfl (ah rfl rfl (ab (aN ?_))))))))))
        have hx:nO (kb l 0:Int)=0∨∃k:Nat,1≤k∧(k:Int)<nO (kb l 0:Int)∧ko l k=false:=by
         rw[←hc];exact .inr ⟨i,zy,by omega,dd.2 fun h=>by have:=hU.1 h;omega⟩
        have e:dec l=(65533,1):=G8 (by omega) hx;exact eU rfl rfl rfl ⟨by rw[e];rfl,rfl⟩
       ·refine al rfl rfl (ad rfl rfl (al rfl rfl (dT rfl rfl rfl (aE rfl rfl rfl (ab ?_)))));refine bP rfl (fun c25=>?_) (fun c25=>?_)
        ·refine aj (ae (ah rfl rfl (ah rfl rfl (ab (aN ?_)))))
         have hx:nO (kb l 0:Int)=0∨∃k:Nat,1≤k∧(k:Int)<nO (kb l 0:Int)∧ko l k=false:=by
          rw[←hc];exact .inr ⟨i,zy,by omega,dd.2 fun h=>by have:=hU.1 h;omega⟩
         have e:dec l=(65533,1):=G8 (by omega) hx;exact eU rfl rfl rfl ⟨by rw[e];rfl,rfl⟩
        ·refine aT (ae (ad rfl rfl (Rg.Ol rfl rfl rfl (by omega) (ad rfl rfl (bD rfl rfl rfl (by omega) (fq rfl rfl rfl (by omega) (ah rfl rfl (ab (ae (ad rfl rfl (bD rfl rfl rfl (by omega) ?_)))))))))));refine ah rfl rfl (ab ?_);refine⟨rfl,i+1,(.cons rfl (.cons rfl (.cons rfl (.cons (congrArg (fun z=>some (Value.int .i64 z)) (by obtain⟨q,rfl⟩:∃q,i=q+1:=⟨i-1,by omega⟩;rfl)) (.cons rfl .nil))))),?_,?_⟩
         ·exact⟨rfl,by omega,by omega,fun k h1 h2=>by
           rcases cJ k i with h|h
           ·exact hok k h1 h
           ·obtain rfl:k=i:=by omega
            exact hU.2 (by omega)⟩
         ·omega
      ·refine cL (aj (aj (ae (ad rfl rfl (ad rfl rfl (cf rfl rfl rfl (ad rfl rfl ?_)))))));refine aO (g:=71) rfl (fun Xf=>?_) (fun Xf=>?_)
       ·refine ar rfl rfl rfl rfl (ar rfl rfl rfl rfl (aW rfl rfl rfl (ad rfl rfl (ar rfl rfl rfl rfl (ar rfl rfl rfl rfl (ar rfl rfl rfl rfl (cn rfl rfl rfl (cn rfl rfl rfl (ar rfl rfl rfl rfl (aW rfl rfl rfl (ab ?_)))))))))));refine lD rfl (aj (ae (ah rfl rfl (ah rfl rfl (ab (aN ?_))))));have e:=CX (l:=l) (by rw[←hc];omega) (by rw[←hc];exact fun k h1 h2=>hok k h1 (by omega)) (vO l (i-1)) (by rw[←hc];congr 1;omega);rw[←hc,if_pos (by omega)]at e;exact eU rfl rfl rfl ⟨by rw[e];rfl,rfl⟩
       ·refine al rfl rfl (ad rfl rfl (al rfl rfl (jc rfl rfl rfl (aE rfl rfl rfl (ad rfl rfl ?_)))));refine aO (g:=75) rfl (fun Xg=>?_) (fun Xg=>?_)
        ·refine ar rfl rfl rfl rfl (ar rfl rfl rfl rfl (ar rfl rfl rfl rfl (cn rfl rfl rfl (cn rfl rfl rfl (ar rfl rfl rfl rfl (aW rfl rfl rfl (ab (lD rfl (aj (ae (ah rfl rfl ?_)))))))))));refine ah rfl rfl (ab (aN ?_));have e:=CX (l:=l) (by rw[←hc];omega) (by rw[←hc];exact fun k h1 h2=>hok k h1 (by omega)) (vO l (i-1)) (by rw[←hc];congr 1;omega);rw[←hc,if_pos (by omega)]at e;exact eU rfl rfl rfl ⟨by rw[e];rfl,rfl⟩
        ·refine al rfl rfl (ad rfl rfl (al rfl rfl (dT rfl rfl rfl (al rfl rfl (ad rfl rfl ?_)))));refine aO (g:=78) rfl (fun SJ=>?_) (fun SJ=>?_)
         ·refine al rfl rfl (ad rfl rfl (al rfl rfl (gN rfl rfl rfl (al rfl rfl (aW rfl rfl rfl (aE rfl rfl rfl (ab ?_)))))));refine bP rfl (fun c28=>?_) (fun c28=>?_)
          ·refine aj (ae (ah rfl rfl (ah rfl rfl (ab (aN ?_)))));have e:=CX (l:=l) (by rw[←hc];omega) (by rw[←hc];exact fun k h1 h2=>hok k h1 (by omega)) (vO l (i-1)) (by rw[←hc];congr 1;omega);rw[←hc,if_pos (by omega)]at e;exact eU rfl rfl rfl ⟨by rw[e];rfl,rfl⟩
          ·refine aT (aj (ae (ad rfl rfl (ad rfl rfl (ah rfl rfl (ah rfl rfl (ab (aN ?_))))))));have e:=CX (l:=l) (by rw[←hc];omega) (by rw[←hc];exact fun k h1 h2=>hok k h1 (by omega)) (vO l (i-1)) (by rw[←hc];congr 1;omega);rw[←hc,if_neg (by omega)]at e;exact eU rfl rfl rfl ⟨by rw[e];simp only[];rw[zt hvr.1,zt (by omega)],rfl⟩
         ·refine ar rfl rfl rfl rfl (ar rfl rfl rfl rfl (al rfl rfl (aE rfl rfl rfl (aE rfl rfl rfl (ab (jD rfl (aT (aj (ae (ad rfl rfl (ad rfl rfl ?_)))))))))));refine ah rfl rfl (ah rfl rfl (ab (aN ?_)));have e:=CX (l:=l) (by rw[←hc];omega) (by rw[←hc];exact fun k h1 h2=>hok k h1 (by omega)) (vO l (i-1)) (by rw[←hc];congr 1;omega);rw[←hc,if_neg (by omega)]at e;exact eU rfl rfl rfl ⟨by rw[e];simp only[];rw[zt hvr.1,zt (by omega)],rfl⟩
theorem CZ {M:aC} {l:List UInt8} (w0:World) (hM:Lt M w0) (hl:l.length≤1000000):
  Spec Tryz.prog 251 #[.string ⟨l.toArray⟩] w0 (fun v w=>((RT.int .i64).sl).V M w (fx l) v∧Step M w0 M w aD):=by
 have lC:=hM;refine bc (args:=[_]) (fn:=Tryz.f251) Tryz.func251 rfl (n:=22) Tryz.ntmps251 ?_;have S:Step M w0 M w0 aD:=(ax _ _).cG (fun _ h=>h.elim) (fun _ h=>h.elim);refine aj (ae (ah rfl rfl (ab (aj (ae (ah rfl rfl (ab (aj (aZ ?_)))))))));refine dn (σ:=Nat×List Int×Value) (fun q=>[(0,.string ⟨(l.drop q.1).toArray⟩),(3,q.2.2)]) (fun q w=>∃M',Lt M' w∧Step M w0 M' w aD∧Own (RT.int .i64) 3 M' w w0.heap.size q.2.2 q.2.1∧fx l=q.2.1++fx (l.drop q.1)∧q.1≤l.length) (fun q=>l.length-q.1) (0,[],.slice none 0 0) (.cons rfl (.cons rfl .nil)) ?_ ?_
 ·exact⟨M,hM,S,dE _ _ _ _ _,by simp,by simp⟩
 ·rintro⟨p,xs,u⟩ w ⟨M1,hM,S,ho,yh,hp⟩;dsimp only at ho yh hp ⊢;refine aj (aj (ae (ad rfl rfl (Rg.nu aH rfl rfl (aV (v':= .int .i64 ((l.drop p).length:Int)) (by simp[ByteArray.size]) (jc rfl rfl rfl (ab ?_)))))));refine bP rfl (fun c2=>?_) (fun c2=>?_)
  ·refine aT (aZ (aj (ae (ad rfl rfl ?_))));have eN:l.drop p≠[]:=by intro h;rw[h]at c2;simp at c2
   have tu:p<l.length:=by have:=oI.2 eN;rw[dw]at this;omega
   have hwd:=lZ eN;refine aX rfl rfl acK (Kx (l:=l.drop p) _ eN (by rw[dw];omega)) (fun r3 w3 hc=>?_);obtain⟨rfl,rfl⟩:=hc;refine ad rfl rfl (bK rfl rfl rfl (bK rfl rfl rfl (ah rfl rfl (ah rfl rfl (ab (aj (ae (ad rfl rfl (ad rfl rfl ?_)))))))));refine dQ (A:=RT.int .i64) (hn:=by decide) (M:=M1) ao I3 (by decide) rfl rfl hM (gm (by have:=vf (l.drop p);omega)) (.inr ⟨rfl,rfl⟩) (fun Xh OR nZ mz=>?_);replace ho:=ho.aM mz;replace hM:=mz.lt hM;have:=S.size;replace S:=S.aB mz;refine cX (M:=M1) (base:=w0.heap.size) ao I3 rfl rfl rfl rfl ho nZ (aq _ _) (by simp;have:=iV l;rw[yh]at this;simp at this;omega) (by simp;have:=iV l;rw[yh]at this;simp at this;omega) (S.size) (fun SK acR amR Xi SL=>?_);replace nZ:=nZ.le SL.le;replace hM:=SL.lt hM;have:=S.size;replace S:=S.dm SL ho (aR _);replace ho:=Xi;refine ah rfl rfl (ab (ae (ad rfl rfl (ad rfl rfl (Rg.OK aH rfl rfl rfl (by omega) (aV (v':= .string ⟨(l.drop (p+(dec (l.drop p)).2)).toArray⟩) (by rw[List.drop_drop];simp) (ah rfl rfl (ab ?_))))))));refine⟨rfl,(p+(dec (l.drop p)).2,xs++[((dec (l.drop p)).1:Int)],SK),(.cons rfl (.cons rfl .nil)),?_,?_⟩
   ·refine⟨acR,hM,S,ho,?_,?_⟩
    ·rw[yh,sM eN,List.drop_drop];simp
    ·have:=hwd.2;rw[dw]at this;dsimp only;omega
   ·have:=hwd.1;have:=hwd.2;rw[dw]at this;dsimp only;omega
  ·refine cL (aj (ae (ad rfl rfl (ah rfl rfl (ab (aN ?_))))));have e:fx l=xs:=by rw[yh,gQ (by simp at c2;omega),vg];simp
   rw[e];have:=iV l;rw[e]at this;exact aU rfl rfl ⟨ho.close lC S (by omega),S.back⟩
theorem rT {M:aC} {w:World} {x:Int} (h:0≤x∧x<256):RT.u8.V M w x.toNat.toUInt8 (.int .u8 (IntKind.u8.wrap x)):=by
 have e1:IntKind.u8.wrap x=x:=by
  show(if(false&&decide (x%256≥128))=true then x%256-256 else x%256)=x;rw[if_neg (by simp)];omega
 have e2:((x.toNat.toUInt8).toNat:Int)=x:=by
  have:x.toNat.toUInt8.toNat=x.toNat%256:=UInt8.toNat_ofNat' ..;omega
 rw[e1];exact⟨[.int .u8 x],by show _=_;rw[e2],rfl⟩
theorem acS {r:Int} (h:0≤r∧r<128):Lib.encodeRune r=[r.toNat.toUInt8]:=by rw[Lib.encodeRune,Lib.encodeRuneZ_one h.1 (by omega)];rfl
theorem acT {r:Int} (h:128≤r∧r<2048):Lib.encodeRune r=[(192+r/64).toNat.toUInt8,(128+r%64).toNat.toUInt8]:=by rw[Lib.encodeRune,Lib.encodeRuneZ_two h.1 (by omega)];rfl
theorem Ik (c:Int):tP c<55296∨57343<tP c:=by
 unfold tP
 split
 ·omega
 ·rename_i h
  have h2:Lib.validRune c=true:=by
   cases hv:Lib.validRune c with
   |true=>rfl
   |false=>exact absurd (.inr (.inr hv)) h
  simp only[Lib.validRune,decide_eq_true_eq]at h2;omega
theorem acU {r:Int} (h:2048≤r∧r<65536) (h2:r<55296∨57343<r):Lib.encodeRune r=[(224+r/4096).toNat.toUInt8,(128+r/64%64).toNat.toUInt8,(128+r%64).toNat.toUInt8]:=by rw[Lib.encodeRune,Lib.encodeRuneZ_three (by omega)];rfl
theorem acV {r:Int} (h:65536≤r∧r≤1114111):Lib.encodeRune r=[(240+r/262144).toNat.toUInt8,(128+r/4096%64).toNat.toUInt8,(128+r/64%64).toNat.toUInt8,(128+r%64).toNat.toUInt8]:=by rw[Lib.encodeRune,Lib.encodeRuneZ_four h.1 h.2];rfl
theorem tQ {c:Int} (h:c<0∨c>1114111∨(55296≤c∧c≤57343)):tP c=65533:=by
 rw[tP,if_pos];rcases h with h|h|h
 ·exact .inl h
 ·exact .inr (.inl h)
 ·refine .inr (.inr ?_);simp only[Lib.validRune,decide_eq_false_iff_not];omega
theorem qt {c:Int} (h: ¬(c<0∨c>1114111∨(55296≤c∧c≤57343))):tP c=c:=by
 rw[tP,if_neg];rintro(h1|h1|h1)
 ·omega
 ·omega
 ·simp only[Lib.validRune,decide_eq_false_iff_not]at h1;omega
theorem yi {M:aC} {xs:List Int} {v0:Value} (w0:World) (hM:Lt M w0) (hv:((RT.int .i64).sl).V M w0 xs v0) (hl:xs.length≤1000000):
  Spec Tryz.prog 254 #[v0] w0 (fun v w=>v= .string ⟨(kH xs).toArray⟩∧Step M w0 M w aD):=by
 have lC:=hM;refine bc (args:=[_]) (fn:=Tryz.f254) Tryz.func254 rfl (n:=91) Tryz.ntmps254 ?_;have S:Step M w0 M w0 aD:=(ax _ _).cG (fun _ h=>h.elim) (fun _ h=>h.elim);refine aj (ae (ah rfl rfl (ab (aj (ae (ah rfl rfl (ab (aj (aj (ae (ah rfl rfl ?_)))))))))));refine ab (aZ ?_);refine dn (σ:=Nat×Value) (fun q=>[(0,v0),(3,q.2),(4,.int .i64 (q.1:Int))]) (fun q w=>∃M',Lt M' w∧Step M w0 M' w aD∧Own RT.u8 5 M' w w0.heap.size q.2 (kH (xs.take q.1))∧((RT.int .i64).sl).V M' w xs v0∧q.1≤xs.length) (fun q=>xs.length-q.1) (0,.slice none 0 0) (.cons rfl (.cons rfl (.cons rfl .nil))) ?_ ?_
 ·exact⟨M,hM,S,dE _ _ _ _ _,hv,bG _⟩
 ·rintro⟨k,u⟩ w ⟨M1,hM,S,ho,hv,hk⟩;dsimp only at ho hk ⊢;refine aj (aj (ae (ad rfl rfl (ad rfl rfl (bJ ao rfl hv rfl (cf rfl rfl rfl (ab ?_)))))));refine bP rfl (fun c3=>?_) (fun c3=>?_)
  ·refine aT (aj (aZ (aj (ae (ad rfl rfl (ad rfl rfl ?_))))));refine cF (M:=M1) ao I3 rfl rfl rfl hv (aq _ _) (by omega) (fun u5 c Il zL=>?_);refine cd (M:=M1) aw rfl rfl zL (aq _ _) (fun in5=>?_);have tk:xs.take (k+1)=xs.take k++[c]:=by rw[cb];simp only[ay]at Il;rw[Il];rfl
   have hsr:=G7 c;have hsc:=Ik c;refine ah rfl rfl (ab ?_);refine T.tG [(0,v0),(3,u),(4,.int .i64 (k:Int)),(5,.int .i64 (tP c))] ?_ ?_
   ·refine aj (ae (ad rfl rfl (cf rfl rfl rfl (ad rfl rfl ?_))));refine aO (g:=18) rfl (fun SM=>?_) (fun SM=>?_)
    ·refine ar rfl rfl rfl rfl (ar rfl rfl rfl rfl (aW rfl rfl rfl (ad rfl rfl (ar rfl rfl rfl rfl (ar rfl rfl rfl rfl (ar rfl rfl rfl rfl (cn rfl rfl rfl (cn rfl rfl rfl (ar rfl rfl rfl rfl (aW rfl rfl rfl (ab ?_)))))))))));refine lD rfl (ae (ah rfl rfl (ab ?_)));exact⟨rfl,rfl,rfl,.cons rfl (.cons rfl (.cons rfl (.cons (congrArg (fun z=>some (Value.int .i64 z)) (by first|exact(tQ (by omega)).symm|exact(qt (by omega)).symm)) (.nil))))⟩
    ·refine al rfl rfl (ad rfl rfl (al rfl rfl (jc rfl rfl rfl (aE rfl rfl rfl (ad rfl rfl ?_)))));refine aO (g:=22) rfl (fun acW=>?_) (fun acW=>?_)
     ·refine ar rfl rfl rfl rfl (ar rfl rfl rfl rfl (ar rfl rfl rfl rfl (cn rfl rfl rfl (cn rfl rfl rfl (ar rfl rfl rfl rfl (aW rfl rfl rfl (ab (lD rfl (ae (ah rfl rfl (ab ?_)))))))))));exact⟨rfl,rfl,rfl,.cons rfl (.cons rfl (.cons rfl (.cons (congrArg (fun z=>some (Value.int .i64 z)) (by first|exact(tQ (by omega)).symm|exact(qt (by omega)).symm)) (.nil))))⟩
     ·refine al rfl rfl (ad rfl rfl (al rfl rfl (dT rfl rfl rfl (al rfl rfl (ad rfl rfl ?_)))));refine aO (g:=25) rfl (fun acX=>?_) (fun acX=>?_)
      ·refine al rfl rfl (ad rfl rfl (al rfl rfl (gN rfl rfl rfl (al rfl rfl (aW rfl rfl rfl (aE rfl rfl rfl (ab ?_)))))));refine bP rfl (fun c6=>?_) (fun c6=>?_)
       ·refine ae (ah rfl rfl (ab ?_));exact⟨rfl,rfl,rfl,.cons rfl (.cons rfl (.cons rfl (.cons (congrArg (fun z=>some (Value.int .i64 z)) (by first|exact(tQ (by omega)).symm|exact(qt (by omega)).symm)) (.nil))))⟩
       ·refine aT ?_;exact⟨rfl,rfl,rfl,.cons rfl (.cons rfl (.cons rfl (.cons (congrArg (fun z=>some (Value.int .i64 z)) (by first|exact(tQ (by omega)).symm|exact(qt (by omega)).symm)) (.nil))))⟩
      ·refine ar rfl rfl rfl rfl (ar rfl rfl rfl rfl (al rfl rfl (aE rfl rfl rfl (aE rfl rfl rfl (ab (jD rfl (aT ?_)))))));exact⟨rfl,rfl,rfl,.cons rfl (.cons rfl (.cons rfl (.cons (congrArg (fun z=>some (Value.int .i64 z)) (by first|exact(tQ (by omega)).symm|exact(qt (by omega)).symm)) (.nil))))⟩
   ·refine aj (ae (ad rfl rfl (cf rfl rfl rfl (ab ?_))));refine bP rfl (fun c8=>?_) (fun c8=>?_)
    ·refine ae (ad rfl rfl (ad rfl rfl (so aw cx rfl rfl ?_)));refine dQ (A:=RT.u8) (hn:=by decide) (M:=M1) bI I5 (by decide) rfl rfl hM (rT (by omega)) (.inr ⟨rfl,rfl⟩) (fun amT Xj Kz qu=>?_);replace hv:=hv.le qu.le;replace ho:=ho.aM qu;replace hM:=qu.lt hM;have:=S.size;replace S:=S.aB qu;refine cX (M:=M1) (base:=w0.heap.size) bI I5 rfl rfl rfl rfl ho Kz (aq _ _) (by have:=gA (xs.take k);rw[bC]at this;simp;omega) (by have:=gA (xs.take k);rw[bC]at this;simp;omega) (S.size) (fun SN acY Xk Xl pT=>?_);replace hv:=hv.le pT.le;replace Kz:=Kz.le pT.le;replace hM:=pT.lt hM;have:=S.size;replace S:=S.dm pT ho (aR _);replace ho:=Xl;refine ah rfl rfl (ab (ae (ad rfl rfl (bD rfl rfl rfl (by omega) (ah rfl rfl (ab ?_))))));refine⟨rfl,(k+1,SN),(.cons rfl (.cons rfl (.cons rfl .nil))),?_,?_⟩
     ·exact⟨acY,hM,S,by rw[tk,my,acS (by omega)];exact ho,hv,by dsimp only;omega⟩
     ·dsimp only;omega
    ·refine aj (ae (ad rfl rfl (cf rfl rfl rfl (ab ?_))));refine bP rfl (fun c10=>?_) (fun c10=>?_)
     ·refine ae (ad rfl rfl (ad rfl rfl (Rg.zE rfl rfl rfl (by omega) (bD rfl rfl rfl (by omega) (so aw cx rfl rfl (ad rfl rfl (Rg.zF rfl rfl rfl (by omega) (bD rfl rfl rfl (by omega) (so aw cx rfl rfl ?_)))))))));refine Rg.NX (A:=RT.u8) (hn:=by decide) (M:=M1) (xs:=[(192+tP c/64).toNat.toUInt8,(128+tP c%64).toNat.toUInt8]) bI I5 rfl (by decide) rfl ⟨_,_,_,rfl,rfl,rfl,rT (by omega),_,_,_,rfl,rfl,rfl,rT (by omega),rfl⟩ rfl hM (.inr ⟨rfl,rfl⟩) (by decide) (fun aiS aiT Fw Ha=>?_);replace hv:=hv.le Ha.le;replace ho:=ho.aM Ha;replace hM:=Ha.lt hM;have:=S.size;replace S:=S.aB Ha;refine cX (M:=M1) (base:=w0.heap.size) bI I5 rfl rfl rfl rfl ho Fw (aq _ _) (by have:=gA (xs.take k);rw[bC]at this;simp;omega) (by have:=gA (xs.take k);rw[bC]at this;simp;omega) (S.size) (fun SO SP ac0 OS Bt=>?_);replace hv:=hv.le Bt.le;replace Fw:=Fw.le Bt.le;replace hM:=Bt.lt hM;have:=S.size;replace S:=S.dm Bt ho (aR _);replace ho:=OS;refine ah rfl rfl (ab (ae (ad rfl rfl (bD rfl rfl rfl (by omega) (ah rfl rfl (ab ?_))))));refine⟨rfl,(k+1,SO),(.cons rfl (.cons rfl (.cons rfl .nil))),?_,?_⟩
      ·exact⟨SP,hM,S,by rw[tk,my,acT (by omega)];exact ho,hv,by dsimp only;omega⟩
      ·dsimp only;omega
     ·refine aj (ae (ad rfl rfl (cf rfl rfl rfl (ab ?_))));refine bP rfl (fun SQ=>?_) (fun SQ=>?_)
      ·refine ae (ad rfl rfl (ad rfl rfl (Rg.zE rfl rfl rfl (by omega) (bD rfl rfl rfl (by omega) (so aw cx rfl rfl (ad rfl rfl (Rg.zE rfl rfl rfl (by omega) (Rg.zF rfl rfl rfl (by omega) (bD rfl rfl rfl (by omega) (so aw cx rfl rfl (ad rfl rfl ?_)))))))))));refine Rg.zF rfl rfl rfl (by omega) (bD rfl rfl rfl (by omega) (so aw cx rfl rfl ?_));refine Rg.NX (A:=RT.u8) (hn:=by decide) (M:=M1) (xs:=[(224+tP c/4096).toNat.toUInt8,(128+tP c/64%64).toNat.toUInt8,(128+tP c%64).toNat.toUInt8]) bI I5 rfl (by decide) rfl ⟨_,_,_,rfl,rfl,rfl,rT (by omega),_,_,_,rfl,rfl,rfl,rT (by omega),_,_,_,rfl,rfl,rfl,rT (by omega),rfl⟩ rfl hM (.inr ⟨rfl,rfl⟩) (by decide) (fun ac1 ac2 Bu Bv=>?_);replace hv:=hv.le Bv.le;replace ho:=ho.aM Bv;replace hM:=Bv.lt hM;have:=S.size;replace S:=S.aB Bv;refine cX (M:=M1) (base:=w0.heap.size) bI I5 rfl rfl rfl rfl ho Bu (aq _ _) (by have:=gA (xs.take k);rw[bC]at this;simp;omega) (by have:=gA (xs.take k);rw[bC]at this;simp;omega) (S.size) (fun SR SU ac3 OT Bw=>?_);replace hv:=hv.le Bw.le;replace Bu:=Bu.le Bw.le;replace hM:=Bw.lt hM;have:=S.size;replace S:=S.dm Bw ho (aR _);replace ho:=OT;refine ah rfl rfl (ab (ae (ad rfl rfl (bD rfl rfl rfl (by omega) (ah rfl rfl (ab ?_))))));refine⟨rfl,(k+1,SR),(.cons rfl (.cons rfl (.cons rfl .nil))),?_,?_⟩
       ·exact⟨SU,hM,S,by rw[tk,my,acU (by omega) hsc];exact ho,hv,by dsimp only;omega⟩
       ·dsimp only;omega
      ·refine ae (ad rfl rfl (ad rfl rfl (Rg.zE rfl rfl rfl (by omega) (bD rfl rfl rfl (by omega) (so aw cx rfl rfl (ad rfl rfl (Rg.zE rfl rfl rfl (by omega) (Rg.zF rfl rfl rfl (by omega) (bD rfl rfl rfl (by omega) (so aw cx rfl rfl (ad rfl rfl ?_)))))))))));refine Rg.zE rfl rfl rfl (by omega) (Rg.zF rfl rfl rfl (by omega) (bD rfl rfl rfl (by omega) (so aw cx rfl rfl (ad rfl rfl (Rg.zF rfl rfl rfl (by omega) (bD rfl rfl rfl (by omega) (so aw cx rfl rfl ?_)))))));refine Rg.NX (A:=RT.u8) (hn:=by decide) (M:=M1) (xs:=[(240+tP c/262144).toNat.toUInt8,(128+tP c/4096%64).toNat.toUInt8,(128+tP c/64%64).toNat.toUInt8,(128+tP c%64).toNat.toUInt8]) bI I5 rfl (by decide) rfl ⟨_,_,_,rfl,rfl,rfl,rT (by omega),_,_,_,rfl,rfl,rfl,rT (by omega),_,_,_,rfl,rfl,rfl,rT (by omega),_,_,_,rfl,rfl,rfl,rT (by omega),rfl⟩ rfl hM (.inr ⟨rfl,rfl⟩) (by decide) (fun ac4 ac5 Bx By=>?_);replace hv:=hv.le By.le;replace ho:=ho.aM By;replace hM:=By.lt hM;have:=S.size;replace S:=S.aB By;refine cX (M:=M1) (base:=w0.heap.size) bI I5 rfl rfl rfl rfl ho Bx (aq _ _) (by have:=gA (xs.take k);rw[bC]at this;simp;omega) (by have:=gA (xs.take k);rw[bC]at this;simp;omega) (S.size) (fun SV SX ac6 OU Bz=>?_);replace hv:=hv.le Bz.le;replace Bx:=Bx.le Bz.le;replace hM:=Bz.lt hM;have:=S.size;replace S:=S.dm Bz ho (aR _);replace ho:=OU;refine ah rfl rfl (ab (ae (ad rfl rfl (bD rfl rfl rfl (by omega) (ah rfl rfl (ab ?_))))));refine⟨rfl,(k+1,SV),(.cons rfl (.cons rfl (.cons rfl .nil))),?_,?_⟩
       ·exact⟨SX,hM,S,by rw[tk,my,acV (by omega)];exact ho,hv,by dsimp only;omega⟩
       ·dsimp only;omega
  ·refine cL (aj (ae (ad rfl rfl (Rg.b2s (hn:=by decide) (M:=M) bI cx aH rfl rfl (ho.close lC S (by have:=gA (xs.take k);rw[bC]at this;omega)) (aq _ _) (ah rfl rfl (ab (aN ?_)))))));have e:xs.take k=xs:=br (by omega);rw[e];exact aU rfl rfl ⟨rfl,S.back⟩
end Go.K
namespace Go.K
open Go.Proofs
set_option maxRecDepth 10000
theorem Fx {M:aC} {l:List UInt8} (w0:World) (hM:Lt M w0) (hl:l.length≤1000000):
  Spec Tryz.prog 229 #[.string ⟨l.toArray⟩] w0 (fun v w=>((RT.int .i64).sl).V M w (fx l) v∧Step M w0 M w aD):=by
 have lC:=hM;refine bc (args:=[_]) (fn:=Tryz.f229) Tryz.func229 rfl (n:=17) Tryz.ntmps229 ?_;have S:Step M w0 M w0 aD:=(ax _ _).cG (fun _ h=>h.elim) (fun _ h=>h.elim);refine aj (ae (ah rfl rfl (ab (aj (ae (ah rfl rfl (ab (aj (aj (ae (ad rfl rfl ?_)))))))))));refine Rg.Kr M aH rfl rfl (fun KA amU amV amW ac7 SY=>?_);obtain⟨QL,KB⟩:∃M',M'=ins M KA:=⟨_,rfl⟩;rw[←KB]at SY;have S0:QL KA:=by rw[KB];exact .inl rfl
 replace hM:=SY.lt hM;have:=S.size;replace S:=S.aB SY;refine ab (aZ ?_);refine dn (σ:=Nat×List Int×Value) (fun q=>[(3,q.2.2),(7,.pointer (some ⟨KA,0,none⟩))]) (fun q w=>∃M',Lt M' w∧Step M w0 M' w aD∧w.heap[KA]? =some (.stringIter ⟨l.toArray⟩ q.1)∧M' KA∧Own (RT.int .i64) 3 M' w w0.heap.size q.2.2 q.2.1∧fx l=q.2.1++fx (l.drop q.1)∧q.1≤l.length) (fun q=>l.length-q.1) (0,[],.slice none 0 0) (.cons rfl (.cons rfl .nil)) ?_ ?_
 ·exact⟨QL,hM,S,ac7,S0,dE _ _ _ _ _,by simp,by simp⟩
 ·rintro⟨p,xs,u⟩ w ⟨M1,hM,S,g,Ax,ho,yh,hp⟩;dsimp only at g ho yh hp ⊢;refine aj (ae ?_);refine Rg.OJ (M:=M1) rfl g Ax rfl (fun ac8 amX ac9 KC=>?_) (fun ac8=>?_)
  ·have:=ak g;replace Ax:=(KC.mem _ this).2 Ax;replace ho:=ho.step KC (fun b hb hk=>ho.ec g (hk▸hb));replace hM:=KC.lt hM;have:=S.size;replace S:=S.trans KC (fun k hk h=>by have h:_=_:=h;subst h;first|(exfalso;omega)|(show _≤_;omega)|exact⟨by first|omega|assumption,(S.mem _ hk).1 ((KC.mem _ (ak g)).1 Ax)⟩|exact .inl rfl|exact .inr rfl|exact .inr (.inl rfl)|exact .inr (.inr rfl)|exact .inr (.inr (.inl rfl))|exact rfl);have g_:=ac9;clear g;have g:=g_;clear g_;refine bK rfl rfl rfl (ab (aj (lD rfl (aT (aZ (aj (ae (bK rfl rfl rfl (ah rfl rfl (ab (ae ?_)))))))))));refine ad rfl rfl (ad rfl rfl (Rg.uU Tryz.underlying21 aw rfl rfl (by have:=vf (l.drop p);omega) ?_));refine dQ (A:=RT.int .i64) (hn:=by decide) (M:=M1) ao I3 (by decide) rfl rfl hM (gm (by have:=vf (l.drop p);omega)) (.inr ⟨rfl,rfl⟩) (fun ada amY Hb KD=>?_);have:=ak g;replace Ax:=(KD.mem _ this).2 Ax;replace g:=KD.aK g;replace ho:=ho.aM KD;replace hM:=KD.lt hM;have:=S.size;replace S:=S.aB KD;refine cX (M:=M1) (base:=w0.heap.size) ao I3 rfl rfl rfl rfl ho Hb (aq _ _) (by simp;have:=iV l;rw[yh]at this;simp at this;omega) (by simp;have:=iV l;rw[yh]at this;simp at this;omega) (S.size) (fun adb ade amZ Xm KE=>?_);have:=ak g;replace Ax:=(KE.mem _ this).2 Ax;replace g:=KE.keep g (fun h=>by first|exact ho.ec g h|exact ho.eK g (by decide) h|(have:=(ho.base _ h).1;omega));replace Hb:=Hb.le KE.le;replace hM:=KE.lt hM;have:=S.size;replace S:=S.dm KE ho (aR _);replace ho:=Xm;refine ah rfl rfl (ab ?_);have eN:l.drop p≠[]:=by intro h;have:=congrArg List.length h;simp at this;omega
   refine⟨rfl,(p+(dec (l.drop p)).2,xs++[((dec (l.drop p)).1:Int)],adb),(.cons rfl (.cons rfl .nil)),?_,?_⟩
   ·refine⟨ade,hM,S,g,Ax,ho,?_,?_⟩
    ·rw[yh,sM eN,List.drop_drop];simp
    ·have:=(lZ eN).2;rw[dw]at this;dsimp only;omega
   ·have:=(lZ eN).1;have:=(lZ eN).2;rw[dw]at this;dsimp only;omega
  ·refine bK rfl rfl rfl (ab (aj (jD rfl (cL (aj (ae (ad rfl rfl (ah rfl rfl (ab (aN ?_))))))))));have e:fx l=xs:=by rw[yh,gQ (by omega),vg];simp
   rw[e];have:=iV l;rw[e]at this;exact aU rfl rfl ⟨ho.close lC S (by omega),S.back⟩
def gq (p:List Int×List (List UInt8)) (c:Int):List Int×List (List UInt8):=
 if fK c=true∨o5 c=true then(p.1++[fL c],p.2)else if 0<p.1.length then([],p.2++[kH p.1])else([],p.2)
structure KF (M:aC) (w:World) (B bo bs:Nat) (p:List Int×List (List UInt8)):Prop where
 a:∃u,w.heap[bo]? =some (.cells #[u] 37 (0,0))∧Own (RT.int .i64) 3 M w B u p.1
 b:∃u,w.heap[bs]? =some (.cells #[u] 57 (0,0))∧Own RT.str 9 M w B u p.2
 m:M bo∧M bs∧B≤bo∧B≤bs
theorem qv {c:Int} (h:fK c=true∨o5 c=true):0≤c∧c≤1114111:=by
 simp only[fK,o5,decide_eq_true_eq]at h;omega
theorem yj {M:aC} {B bo bs:Nat} {p:List Int×List (List UInt8)} (w0:World) (hM:Lt M w0) (c:Int) (ht:KF M w0 B bo bs p) (hl:p.1.length≤1000000∧p.2.length≤1000000):
  Spec Tryz.prog 224 #[.int .i64 c,.pointer (some ⟨bo,0,none⟩),.pointer (some ⟨bs,0,none⟩)] w0 (fun v w=>∃M',Lt M' w∧KF M' w B bo bs (gq p c)∧Step M w0 M' w (lN M B)):=by
 obtain⟨⟨uo,go,ho⟩,⟨us,gs,hs⟩,ic,iQ,V0,V1⟩:=ht;obtain⟨own,out⟩:=p;dsimp only at ho hs hl ⊢;have eN:bo≠bs:=fun e=>by subst e;rw[go]at gs;cases gs
 refine bc (args:=[_,_,_]) (fn:=Tryz.f224) Tryz.func224 rfl (n:=23) Tryz.ntmps224 ?_;have S:Step M w0 M w0 (lN M B):=(ax _ _).cG (fun _ h=>h.elim) (fun _ h=>h.2);refine aj (aj (ae (ad rfl rfl ?_)));refine aX rfl rfl acx (CU _ _) (fun r wc hc=>?_);obtain⟨rfl,rfl⟩:=hc;refine aV (v':= .bool (decide (fK c=true))) (by cases fK c<;>rfl) (ad rfl rfl ?_);refine aO (g:=6) rfl (fun adf=>?_) (fun adf=>?_)
 ·refine ar rfl rfl rfl rfl (ar rfl rfl rfl rfl (aW rfl rfl rfl (ab (lD rfl (aj ?_)))));apply T.ql 2 [0] 2 aD mixed rfl rfl rfl rfl;intro KG KH;have mQ:=KH M;have:=ak go;replace ic:=(mQ.mem _ this).2 ic;replace go:=mQ.aK go;have:=ak gs;replace iQ:=(mQ.mem _ this).2 iQ;replace gs:=mQ.aK gs;replace ho:=ho.aM mQ;replace hs:=hs.aM mQ;replace hM:=mQ.lt hM;have:=S.size;replace S:=S.aB mQ;refine aL ao rfl rfl rfl (by first|assumption|exact cR mQ (by assumption)) rfl ?_;refine ab ⟨rfl,rfl,rfl,?_⟩;refine ad rfl rfl ?_;refine ab ⟨rfl,rfl,rfl,?_⟩;refine ff ?_;refine⟨jd ⟨eI rfl (by assumption) (by first|assumption|exact fun h=>h|(intro h;have h:_=_:=h;omega)),trivial⟩,?_⟩;have kp:=kd aD KG;have Fy:fK c=true∨o5 c=true:=by first|exact .inl (by assumption)|exact .inr (by assumption)
  refine aX rfl rfl W6 (Av c _ (qv Fy)) (fun r wc hc=>?_);obtain⟨rfl,rfl⟩:=hc;refine(fun(kp:eO _ _ _)=>ab ⟨rfl,rfl,fun _=>kp,?_⟩) (by first|exact kp|exact kp.sG (by assumption)|exact kp.goN (by assumption)|exact kp.go (by assumption) (fun _ _ h=>by first|exact h|exact h.elim));refine dQ (A:=RT.int .i64) (hn:=by decide) (M:=M) ao I3 (by decide) rfl rfl hM (gm (by have:=qv Fy;unfold fL;split<;>omega)) (.inr ⟨rfl,rfl⟩) (fun OV Im kI s1_3=>?_);have:=ak go;replace ic:=(s1_3.mem _ this).2 ic;replace go:=s1_3.aK go;have:=ak gs;replace iQ:=(s1_3.mem _ this).2 iQ;replace gs:=s1_3.aK gs;replace ho:=ho.aM s1_3;replace hs:=hs.aM s1_3;replace hM:=s1_3.lt hM;have:=S.size;replace S:=S.aB s1_3;refine(fun(kp:eO _ _ _)=>ab ⟨rfl,rfl,fun _=>kp,?_⟩) (by first|exact kp|exact kp.sG (by assumption)|exact kp.goN (by assumption)|exact kp.go (by assumption) (fun _ _ h=>by first|exact h|exact h.elim));refine cX (M:=M) (base:=B) ao I3 rfl rfl rfl rfl ho kI (aq _ _) (by simp;omega) (by simp;omega) (by have:=ak go;omega) (fun Tc KI Td KJ mA=>?_);have:=ak go;replace ic:=(mA.mem _ this).2 ic;replace go:=mA.keep go (fun h=>by first|exact ho.ec go h|exact ho.eK go (by decide) h|(have:=(ho.base _ h).1;omega));have:=ak gs;replace iQ:=(mA.mem _ this).2 iQ;replace gs:=mA.keep gs (fun h=>by first|exact ho.ec gs h|exact ho.eK gs (by decide) h|(have:=(ho.base _ h).1;omega));replace kI:=kI.le mA.le;replace hs:=hs.step mA (fun b h1 h2=>hs.dA ho (by decide) h1 h2);replace hM:=mA.lt hM;have:=S.size;replace S:=S.trans mA (fun b hb h=>⟨(ho.base b h).1,(S.mem b hb).1 (ho.mut_ b h)⟩);replace ho:=KJ;refine ab ⟨rfl,rfl,fun h=>absurd rfl h,?_⟩;refine cu (M:=KI) kG rfl rfl go rfl ((by obtain⟨_,_,he,_⟩:=ho.isSlice;rw[he];rfl)) ic (fun Tf vu o6=>?_);change Tf.heap[_]? =some (Obj.cells #[Tc] _ _)at vu
  have:=ak go;replace ic:=(o6.mem _ this).2 ic;have:=ak gs;replace iQ:=(o6.mem _ this).2 iQ;replace gs:=o6.keep gs (fun hk=>by have hk:_=_:=hk;omega);replace kI:=kI.le o6.le;replace ho:=ho.step o6 (fun b hb hk=>by have hk:b=_:=hk;subst hk;first|exact absurd hb (ho.eK go (by decide))|exact absurd hb (ho.eK gs (by decide)));replace hs:=hs.step o6 (fun b hb hk=>by have hk:b=_:=hk;subst hk;first|exact absurd hb (hs.eK go (by decide))|exact absurd hb (hs.eK gs (by decide)));replace hM:=o6.lt hM;have:=S.size;replace S:=S.trans o6 (fun k hk h=>by have h:_=_:=h;subst h;first|(exfalso;omega)|(show _≤_;omega)|exact⟨by first|omega|assumption,(S.mem _ hk).1 ((o6.mem _ (ak go)).1 ic)⟩|exact .inl rfl|exact .inr rfl|exact .inr (.inl rfl)|exact .inr (.inr rfl)|exact .inr (.inr (.inl rfl))|exact rfl);have KK:=vu;clear go;have go:=KK;clear KK;refine ab ⟨rfl,rfl,fun h=>absurd rfl h,?_⟩;refine nN (aN ?_);rw[show gq (own,out) c=(own++[fL c],out)from if_pos Fy];exact Cu rfl ⟨KI,hM,⟨⟨_,go,ho⟩,⟨_,gs,hs⟩,ic,iQ,V0,V1⟩,S⟩
 ·refine al rfl rfl (ad rfl rfl (al rfl rfl ?_));refine aX rfl rfl acy (Fp _ _) (fun r wc hc=>?_);obtain⟨rfl,rfl⟩:=hc;refine aV (v':= .bool (decide (o5 c=true))) (by cases o5 c<;>rfl) (aE rfl rfl rfl (ab ?_));refine bP rfl (fun c0=>?_) (fun c0=>?_)
  ·refine aj ?_;apply T.ql 2 [0] 2 aD mixed rfl rfl rfl rfl;intro KG KH;have mQ:=KH M;have:=ak go;replace ic:=(mQ.mem _ this).2 ic;replace go:=mQ.aK go;have:=ak gs;replace iQ:=(mQ.mem _ this).2 iQ;replace gs:=mQ.aK gs;replace ho:=ho.aM mQ;replace hs:=hs.aM mQ;replace hM:=mQ.lt hM;have:=S.size;replace S:=S.aB mQ;refine aL ao rfl rfl rfl (by first|assumption|exact cR mQ (by assumption)) rfl ?_;refine ab ⟨rfl,rfl,rfl,?_⟩;refine ad rfl rfl ?_;refine ab ⟨rfl,rfl,rfl,?_⟩;refine ff ?_;refine⟨jd ⟨eI rfl (by assumption) (by first|assumption|exact fun h=>h|(intro h;have h:_=_:=h;omega)),trivial⟩,?_⟩;have kp:=kd aD KG;have Fy:fK c=true∨o5 c=true:=by first|exact .inl (by assumption)|exact .inr (by assumption)
   refine aX rfl rfl W6 (Av c _ (qv Fy)) (fun r wc hc=>?_);obtain⟨rfl,rfl⟩:=hc;refine(fun(kp:eO _ _ _)=>ab ⟨rfl,rfl,fun _=>kp,?_⟩) (by first|exact kp|exact kp.sG (by assumption)|exact kp.goN (by assumption)|exact kp.go (by assumption) (fun _ _ h=>by first|exact h|exact h.elim));refine dQ (A:=RT.int .i64) (hn:=by decide) (M:=M) ao I3 (by decide) rfl rfl hM (gm (by have:=qv Fy;unfold fL;split<;>omega)) (.inr ⟨rfl,rfl⟩) (fun OV Im kI s1_3=>?_);have:=ak go;replace ic:=(s1_3.mem _ this).2 ic;replace go:=s1_3.aK go;have:=ak gs;replace iQ:=(s1_3.mem _ this).2 iQ;replace gs:=s1_3.aK gs;replace ho:=ho.aM s1_3;replace hs:=hs.aM s1_3;replace hM:=s1_3.lt hM;have:=S.size;replace S:=S.aB s1_3;refine(fun(kp:eO _ _ _)=>ab ⟨rfl,rfl,fun _=>kp,?_⟩) (by first|exact kp|exact kp.sG (by assumption)|exact kp.goN (by assumption)|exact kp.go (by assumption) (fun _ _ h=>by first|exact h|exact h.elim));refine cX (M:=M) (base:=B) ao I3 rfl rfl rfl rfl ho kI (aq _ _) (by simp;omega) (by simp;omega) (by have:=ak go;omega) (fun Tc KI Td KJ mA=>?_);have:=ak go;replace ic:=(mA.mem _ this).2 ic;replace go:=mA.keep go (fun h=>by first|exact ho.ec go h|exact ho.eK go (by decide) h|(have:=(ho.base _ h).1;omega));have:=ak gs;replace iQ:=(mA.mem _ this).2 iQ;replace gs:=mA.keep gs (fun h=>by first|exact ho.ec gs h|exact ho.eK gs (by decide) h|(have:=(ho.base _ h).1;omega));replace kI:=kI.le mA.le;replace hs:=hs.step mA (fun b h1 h2=>hs.dA ho (by decide) h1 h2);replace hM:=mA.lt hM;have:=S.size;replace S:=S.trans mA (fun b hb h=>⟨(ho.base b h).1,(S.mem b hb).1 (ho.mut_ b h)⟩);replace ho:=KJ;refine ab ⟨rfl,rfl,fun h=>absurd rfl h,?_⟩;refine cu (M:=KI) kG rfl rfl go rfl ((by obtain⟨_,_,he,_⟩:=ho.isSlice;rw[he];rfl)) ic (fun Tf vu o6=>?_);change Tf.heap[_]? =some (Obj.cells #[Tc] _ _)at vu
   have:=ak go;replace ic:=(o6.mem _ this).2 ic;have:=ak gs;replace iQ:=(o6.mem _ this).2 iQ;replace gs:=o6.keep gs (fun hk=>by have hk:_=_:=hk;omega);replace kI:=kI.le o6.le;replace ho:=ho.step o6 (fun b hb hk=>by have hk:b=_:=hk;subst hk;first|exact absurd hb (ho.eK go (by decide))|exact absurd hb (ho.eK gs (by decide)));replace hs:=hs.step o6 (fun b hb hk=>by have hk:b=_:=hk;subst hk;first|exact absurd hb (hs.eK go (by decide))|exact absurd hb (hs.eK gs (by decide)));replace hM:=o6.lt hM;have:=S.size;replace S:=S.trans o6 (fun k hk h=>by have h:_=_:=h;subst h;first|(exfalso;omega)|(show _≤_;omega)|exact⟨by first|omega|assumption,(S.mem _ hk).1 ((o6.mem _ (ak go)).1 ic)⟩|exact .inl rfl|exact .inr rfl|exact .inr (.inl rfl)|exact .inr (.inr rfl)|exact .inr (.inr (.inl rfl))|exact rfl);have KK:=vu;clear go;have go:=KK;clear KK;refine ab ⟨rfl,rfl,fun h=>absurd rfl h,?_⟩;refine nN (aN ?_);rw[show gq (own,out) c=(own++[fL c],out)from if_pos Fy];exact Cu rfl ⟨KI,hM,⟨⟨_,go,ho⟩,⟨_,gs,hs⟩,ic,iQ,V0,V1⟩,S⟩
  ·refine aT (aj (aj (ae (aL ao rfl rfl rfl (by assumption) rfl (fS ao rfl ho rfl (jc rfl rfl rfl (ab ?_)))))));refine bP rfl (fun c2=>?_) (fun c2=>?_)
   ·apply T.ql 2 [0] 2 aD mixed rfl rfl rfl rfl;intro Xn QM;have qW:=QM M;have:=ak go;replace ic:=(qW.mem _ this).2 ic;replace go:=qW.aK go;have:=ak gs;replace iQ:=(qW.mem _ this).2 iQ;replace gs:=qW.aK gs;replace ho:=ho.aM qW;replace hs:=hs.aM qW;replace hM:=qW.lt hM;have:=S.size;replace S:=S.aB qW;refine aL aQ rfl rfl rfl (by first|assumption|exact cR qW (by assumption)) rfl ?_;refine ab ⟨rfl,rfl,rfl,?_⟩;refine aL ao rfl rfl rfl (by first|assumption|exact cR qW (by assumption)) rfl ?_;refine ab ⟨rfl,rfl,rfl,?_⟩;refine ff ?_;refine⟨jd ⟨eI rfl (by assumption) (by first|assumption|exact fun h=>h|(intro h;have h:_=_:=h;omega)),trivial⟩,?_⟩;have kp:=kd aD Xn;refine aX rfl rfl acz (Ij (M:=rm M uo) _ (fun b hb=>hM b hb.1) (ho.view (by omega)) (by omega)) (fun r3 w3 hc=>?_);obtain⟨rfl,s3⟩:=hc;replace s3:=s3.any M;have:=ak go;replace ic:=(s3.mem _ this).2 ic;replace go:=s3.aK go;have:=ak gs;replace iQ:=(s3.mem _ this).2 iQ;replace gs:=s3.aK gs;replace ho:=ho.aM s3;replace hs:=hs.aM s3;replace hM:=s3.lt hM;have:=S.size;replace S:=S.aB s3;refine(fun(kp:eO _ _ _)=>ab ⟨rfl,rfl,fun _=>kp,?_⟩) (by first|exact kp|exact kp.sG (by assumption)|exact kp.goN (by assumption)|exact kp.go (by assumption) (fun _ _ h=>by first|exact h|exact h.elim));refine dQ (A:=RT.str) (hn:=by decide) (M:=M) aQ I9 (by decide) rfl rfl hM (kF.2 ⟨rfl,by have:=gA own;omega⟩) (.inr ⟨rfl,rfl⟩) (fun am0 am1 yk C0=>?_);have:=ak go;replace ic:=(C0.mem _ this).2 ic;replace go:=C0.aK go;have:=ak gs;replace iQ:=(C0.mem _ this).2 iQ;replace gs:=C0.aK gs;replace ho:=ho.aM C0;replace hs:=hs.aM C0;replace hM:=C0.lt hM;have:=S.size;replace S:=S.aB C0;refine(fun(kp:eO _ _ _)=>ab ⟨rfl,rfl,fun _=>kp,?_⟩) (by first|exact kp|exact kp.sG (by assumption)|exact kp.goN (by assumption)|exact kp.go (by assumption) (fun _ _ h=>by first|exact h|exact h.elim))
    refine cX (M:=M) (base:=B) aQ I9 rfl rfl rfl rfl hs yk (aq _ _) (by simp;omega) (by simp;omega) (by have:=ak go;omega) (fun adg Xo am2 Xp C1=>?_);have:=ak go;replace ic:=(C1.mem _ this).2 ic;replace go:=C1.keep go (fun h=>by first|exact hs.ec go h|exact hs.eK go (by decide) h|(have:=(hs.base _ h).1;omega));have:=ak gs;replace iQ:=(C1.mem _ this).2 iQ;replace gs:=C1.keep gs (fun h=>by first|exact hs.ec gs h|exact hs.eK gs (by decide) h|(have:=(hs.base _ h).1;omega));replace yk:=yk.le C1.le;replace ho:=ho.step C1 (fun b h1 h2=>ho.dA hs (by decide) h1 h2);replace hM:=C1.lt hM;have:=S.size;replace S:=S.trans C1 (fun b hb h=>⟨(hs.base b h).1,(S.mem b hb).1 (hs.mut_ b h)⟩);replace hs:=Xp;refine ab ⟨rfl,rfl,fun h=>absurd rfl h,?_⟩;refine cu (M:=Xo) zz rfl rfl gs rfl ((by obtain⟨_,_,he,_⟩:=hs.isSlice;rw[he];rfl)) iQ (fun adh Xq BA=>?_);change adh.heap[_]? =some (Obj.cells #[adg] _ _)at Xq;have:=ak go;replace ic:=(BA.mem _ this).2 ic;replace go:=BA.keep go (fun hk=>by have hk:_=_:=hk;omega);have:=ak gs;replace iQ:=(BA.mem _ this).2 iQ;replace yk:=yk.le BA.le;replace ho:=ho.step BA (fun b hb hk=>by have hk:b=_:=hk;subst hk;first|exact absurd hb (ho.eK go (by decide))|exact absurd hb (ho.eK gs (by decide)));replace hs:=hs.step BA (fun b hb hk=>by have hk:b=_:=hk;subst hk;first|exact absurd hb (hs.eK go (by decide))|exact absurd hb (hs.eK gs (by decide)));replace hM:=BA.lt hM;have:=S.size;replace S:=S.trans BA (fun k hk h=>by have h:_=_:=h;subst h;first|(exfalso;omega)|(show _≤_;omega)|exact⟨by first|omega|assumption,(S.mem _ hk).1 ((BA.mem _ (ak gs)).1 iQ)⟩|exact .inl rfl|exact .inr rfl|exact .inr (.inl rfl)|exact .inr (.inr rfl)|exact .inr (.inr (.inl rfl))|exact rfl);have gs_:=Xq;clear gs;have gs:=gs_;clear gs_;refine ab ⟨rfl,rfl,fun h=>absurd rfl h,?_⟩;refine nN (ae ?_)
    refine cu (M:=Xo) kG rfl rfl go rfl (rfl) ic (fun KL C2 lH=>?_);change KL.heap[_]? =some (Obj.cells #[.slice none 0 0] _ _)at C2;have:=ak go;replace ic:=(lH.mem _ this).2 ic;have:=ak gs;replace iQ:=(lH.mem _ this).2 iQ;replace gs:=lH.keep gs (fun hk=>by have hk:_=_:=hk;omega);replace yk:=yk.le lH.le;replace ho:=ho.step lH (fun b hb hk=>by have hk:b=_:=hk;subst hk;first|exact absurd hb (ho.eK go (by decide))|exact absurd hb (ho.eK gs (by decide)));replace hs:=hs.step lH (fun b hb hk=>by have hk:b=_:=hk;subst hk;first|exact absurd hb (hs.eK go (by decide))|exact absurd hb (hs.eK gs (by decide)));replace hM:=lH.lt hM;have:=S.size;replace S:=S.trans lH (fun k hk h=>by have h:_=_:=h;subst h;first|(exfalso;omega)|(show _≤_;omega)|exact⟨by first|omega|assumption,(S.mem _ hk).1 ((lH.mem _ (ak go)).1 ic)⟩|exact .inl rfl|exact .inr rfl|exact .inr (.inl rfl)|exact .inr (.inr rfl)|exact .inr (.inr (.inl rfl))|exact rfl);have KK:=C2;clear go;have go:=KK;clear KK;refine ab ?_
    first|refine rj ?_|simp+decide only[rq,jy,if_true,if_false]|skip
    have V2: ¬(fK c=true∨o5 c=true):=by rintro(h|h)<;>exact absurd h (by assumption)
    first
    |rw[show gq (own,out) c=([],out++[kH own])from(if_neg V2).trans (if_pos (by show 0<own.length;omega))]
     exact fY rfl ⟨_,hM,⟨⟨_,go,dE _ _ _ _ _⟩,⟨_,gs,hs⟩,ic,iQ,V0,V1⟩,S⟩
    |rw[show gq (own,out) c=([],out)from(if_neg V2).trans (if_neg (by show¬0<own.length;omega))]
     exact fY rfl ⟨_,hM,⟨⟨_,go,dE _ _ _ _ _⟩,⟨_,gs,hs⟩,ic,iQ,V0,V1⟩,S⟩
   ·refine aT (ae ?_);refine cu (M:=M) kG rfl rfl go rfl (rfl) ic (fun KL C2 lH=>?_);change KL.heap[_]? =some (Obj.cells #[.slice none 0 0] _ _)at C2;have:=ak go;replace ic:=(lH.mem _ this).2 ic;have:=ak gs;replace iQ:=(lH.mem _ this).2 iQ;replace gs:=lH.keep gs (fun hk=>by have hk:_=_:=hk;omega);replace ho:=ho.step lH (fun b hb hk=>by have hk:b=_:=hk;subst hk;first|exact absurd hb (ho.eK go (by decide))|exact absurd hb (ho.eK gs (by decide)));replace hs:=hs.step lH (fun b hb hk=>by have hk:b=_:=hk;subst hk;first|exact absurd hb (hs.eK go (by decide))|exact absurd hb (hs.eK gs (by decide)));replace hM:=lH.lt hM;have:=S.size;replace S:=S.trans lH (fun k hk h=>by have h:_=_:=h;subst h;first|(exfalso;omega)|(show _≤_;omega)|exact⟨by first|omega|assumption,(S.mem _ hk).1 ((lH.mem _ (ak go)).1 ic)⟩|exact .inl rfl|exact .inr rfl|exact .inr (.inl rfl)|exact .inr (.inr rfl)|exact .inr (.inr (.inl rfl))|exact rfl);have KK:=C2;clear go;have go:=KK;clear KK;refine ab ?_
    first|refine rj ?_|simp+decide only[rq,jy,if_true,if_false]|skip
    have V2: ¬(fK c=true∨o5 c=true):=by rintro(h|h)<;>exact absurd h (by assumption)
    first
    |rw[show gq (own,out) c=([],out++[kH own])from(if_neg V2).trans (if_pos (by show 0<own.length;omega))]
     exact fY rfl ⟨_,hM,⟨⟨_,go,dE _ _ _ _ _⟩,⟨_,gs,hs⟩,ic,iQ,V0,V1⟩,S⟩
    |rw[show gq (own,out) c=([],out)from(if_neg V2).trans (if_neg (by show¬0<own.length;omega))]
     exact fY rfl ⟨_,hM,⟨⟨_,go,dE _ _ _ _ _⟩,⟨_,gs,hs⟩,ic,iQ,V0,V1⟩,S⟩
theorem n0 (l:List Int):∀p,(l.foldl gq p).1.length≤p.1.length+l.length∧(l.foldl gq p).2.length≤p.2.length+l.length:=by
 induction l with
 |nil=>intro p;simp
 |cons c l ih=>
  intro p;have:=ih (gq p c)
  have h1:(gq p c).1.length≤p.1.length+1∧(gq p c).2.length≤p.2.length+1:=by
   unfold gq
   split
   ·simp
   ·split<;>simp
  simp only[List.foldl_cons,cD];omega
def words (l:List UInt8):List (List UInt8):=((fx l++[32]).foldl gq ([],[])).2
theorem qX (l:List UInt8):(words l).length≤l.length+1:=by
 have h:=(n0 (fx l++[32]) ([],[])).2;have h2:=iV l;rw[bg]at h;have h3:([]:List (List UInt8)).length=0:=rfl;have h4: [(32:Int)].length=1:=rfl;unfold words;simp only[h3,h4]at h;omega
theorem ym {M:aC} {l:List UInt8} (w0:World) (hM:Lt M w0) (hl:l.length≤900000):
  Spec Tryz.prog 183 #[.string ⟨l.toArray⟩] w0 (fun v w=>(RT.str.sl).V M w (words l) v∧Step M w0 M w aD):=by
 have lC:=hM;refine bc (args:=[_]) (fn:=Tryz.f183) Tryz.func183 rfl (n:=23) Tryz.ntmps183 ?_;have S:Step M w0 M w0 aD:=(ax _ _).cG (fun _ h=>h.elim) (fun _ h=>h.elim);refine aj (ae (ah rfl rfl (ab (aj (ae ?_)))));refine ey M zz rfl (fun mB C3 Tg Ti jT nz=>?_);obtain⟨lp,mC⟩:∃M',M'=ins M mB:=⟨_,rfl⟩;rw[←mC]at nz;have iK:lp mB:=by rw[mC];exact .inl rfl
 change C3.heap[mB]? =some (.cells #[.slice none 0 0] _ _)at jT;replace hM:=nz.lt hM;have:=S.size;replace S:=S.aB nz;refine ab (aj (ae ?_));refine ey lp kG rfl (fun gO Tj adi adj C4 yn=>?_);obtain⟨KM,yo⟩:∃M',M'=ins lp gO:=⟨_,rfl⟩;rw[←yo]at yn;have yp:KM gO:=by rw[yo];exact .inl rfl
 change Tj.heap[gO]? =some (.cells #[.slice none 0 0] _ _)at C4;have:=ak jT;replace iK:=(yn.mem _ this).2 iK;replace jT:=yn.aK jT;replace hM:=yn.lt hM;have:=S.size;replace S:=S.aB yn;refine ab (aj (ae (ka (xs:=[]) (ys:=[.tmp 4,.tmp 3]) rfl rfl rfl (ah rfl rfl (ab (aj (aj (ae (ad rfl rfl ?_)))))))));refine aX rfl rfl acA (Fx _ hM (by omega)) (fun v4 w4 hc=>?_);obtain⟨yh,s4⟩:=hc;have:=ak jT;replace iK:=(s4.mem _ this).2 iK;replace jT:=s4.aK jT;have:=ak C4;replace yp:=(s4.mem _ this).2 yp;replace C4:=s4.aK C4;replace hM:=s4.lt hM;have:=S.size;replace S:=S.aB s4;refine bJ ao rfl yh rfl (ad rfl rfl (ab (aZ ?_)));refine dn (σ:=Nat) (fun k=>[(3,.pointer (some ⟨mB,0,none⟩)),(5,.func (.func 224) #[] #[.pointer (some ⟨gO,0,none⟩),.pointer (some ⟨mB,0,none⟩)]),(10,v4),(11,.int .i64 ((fx l).length:Int)),(12,.int .i64 (k:Int))]) (fun k w=>∃M',Lt M' w∧Step M w0 M' w aD∧KF M' w w0.heap.size gO mB (((fx l).take k).foldl gq ([],[]))∧((RT.int .i64).sl).V M' w (fx l) v4∧k≤(fx l).length) (fun k=>(fx l).length-k) 0 (.cons rfl (.cons rfl (.cons rfl (.cons rfl (.cons rfl .nil))))) ?_ ?_
 ·exact⟨_,hM,S,⟨⟨_,C4,dE _ _ _ _ _⟩,⟨_,jT,dE _ _ _ _ _⟩,yp,iK,by omega,by omega⟩,yh,bG _⟩
 ·rintro k w ⟨M1,hM,S,ht,yh,hk⟩;refine aj (ae (cf rfl rfl rfl (ab (aj ?_))));refine bP rfl (fun c5=>?_) (fun c5=>?_)
  ·refine aT (aj (aZ (aj (ae ?_))));refine cF (M:=M1) ao I3 rfl rfl rfl yh (aq _ _) (by omega) (fun u6 c Jz Fz=>?_);refine cd (M:=M1) aw rfl rfl Fz (aq _ _) (fun in6=>?_);refine ah rfl rfl (ab (ae (ad rfl rfl (ad rfl rfl ?_))));have nw:=iV l;have N0:=n0 ((fx l).take k) ([],[]);rw[bC]at N0;refine zC (first:=[]) (captured:=[.pointer (some ⟨gO,0,none⟩),.pointer (some ⟨mB,0,none⟩)]) rfl rfl rfl W5 (yj (B:=w0.heap.size) _ hM c ht (by simp at N0;omega)) (fun r7 w7 hc=>?_);obtain⟨M2,EU,Io,s7⟩:=hc;have tk:(fx l).take (k+1)=(fx l).take k++[c]:=by rw[cb];simp only[ay]at Jz;rw[Jz];rfl
   refine ab (ae (bD rfl rfl rfl (by omega) (ad rfl rfl (ab ?_))));refine⟨rfl,k+1,(.cons rfl (.cons rfl (.cons rfl (.cons rfl (.cons rfl .nil))))),?_,?_⟩
   ·exact⟨M2,EU,S.l6 s7 (aR _),by rw[tk,sr];exact Io,yh.le s7.le,by omega⟩
   ·omega
  ·refine cL (aj (ae (ad rfl rfl ?_)));have nw:=iV l;have N0:=n0 ((fx l).take k) ([],[]);rw[bC]at N0;refine zC (first:=[]) (captured:=[.pointer (some ⟨gO,0,none⟩),.pointer (some ⟨mB,0,none⟩)]) rfl rfl rfl W5 (yj (B:=w0.heap.size) _ hM 32 ht (by simp at N0;omega)) (fun r9 w9 hc=>?_);obtain⟨M2,EU,Io,s9⟩:=hc;have e9:gq (((fx l).take k).foldl gq ([],[])) 32=(fx l++[32]).foldl gq ([],[]):=by rw[sr,br (by omega)];rfl
   rw[e9]at Io;obtain⟨_,⟨us,gs,hs⟩,_⟩:=Io;replace S:=S.l6 s9 (aR _);refine ab (aj (ae (aL aQ rfl rfl rfl gs rfl (ah rfl rfl (ab (aN ?_))))));exact aU rfl rfl ⟨Own.close lC S hs (by have:=qX l;omega),S.back⟩
end Go.K
namespace Go.K
open Go.Proofs
set_option maxRecDepth 10000
theorem KN {p:List Int×List (List UInt8)} {c:Int} (h:xv c=true):gq p c=(p.1++[fL c],p.2):=if_pos (by simpa[xv]using h)
theorem qY {p:List Int×List (List UInt8)} {c:Int} (h:xv c=false):gq p c=if 0<p.1.length then([],p.2++[kH p.1])else([],p.2):=if_neg (by simpa[xv]using h)
def JA (sg:List Int) (i:Nat) (ws:List (List UInt8)):Prop:=(i≤sg.length∧(sg.take i).foldl gq ([],[])=([],ws))∨(i=sg.length+1∧((sg++[32]).foldl gq ([],[])).2=ws)
theorem KO {c:Int} (h:xv c=true):0≤c∧c≤1114111:=qv (by simpa[xv]using h)
theorem Xr:xv 32=false:=by decide
theorem vv {sg:List Int} {i:Nat} {c:Int} (h:sg[i]? =some c) (p:List Int×List (List UInt8)):(sg.take (i+1)).foldl gq p=gq ((sg.take i).foldl gq p) c:=by
 rw[cb,h,cY,sr];rfl
theorem JA.skip {sg:List Int} {i:Nat} {ws:List (List UInt8)} {c:Int} (h:JA sg i ws) (hc:sg[i]? =some c) (hi:xv c=false):JA sg (i+1) ws:=by
 have dO:=(an.1 hc).1;rcases h with⟨_,h⟩|⟨h,_⟩
 ·exact .inl ⟨dO,by rw[vv hc,h,qY hi];rfl⟩
 ·omega
theorem JA.word {sg:List Int} {j:Nat} {own:List Int} {ws:List (List UInt8)} (h:(sg.take j).foldl gq ([],[])=(own,ws)) (ho:0<own.length) (hj:j≤sg.length) (hn:∀c,sg[j]? =some c→xv c=false):JA sg (j+1) (ws++[kH own]):=by
 rcases lE hj with e|dO
 ·refine .inr ⟨by omega,?_⟩;rw[e,List.take_length]at h;rw[sr,h];show(gq (own,ws) 32).2=_;rw[qY Xr,if_pos ho]
 ·have hc:sg[j]? =some sg[j]:=au dO;exact .inl ⟨dO,by rw[vv hc,h,qY (hn _ hc),if_pos ho]⟩
theorem JA.done {sg:List Int} {i:Nat} {ws:List (List UInt8)} (h:JA sg i ws) (hi:sg.length≤i):((sg++[32]).foldl gq ([],[])).2=ws:=by
 rcases h with⟨h1,h⟩|⟨_,h⟩
 ·rw[br (by omega)]at h;rw[sr,h];show(gq ([],ws) 32).2=_;rw[qY Xr];rfl
 ·exact h
theorem JA.len {sg:List Int} {i:Nat} {ws:List (List UInt8)} (h:JA sg i ws):ws.length≤sg.length+1:=by
 rcases h with⟨_,h⟩|⟨_,h⟩
 ·have:=(n0 (sg.take i) ([],[])).2;rw[h,bC]at this;simp only[jY]at this;have e:(([]:List Int),([]:List (List UInt8))).2.length=0:=rfl;omega
 ·have:=(n0 (sg++[32]) ([],[])).2;rw[h,bg]at this;have e:(([]:List Int),([]:List (List UInt8))).2.length=0:=rfl;have e2: [(32:Int)].length=1:=rfl;omega
theorem hY {sg:List Int} {j:Nat} {own:List Int} {ws:List (List UInt8)} (h:(sg.take j).foldl gq ([],[])=(own,ws)):own.length≤sg.length∧ws.length≤sg.length:=by
 have:=n0 (sg.take j) ([],[]);rw[h,bC]at this;simp only[jY]at this;have e:(([]:List Int),([]:List (List UInt8))).1.length=0:=rfl;have e2:(([]:List Int),([]:List (List UInt8))).2.length=0:=rfl;omega
theorem C5 {M:aC} {l:List UInt8} (w0:World) (hM:Lt M w0) (hl:l.length≤900000):
  Spec Tryz.prog 201 #[.string ⟨l.toArray⟩] w0 (fun v w=>(RT.str.sl).V M w (words l) v∧Step M w0 M w aD):=by
 have lC:=hM;have nw:=iV l;refine bc (args:=[_]) (fn:=Tryz.f201) Tryz.func201 rfl (n:=50) Tryz.ntmps201 ?_;have S:Step M w0 M w0 aD:=(ax _ _).cG (fun _ h=>h.elim) (fun _ h=>h.elim);refine aj (ae (ah rfl rfl (ab (aj (ae (ad rfl rfl ?_))))));refine aX rfl rfl acE (CZ _ hM (by omega)) (fun v1 w1 hc=>?_);obtain⟨hv,s1⟩:=hc;replace hM:=s1.lt hM;have:=S.size;replace S:=S.aB s1;refine ah rfl rfl (ab (aj (ae (ah rfl rfl (ab (aj (aj (ae (ah rfl rfl (ab (aZ ?_)))))))))));refine dn (σ:=Nat×Value) (fun q=>[(3,v1),(4,q.2),(5,.int .i64 (q.1:Int))]) (fun q w=>∃M' ws,Lt M' w∧Step M w0 M' w aD∧Own RT.str 9 M' w w0.heap.size q.2 ws∧((RT.int .i64).sl).V M' w (fx l) v1∧JA (fx l) q.1 ws) (fun q=>(fx l).length+1-q.1) (0,.slice none 0 0) (.cons rfl (.cons rfl (.cons rfl .nil))) ?_ ?_
 ·exact⟨M,[],hM,S,dE _ _ _ _ _,hv,.inl ⟨bG _,rfl⟩⟩
 ·rintro⟨i,u4⟩ w ⟨M1,ws,hM,S,qd,hv,Xs⟩;dsimp only at qd Xs ⊢;refine aj (aj (ae (ad rfl rfl (ad rfl rfl (bJ ao rfl hv rfl (cf rfl rfl rfl (ab ?_)))))));refine bP rfl (fun c4=>?_) (fun c4=>?_)
  ·refine aT (aj (aZ (aj (ae (ad rfl rfl (ad rfl rfl ?_))))));refine cF (M:=M1) ao I3 rfl rfl rfl hv (aq _ _) (by omega) (fun Xt c Xu huc=>?_);refine cd (M:=M1) aw rfl rfl huc (aq _ _) (fun inc=>?_);rw[ay]at Xu;refine aX rfl rfl W7 (CY c _) (fun r wc hc=>?_);obtain⟨rfl,rfl⟩:=hc;refine aV (v':= .bool (decide (xv c=true))) (by cases xv c<;>rfl) (ah rfl rfl (ab (aj (aj (ae (ad rfl rfl (mS rfl rfl (aV (v':= .bool (decide (xv c=false))) (by cases xv c<;>rfl) (ab ?_)))))))));refine bP rfl (fun c7=>?_) (fun c7=>?_)
   ·refine cL (ae (ad rfl rfl (bD rfl rfl rfl (by omega) (ah rfl rfl (ab ?_)))));refine⟨rfl,(i+1,u4),(.cons rfl (.cons rfl (.cons rfl .nil))),?_,?_⟩
    ·exact⟨M1,ws,hM,S,qd,hv,Xs.skip Xu (by assumption)⟩
    ·dsimp only;omega
   ·refine aT (aj (ae (ah rfl rfl (ab (aj (aZ ?_))))));refine dn (σ:=Nat×List Int×Value) (fun q=>[(3,v1),(4,u4),(5,.int .i64 (q.1:Int)),(7,q.2.2)]) (fun q w=>∃M',Lt M' w∧Step M w0 M' w aD∧Own RT.str 9 M' w w0.heap.size u4 ws∧Own (RT.int .i64) 3 M' w w0.heap.size q.2.2 q.2.1∧((RT.int .i64).sl).V M' w (fx l) v1∧((fx l).take q.1).foldl gq ([],[])=(q.2.1,ws)∧i≤q.1∧q.1≤(fx l).length∧(i<q.1→0<q.2.1.length)) (fun q=>(fx l).length-q.1) (i,[],.slice none 0 0) (.cons rfl (.cons rfl (.cons rfl (.cons rfl .nil)))) ?_ ?_
    ·have adk:((fx l).take i).foldl gq ([],[])=([],ws):=by
      rcases Xs with⟨_,h⟩|⟨h,_⟩
      ·exact h
      ·omega
     exact⟨M1,hM,S,qd,dE _ _ _ _ _,hv,adk,aR _,by dsimp only;omega,fun h=>absurd h (jv _)⟩
    ·rintro⟨j,own,u7⟩ w ⟨M2,hM,S,qd,oa,hv,hf,Xv,tH,uW⟩;dsimp only at oa hf Xv tH uW ⊢;refine aj (aj (ae (ad rfl rfl (ad rfl rfl (bJ ao rfl hv rfl (cf rfl rfl rfl (ad rfl rfl ?_)))))));refine aO (g:=27) rfl (fun adl=>?_) (fun adl=>?_)
     ·refine al rfl rfl (ad rfl rfl (al rfl rfl (ad rfl rfl (al rfl rfl ?_))));refine cF (M:=M2) ao I3 rfl rfl rfl hv (aq _ _) (by omega) (fun am4 d pU hud=>?_);refine al rfl rfl ?_;refine cd (M:=M2) aw rfl rfl hud (aq _ _) (fun ind=>?_);rw[ay]at pU;refine al rfl rfl ?_;refine aX rfl rfl W7 (CY d _) (fun r wc hc=>?_);obtain⟨rfl,rfl⟩:=hc;refine aV (v':= .bool (decide (xv d=true))) (by cases xv d<;>rfl) (aW rfl rfl rfl (ab ?_));refine bP rfl (fun c9=>?_) (fun c9=>?_)
      ·refine aT (aZ (aj (ae (ad rfl rfl (ad rfl rfl (ad rfl rfl ?_))))));refine cF (M:=M2) ao I3 rfl rfl rfl hv (aq _ _) (by omega) (fun Xw e JO hue=>?_);refine cd (M:=M2) aw rfl rfl hue (aq _ _) (fun nG=>?_);rw[ay]at JO;have Tk:xv e=true:=by rw[pU]at JO;cases JO;assumption
       refine aX rfl rfl acF (Fu e _ (KO Tk)) (fun r wc hc=>?_);obtain⟨rfl,rfl⟩:=hc;refine dQ (A:=RT.int .i64) (hn:=by decide) (M:=M2) ao I3 (by decide) rfl rfl hM (gm (by have:=KO Tk;unfold fL;split<;>omega)) (.inr ⟨rfl,rfl⟩) (fun aiV aiW FA C6=>?_);replace hv:=hv.le C6.le;replace qd:=qd.aM C6;replace oa:=oa.aM C6;replace hM:=C6.lt hM;have:=S.size;replace S:=S.aB C6;refine cX (M:=M2) (base:=w0.heap.size) ao I3 rfl rfl rfl rfl oa FA (aq _ _) (by have:=hY hf;simp;omega) (by have:=hY hf;simp;omega) (S.size) (fun QN Xx Xy Tl pG=>?_);replace hv:=hv.le pG.le;replace FA:=FA.le pG.le;replace qd:=qd.step pG (fun b h1 h2=>qd.dA oa (by decide) h1 h2);replace hM:=pG.lt hM;have:=S.size;replace S:=S.dm pG oa (aR _);replace oa:=Tl;refine ah rfl rfl (ab (ae (ad rfl rfl (bD rfl rfl rfl (by omega) (ah rfl rfl (ab ?_))))));refine⟨rfl,(j+1,own++[fL e],QN),(.cons rfl (.cons rfl (.cons rfl (.cons rfl .nil)))),?_,?_⟩
       ·exact⟨Xx,hM,S,qd,oa,hv,by rw[vv JO,hf,KN Tk],by dsimp only;omega,by dsimp only;omega,fun _=>by simp⟩
       ·dsimp only;omega
      ·refine cL (ae (ad rfl rfl (ad rfl rfl ?_)));refine aX rfl rfl W8 (yi (M:=rm M2 u7) _ (fun b hb=>hM b hb.1) (oa.view (by have:=hY hf;omega)) (by have:=hY hf;omega)) (fun r12 V3 Tn=>?_);obtain⟨rfl,zM⟩:=Tn;replace zM:=zM.any M2;replace hv:=hv.le zM.le;replace qd:=qd.aM zM;replace oa:=oa.aM zM;replace hM:=zM.lt hM;have:=S.size;replace S:=S.aB zM;refine dQ (A:=RT.str) (hn:=by decide) (M:=M2) aQ I9 (by decide) rfl rfl hM (kF.2 ⟨rfl,by have:=gA own;have:=hY hf;omega⟩) (.inr ⟨rfl,rfl⟩) (fun Xz XA sO qw=>?_);replace hv:=hv.le qw.le;replace qd:=qd.aM qw;replace oa:=oa.aM qw;replace hM:=qw.lt hM;have:=S.size;replace S:=S.aB qw;refine cX (M:=M2) (base:=w0.heap.size) aQ I9 rfl rfl rfl rfl qd sO (aq _ _) (by have:=hY hf;simp;omega) (by have:=hY hf;simp;omega) (S.size) (fun yq qx KP sT eW=>?_);replace hv:=hv.le eW.le;replace sO:=sO.le eW.le;replace oa:=oa.step eW (fun b h1 h2=>oa.dA qd (by decide) h1 h2);replace hM:=eW.lt hM;have:=S.size;replace S:=S.dm eW qd (aR _);replace qd:=sT;refine ah rfl rfl (ab (ae (ad rfl rfl (bD rfl rfl rfl (by omega) (ah rfl rfl (ab ?_))))))
       have uW:0<own.length:=by
        rcases lE Xv with e|h
        ·exfalso;subst e
         first|omega|(rw[Xu]at pU;cases pU;exact c9 (by cases hq:xv c with|true=>rfl|false=>exact absurd hq (by assumption)))
        ·exact uW h
       have To:∀c,(fx l)[j]? =some c→xv c=false:=fun c hc=>by
        first|(rw[dS (by omega)]at hc;cases hc)|(rw[pU]at hc;cases hc;exact dd.2 c9)
       refine⟨rfl,(j+1,yq),(.cons rfl (.cons rfl (.cons rfl .nil))),?_,?_⟩
       ·exact⟨qx,_,hM,S,qd,hv,JA.word hf uW tH To⟩
       ·dsimp only;omega
     ·refine ar rfl rfl rfl rfl (ar rfl rfl rfl rfl (ar rfl rfl rfl rfl (ar rfl rfl rfl rfl (ar rfl rfl rfl rfl (aE rfl rfl rfl (ab (jD rfl (cL (ae (ad rfl rfl (ad rfl rfl ?_)))))))))));refine aX rfl rfl W8 (yi (M:=rm M2 u7) _ (fun b hb=>hM b hb.1) (oa.view (by have:=hY hf;omega)) (by have:=hY hf;omega)) (fun r12 V3 Tn=>?_);obtain⟨rfl,zM⟩:=Tn;replace zM:=zM.any M2;replace hv:=hv.le zM.le;replace qd:=qd.aM zM;replace oa:=oa.aM zM;replace hM:=zM.lt hM;have:=S.size;replace S:=S.aB zM;refine dQ (A:=RT.str) (hn:=by decide) (M:=M2) aQ I9 (by decide) rfl rfl hM (kF.2 ⟨rfl,by have:=gA own;have:=hY hf;omega⟩) (.inr ⟨rfl,rfl⟩) (fun Xz XA sO qw=>?_);replace hv:=hv.le qw.le;replace qd:=qd.aM qw;replace oa:=oa.aM qw;replace hM:=qw.lt hM;have:=S.size;replace S:=S.aB qw;refine cX (M:=M2) (base:=w0.heap.size) aQ I9 rfl rfl rfl rfl qd sO (aq _ _) (by have:=hY hf;simp;omega) (by have:=hY hf;simp;omega) (S.size) (fun yq qx KP sT eW=>?_);replace hv:=hv.le eW.le;replace sO:=sO.le eW.le;replace oa:=oa.step eW (fun b h1 h2=>oa.dA qd (by decide) h1 h2);replace hM:=eW.lt hM;have:=S.size;replace S:=S.dm eW qd (aR _);replace qd:=sT;refine ah rfl rfl (ab (ae (ad rfl rfl (bD rfl rfl rfl (by omega) (ah rfl rfl (ab ?_))))))
      have uW:0<own.length:=by
       rcases lE Xv with e|h
       ·exfalso;subst e
        first|omega|(rw[Xu]at pU;cases pU;exact c9 (by cases hq:xv c with|true=>rfl|false=>exact absurd hq (by assumption)))
       ·exact uW h
      have To:∀c,(fx l)[j]? =some c→xv c=false:=fun c hc=>by
       first|(rw[dS (by omega)]at hc;cases hc)|(rw[pU]at hc;cases hc;exact dd.2 c9)
      refine⟨rfl,(j+1,yq),(.cons rfl (.cons rfl (.cons rfl .nil))),?_,?_⟩
      ·exact⟨qx,_,hM,S,qd,hv,JA.word hf uW tH To⟩
      ·dsimp only;omega
  ·refine cL (aj (ae (ad rfl rfl (ah rfl rfl (ab (aN ?_))))));have e:=Xs.done (by omega);have e2:words l=ws:=e;rw[e2];exact aU rfl rfl ⟨qd.close lC S (by have:=Xs.len;omega),S.back⟩
end Go.K
namespace Go.K
open Go.Proofs
set_option maxRecDepth 10000
def mD:Nat→List (List UInt8)→Int
 |_,[]=>0
 |i,w::ws=>if 30<w.length then 3 else if 500≤i then 7 else mD (i+1) ws
theorem Hc {i k:Nat} {ws:List (List UInt8)} {x:List UInt8} (h:ws[k]? =some x):mD i (ws.drop k)=if 30<x.length then 3 else if 500≤i then 7 else mD (i+1) (ws.drop (k+1)):=by
 have dO:=(an.1 h).1;rw[dB dO,(an.1 h).2];rfl
theorem ix {M:aC} {w:World} {x:List UInt8} {v:Value} (h:RT.str.V M w x v):v= .string ⟨x.toArray⟩:=(kF.1 h).1
theorem Ip {M:aC} {l:List UInt8} (w0:World) (hM:Lt M w0) (hl:l.length≤900000):
  Spec Tryz.prog 128 #[.string ⟨l.toArray⟩] w0 (fun v w=>(∃u,v= .tuple #[u,.int .i64 (mD 0 (words l))]∧(mD 0 (words l)=0→∃a cap,u= .slice a (words l).length cap))∧Step M w0 M w aD):=by
 have lC:=hM;refine bc (args:=[_]) (fn:=Tryz.f128) Tryz.func128 rfl (n:=30) Tryz.ntmps128 ?_;have S:Step M w0 M w0 aD:=(ax _ _).cG (fun _ h=>h.elim) (fun _ h=>h.elim);refine aj (ae (ah rfl rfl (ah rfl rfl (ab (aj (ae (ah rfl rfl (ab (aj (aj (ae ?_)))))))))));refine ad rfl rfl ?_;refine aX rfl rfl W4 (ym _ hM hl) (fun v1 w1 hc=>?_);obtain⟨hv,s1⟩:=hc;replace hM:=s1.lt hM;have:=S.size;replace S:=S.aB s1;refine bJ aQ rfl hv rfl (ad rfl rfl (ab (aZ ?_)));refine dn (σ:=Nat×Value) (fun q=>[(8,v1),(4,q.2),(9,.int .i64 ((words l).length:Int)),(10,.int .i64 (q.1:Int))]) (fun q w=>(∃M' xs,Lt M' w∧Step M w0 M' w aD∧Own (RT.pair RT.str (RT.int .i64)) 266 M' w w0.heap.size q.2 xs∧xs.length=q.1∧(RT.str.sl).V M' w (words l) v1)∧mD 0 (words l)=mD q.1 ((words l).drop q.1)∧q.1≤(words l).length∧q.1≤500) (fun q=>(words l).length-q.1) (0,.slice none 0 0) (.cons rfl (.cons rfl (.cons rfl (.cons rfl .nil)))) ?_ ?_
 ·exact⟨⟨M,[],hM,S,dE _ _ _ _ _,rfl,hv⟩,rfl,bG _,bG _⟩
 ·rintro⟨i,u⟩ w ⟨⟨M1,xs,hM,S,ho,qU,hv⟩,H7,hi,hi5⟩;dsimp only at ho qU H7 hi hi5 ⊢;refine aj (ae (cf rfl rfl rfl (ab (aj ?_))));refine bP rfl (fun c3=>?_) (fun c3=>?_)
  ·refine aT (aj (aZ (aj (ae (ad rfl rfl ?_)))));refine cF (M:=M1) aQ I9 rfl rfl rfl hv (aq _ _) (by omega) (fun XB x V4 EV=>?_);refine bV (M:=M1) aH rfl rfl rfl rfl rfl EV (aq _ _) (fun vx rB=>?_);rw[ay]at V4;obtain rfl:=ix rB;have ht:=Hc (i:=i) V4;refine ah rfl rfl (ah rfl rfl (ab (aj (aZ (aj (ae (ad rfl rfl (Rg.nu aH rfl rfl (aV (v':= .int .i64 (x.length:Int)) (by simp[ByteArray.size]) (jc rfl rfl rfl (ah rfl rfl ?_)))))))))));refine ab ?_;refine bP rfl (fun c5=>?_) (fun c5=>?_)
   ·refine aj (ae (ah rfl rfl (ah rfl rfl (ab (aN ?_)))));rw[H7,ht,if_pos (by omega)];exact eU rfl rfl rfl ⟨⟨_,rfl,fun h=>by cases h⟩,S.back⟩
   ·refine aj (ae (ad rfl rfl (k7 rfl rfl rfl (ah rfl rfl (ab ?_)))));refine bP rfl (fun c7=>?_) (fun c7=>?_)
    ·refine aj (ae (ah rfl rfl (ah rfl rfl (ab (aN ?_)))));rw[H7,ht,if_neg (by omega),if_pos (by omega)];exact eU rfl rfl rfl ⟨⟨_,rfl,fun h=>by cases h⟩,S.back⟩
    ·refine aT (ae (ad rfl rfl (ad rfl rfl (ad rfl rfl (iW (places:=[(0,1),(1,1)]) Tryz.underlying266 Ih W2 rfl ⟨_,_,rfl,rfl,_,_,rfl,rfl,rfl⟩ (out:=[_,_]) ⟨0,[_],rfl,rfl,by simp[Value.cells],1,[_],rfl,rfl,by simp[Value.cells],rfl⟩ ?_)))));refine dQ (A:=(RT.pair RT.str (RT.int .i64))) (hn:=by decide) (M:=M1) Tryz.underlying212 Ih (by decide) rfl rfl hM (eV rB (gm (x:=(i:Int)) (by omega)) rfl rfl rfl rfl) (.inl rfl) (fun SN Xk fh pT=>?_);replace hv:=hv.le pT.le;replace rB:=rB.le pT.le;replace ho:=ho.aM pT;replace hM:=pT.lt hM;have:=S.size;replace S:=S.aB pT;refine cX (M:=M1) (base:=w0.heap.size) Tryz.underlying212 Ih rfl rfl rfl rfl ho fh (aq _ _) (by simp;omega) (by simp;omega) (S.size) (fun adn ado XC XD qy=>?_);replace hv:=hv.le qy.le;replace rB:=rB.le qy.le;replace fh:=fh.le qy.le;replace hM:=qy.lt hM;have:=S.size;replace S:=S.dm qy ho (aR _);replace ho:=XD;refine ah rfl rfl (ab (ae (bD rfl rfl rfl (by omega) (ad rfl rfl (ab ?_)))));refine⟨rfl,(i+1,adn),(.cons rfl (.cons rfl (.cons rfl (.cons rfl .nil)))),?_,?_⟩
     ·exact⟨⟨ado,_,hM,S,ho,by simp[qU],hv⟩,by rw[H7,ht,if_neg (by omega),if_neg (by omega)],by dsimp only;omega,by dsimp only;omega⟩
     ·dsimp only;omega
  ·refine cL (aj (ae (ad rfl rfl (ah rfl rfl (ah rfl rfl (ab (aN ?_)))))));have e:mD 0 (words l)=0:=by rw[H7,gQ (by omega)];rfl
   rw[e];obtain⟨a,cap,he,_⟩:=ho.isSlice;exact eU rfl rfl rfl ⟨⟨u,rfl,fun _=>⟨a,cap,by rw[he,qU];congr 1;omega⟩⟩,S.back⟩
theorem FB {M:aC} {l:List UInt8} (w0:World) (hM:Lt M w0) (hl:l.length≤900000):
  Spec Tryz.prog 148 #[.string ⟨l.toArray⟩] w0 (fun v w=>(∃u,v= .tuple #[u,.int .i64 (mD 0 (words l))]∧(mD 0 (words l)=0→∃a cap,u= .slice a (words l).length cap))∧Step M w0 M w aD):=by
 have lC:=hM;refine bc (args:=[_]) (fn:=Tryz.f148) Tryz.func148 rfl (n:=33) Tryz.ntmps148 ?_;have S:Step M w0 M w0 aD:=(ax _ _).cG (fun _ h=>h.elim) (fun _ h=>h.elim);refine aj (ae (ah rfl rfl (ah rfl rfl (ab (aj (ae (ad rfl rfl ?_)))))));refine aX rfl rfl acu (C5 _ hM hl) (fun v1 w1 hc=>?_);obtain⟨hv,s1⟩:=hc;replace hM:=s1.lt hM;have:=S.size;replace S:=S.aB s1;refine ah rfl rfl (ab (aj (ae (ah rfl rfl (ab (aj (aj (ae (ah rfl rfl (ab (aZ ?_)))))))))));refine dn (σ:=Nat×Value) (fun q=>[(4,v1),(5,q.2),(6,.int .i64 (q.1:Int))]) (fun q w=>(∃M' xs,Lt M' w∧Step M w0 M' w aD∧Own (RT.pair RT.str (RT.int .i64)) 266 M' w w0.heap.size q.2 xs∧xs.length=q.1∧(RT.str.sl).V M' w (words l) v1)∧mD 0 (words l)=mD q.1 ((words l).drop q.1)∧q.1≤(words l).length∧q.1≤500) (fun q=>(words l).length-q.1) (0,.slice none 0 0) (.cons rfl (.cons rfl (.cons rfl .nil))) ?_ ?_
 ·exact⟨⟨M,[],hM,S,dE _ _ _ _ _,rfl,hv⟩,rfl,bG _,bG _⟩
 ·rintro⟨i,u⟩ w ⟨⟨M1,xs,hM,S,ho,qU,hv⟩,H7,hi,hi5⟩;dsimp only at ho qU H7 hi hi5 ⊢;refine aj (aj (ae (ad rfl rfl (ad rfl rfl (bJ aQ rfl hv rfl (cf rfl rfl rfl (ab ?_)))))));refine bP rfl (fun c4=>?_) (fun c4=>?_)
  ·refine aT (aj (aZ (aj (aj (ae (ad rfl rfl (ad rfl rfl ?_)))))));refine cF (M:=M1) aQ I9 rfl rfl rfl hv (aq _ _) (by omega) (fun Xt x V4 EV=>?_);refine bV (M:=M1) aH rfl rfl rfl rfl rfl EV (aq _ _) (fun vx rB=>?_);rw[ay]at V4;obtain rfl:=ix rB;have ht:=Hc (i:=i) V4;refine Rg.nu aH rfl rfl (aV (v':= .int .i64 (x.length:Int)) (by simp[ByteArray.size]) (jc rfl rfl rfl (ab ?_)));refine bP rfl (fun c6=>?_) (fun c6=>?_)
   ·refine aj (ae (ah rfl rfl (ah rfl rfl (ab (aN ?_)))));rw[H7,ht,if_pos (by omega)];exact eU rfl rfl rfl ⟨⟨_,rfl,fun h=>by cases h⟩,S.back⟩
   ·refine aT (aj (aj (ae (ad rfl rfl (dT rfl rfl rfl (ab ?_))))));refine bP rfl (fun c8=>?_) (fun c8=>?_)
    ·refine aj (ae (ah rfl rfl (ah rfl rfl (ab (aN ?_)))));rw[H7,ht,if_neg (by omega),if_pos (by omega)];exact eU rfl rfl rfl ⟨⟨_,rfl,fun h=>by cases h⟩,S.back⟩
    ·refine aT (ae (ad rfl rfl (ad rfl rfl (ad rfl rfl ?_))));refine cF (M:=M1) aQ I9 rfl rfl rfl hv (aq _ _) (by omega) (fun Xw y hgy huy=>?_);refine bV (M:=M1) aH rfl rfl rfl rfl rfl huy (aq _ _) (fun vy QO=>?_);rw[ay]at hgy;obtain rfl:=ix QO;obtain rfl:x=y:=by rw[V4]at hgy;exact aJ hgy
     refine ad rfl rfl (iW (places:=[(0,1),(1,1)]) Tryz.underlying266 Ih W2 rfl ⟨_,_,rfl,rfl,_,_,rfl,rfl,rfl⟩ (out:=[_,_]) ⟨0,[_],rfl,rfl,by simp[Value.cells],1,[_],rfl,rfl,by simp[Value.cells],rfl⟩ ?_);refine dQ (A:=(RT.pair RT.str (RT.int .i64))) (hn:=by decide) (M:=M1) Tryz.underlying212 Ih (by decide) rfl rfl hM (eV QO (gm (x:=(i:Int)) (by omega)) rfl rfl rfl rfl) (.inl rfl) (fun QN Xy FC pG=>?_);replace hv:=hv.le pG.le;replace rB:=rB.le pG.le;replace QO:=QO.le pG.le;replace ho:=ho.aM pG;replace hM:=pG.lt hM;have:=S.size;replace S:=S.aB pG;refine cX (M:=M1) (base:=w0.heap.size) Tryz.underlying212 Ih rfl rfl rfl rfl ho FC (aq _ _) (by simp;omega) (by simp;omega) (S.size) (fun XE XF He Tp gP=>?_);replace hv:=hv.le gP.le;replace rB:=rB.le gP.le;replace QO:=QO.le gP.le;replace FC:=FC.le gP.le;replace hM:=gP.lt hM;have:=S.size;replace S:=S.dm gP ho (aR _);replace ho:=Tp;refine ah rfl rfl (ab (ae (ad rfl rfl (bD rfl rfl rfl (by omega) (ah rfl rfl (ab ?_))))));refine⟨rfl,(i+1,XE),(.cons rfl (.cons rfl (.cons rfl .nil))),?_,?_⟩
     ·exact⟨⟨XF,_,hM,S,ho,by simp[qU],hv⟩,by rw[H7,ht,if_neg (by omega),if_neg (by omega)],by dsimp only;omega,by dsimp only;omega⟩
     ·dsimp only;omega
  ·refine cL (aj (ae (ad rfl rfl (ah rfl rfl (ah rfl rfl (ab (aN ?_)))))));have e:mD 0 (words l)=0:=by rw[H7,gQ (by omega)];rfl
   rw[e];obtain⟨a,cap,he,_⟩:=ho.isSlice;exact eU rfl rfl rfl ⟨⟨u,rfl,fun _=>⟨a,cap,by rw[he,qU];congr 1;omega⟩⟩,S.back⟩
end Go.K
namespace Go.K
abbrev Fd:=List UInt8×List UInt8
abbrev Dc:=Int×List Fd
abbrev En:=Dc×Int
abbrev RT.fd:RT Fd:=RT.pair RT.str RT.str
abbrev RT.dc:RT Dc:=RT.pair (RT.int .i64) (RT.fd.sl)
abbrev RT.en:RT En:=RT.pair RT.dc (RT.int .i64)
theorem V5:Part RT.fd RT.str (fun p=>p.1) 0:=mR _ _
theorem fd1:Part RT.fd RT.str (fun p=>p.2) 1:=iA _ _
theorem XG:Part RT.dc (RT.int .i64) (fun p=>p.1) 0:=mR _ _
theorem Iq:Part RT.dc (RT.fd.sl) (fun p=>p.2) 1:=iA _ _
theorem XH:Part RT.en RT.dc (fun p=>p.1) 0:=mR _ _
theorem en1:Part RT.en (RT.int .i64) (fun p=>p.2) 2:=iA _ _
theorem KQ {M:aC} {w:World} {p:Dc} {v:Value} (h:RT.dc.V M w p v):∃u,v= .agg #[.int .i64 p.1,u]:=by
 obtain⟨vs,⟨va,vb,rfl,⟨rfl,_⟩,hb⟩,rfl⟩:=h;have:=(RT.fd.sl (by decide)).len hb
 match vb,this with
 |[u],_=>exact⟨u,rfl⟩
theorem QP {M:aC} {w:World} {p:Dc} {u:Value} {s:Int} (h:RT.dc.V M w p (.agg #[.int .i64 p.1,u])) (hs: -9223372036854775808≤s∧s≤9223372036854775807):RT.en.V M w (p,s) (.agg [.int .i64 p.1,u,.int .i64 s].toArray):=by
 obtain⟨vs,h1,h2⟩:=h
 have h3:vs=[.int .i64 p.1,u]:=by
  have:Value.agg #[.int .i64 p.1,u]= .agg vs.toArray:=h2;injection this with this
  simpa using(congrArg Array.toList this).symm
 subst h3;exact⟨_,⟨[.int .i64 p.1,u],[.int .i64 s],rfl,h1,rfl,hs.1,hs.2⟩,rfl⟩
theorem Own.QQ {α:Type} (A:RT α) (e:TypeId) (base:Nat) {M:aC} {w:World} (h:Lt M w):Own A e M w base (.slice none 0 0) []:=dE _ _ _ _ _
section
variable {P:Program} {r:Option Nat} {n:Nat} {L:Sl} {ds:List Deferred} {w:World} {K:Kt} {ops:Array Oper} {rest:List Oper} {d:Nat} {x:Operand} {ty:TypeId} {pos:String} {af:Array Edge}
theorem Rg.qz {α:Type} {A:RT α} {e:TypeId} {v:Value} {a:α} {M:aC} (hx:ev L x=some v) (hd:Nat.blt d n=true) (hM:Lt M w) (hv:A.V M w a v) (hg:A.agg=true)
  (k:∀u w',dg A M w' u a→Step M w M w' aD→w.heap.size≤w'.heap.size→Rg P r n ops rest ((d,u)::L) ds w' K):
  Rg P r n ops ({dst:=some d,op:= .box e x,type:=ty,pos,after:=af,guard:=none}::rest) L ds w K:=by
 refine wX M hx hd (fun b w' h1 h2 hb s=>?_);obtain⟨vs,h3,h4⟩:=hv;have hc:v.cells=vs.toArray:=by subst h4;simp[RT.val,hg,Value.cells]
 rw[hc]at hb;refine k _ w' ⟨b,0,vs,rfl,fun hm=>?_,A.le s.back.le h3,fun j u hj=>?_⟩ s.back s.size
 ·have:=hM b hm;omega
 ·rw[fR];exact fX hb (by simpa using hj)
end
end Go.K
namespace Go.Proofs
open Go.Shelf
def Tryz.C7:Go.Shelf.Ren:=⟨fun|160=>184|232=>231|231=>230|227=>232|234=>234|233=>233|236=>236|235=>235|228=>268|271=>271|151=>270|197=>269|120=>293|152=>292|260=>291|137=>300|119=>290|224=>301|225=>302|217=>304|266=>305|n=>n,fun|9=>9|4=>4|3=>3|5=>5|117=>310|116=>309|0=>0|124=>313|21=>21|105=>344|46=>189|119=>365|139=>368|138=>367|n=>n,fun|3=>2|4=>3|n=>n⟩
theorem Tryz.OW:Go.Proofs.Lays.n160 Tryz.prog Tryz.C7:={
 mixed:=by kernel_rfl
 f119:=Tryz.func290.trans (congrArg some (by kernel_rfl))
 f120:=Tryz.func293.trans (congrArg some (by kernel_rfl))
 f137:=Tryz.func300.trans (congrArg some (by kernel_rfl))
 f151:=Tryz.func270.trans (congrArg some (by kernel_rfl))
 f152:=Tryz.func292.trans (congrArg some (by kernel_rfl))
 f160:=Tryz.func184.trans (congrArg some (by kernel_rfl))
 f197:=Tryz.func269.trans (congrArg some (by kernel_rfl))
 f217:=Tryz.func304.trans (congrArg some (by kernel_rfl))
 f224:=Tryz.func301.trans (congrArg some (by kernel_rfl))
 f225:=Tryz.func302.trans (congrArg some (by kernel_rfl))
 f227:=Tryz.func232.trans (congrArg some (by kernel_rfl))
 f228:=Tryz.func268.trans (congrArg some (by kernel_rfl))
 f231:=Tryz.func230.trans (congrArg some (by kernel_rfl))
 f232:=Tryz.func231.trans (congrArg some (by kernel_rfl))
 f233:=Tryz.func233.trans (congrArg some (by kernel_rfl))
 f234:=Tryz.func234.trans (congrArg some (by kernel_rfl))
 f235:=Tryz.func235.trans (congrArg some (by kernel_rfl))
 f236:=Tryz.func236.trans (congrArg some (by kernel_rfl))
 f260:=Tryz.func291.trans (congrArg some (by kernel_rfl))
 f266:=Tryz.func305.trans (congrArg some (by kernel_rfl))
 f271:=Tryz.func271.trans (congrArg some (by kernel_rfl))
 t0:=fJ
 a0:=lJ
 z0:=j6
 v0:=gI
 t3:=aw
 a3:=lK
 z3:=j7
 v3:=gJ
 t4:=iN
 a4:=rI
 z4:=nL
 v4:=jw
 t5:=cx
 a5:=Tryz.isAgg5
 z5:=Tryz.sizeOf5
 v5:=tw
 t9:=aH
 a9:=lL
 z9:=j8
 v9:=gK
 t21:=Tryz.underlying21
 a21:=Tryz.isAgg21
 z21:=Tryz.sizeOf21
 v21:=Tryz.zeroValue21
 t46:=jO
 a46:=Tryz.isAgg189
 z46:=Tryz.sizeOf189
 v46:=Tryz.zeroValue189
 t105:=Tryz.underlying344
 a105:=Tryz.isAgg344
 z105:=Tryz.sizeOf344
 v105:=Tryz.zeroValue344
 t116:=Tryz.underlying309
 a116:=Tryz.isAgg309
 z116:=Tryz.sizeOf309
 t117:=Tryz.underlying310
 a117:=Tryz.isAgg310
 z117:=Tryz.sizeOf310
 v117:=Tryz.zeroValue310
 t119:=Tryz.underlying365
 a119:=Tryz.isAgg365
 z119:=Tryz.sizeOf365
 t124:=Tryz.underlying313
 a124:=Tryz.isAgg313
 z124:=Tryz.sizeOf313
 v124:=Tryz.zeroValue313
 t138:=Tryz.underlying367
 a138:=Tryz.isAgg367
 z138:=Tryz.sizeOf367
 v138:=Tryz.zeroValue367
 t139:=Tryz.underlying368
 a139:=Tryz.isAgg368
 z139:=Tryz.sizeOf368
 v139:=Tryz.zeroValue368
 g3:=by kernel_rfl
 g4:=by kernel_rfl}
end Go.Proofs
namespace Go.K
open Go.Proofs
set_option maxRecDepth 10000
open Go.RowKit Go.Shelf
def lQ:List UInt8:=[97,98,99,100,101,102,103,104,105,106,107,108,109,110,111,112,113,114,115,116,117,118,119,120,121,122]
def iy (b:UInt8):Bool:=decide (97≤b.toNat∧b.toNat≤122)
def gr (s:List UInt8):Bool:=decide (1≤s.length∧s.length≤12)&&s.all iy
theorem C8 (b:UInt8):lQ.contains b=iy b:=by
 have key:∀n:Fin 256,lQ.contains (UInt8.ofNat n)=iy (UInt8.ofNat n):=by decide
 have:=key ⟨b.toNat,UInt8.toNat_lt b⟩;simpa using this
theorem drop_nil {α:Type} (p:α→Bool):∀l:List α,l.dropWhile p=[]↔∀x∈l,p x=true
 |[]=>by simp
 |x::l=>by
  rw[List.dropWhile_cons];by_cases h:p x=true
  ·rw[if_pos h,drop_nil p l];simp[h]
  ·rw[if_neg h];simp[h]
theorem yr (s:List UInt8):Lib.trimS s lQ=[]↔s.all iy=true:=by
 have e:(fun b=>lQ.contains b)=iy:=funext C8;unfold Lib.trimS Lib.trimLeftS Lib.trimRightS;rw[e,drop_nil,fC];constructor
 ·intro h
  have h2:s.reverse.dropWhile iy=[]:=by
   cases hd:s.reverse.dropWhile iy with
   |nil=>rfl
   |cons x r=>
    have h3:=h x (by rw[hd];simp);have h4:=List.head?_dropWhile_not iy s.reverse;rw[hd]at h4;simp[h3]at h4
  intro x hx;exact(drop_nil _ _).1 h2 x (List.mem_reverse.2 hx)
 ·intro h x hx;rw[(drop_nil iy s.reverse).2 (fun y hy=>h y (List.mem_reverse.1 hy))]at hx
  cases hx
theorem Ir (s:List UInt8) (hs:s.length≤140737488355328) (w:World):Spec Tryz.prog 184 #[.string ⟨s.toArray⟩,.string ⟨lQ.toArray⟩] w (fun v w'=>v= .string ⟨(Lib.trimS s lQ).toArray⟩∧∀M,Step M w M w' aD):=
 (Any.strings_Trim_ascii Tryz.OW Tryz.zeroValue309 (by kernel_rfl) ⟨s.toArray⟩ ⟨lQ.toArray⟩ w (by simp[ByteArray.size];omega) (by decide) (fun j b hj=>by
  have hm:b∈lQ:=aA hj;have:=C8 b;rw[jE.2 hm]at this;have h2:97≤b.toNat∧b.toNat≤122:=by simpa[iy]using this.symm
  omega)).mono fun e w' ⟨h1,h2⟩=>⟨_,h1,rfl,fun M=> .x9 h2 M⟩
theorem Is (s:List UInt8) (hs:s.length≤140737488355328) (w0:World):
  Spec Tryz.prog 129 #[.string ⟨s.toArray⟩] w0 (fun v w=>v= .bool (gr s)∧∀M,Step M w0 M w aD):=by
 refine bc (args:=[_]) (fn:=Tryz.f129) Tryz.func129 rfl (n:=15) Tryz.ntmps129 (aj (ae (ah rfl rfl (ab (aj (ae (ad rfl rfl (Rg.Wr (p:=s) (q:=[]) rfl rfl rfl (ad rfl rfl ?_)))))))));refine aO (g:=5) rfl (fun iJ=>?_) (fun iJ=>?_)
 ·refine al rfl rfl (ad rfl rfl (al rfl rfl (Rg.nu aH rfl rfl (aV (v':= .int .i64 (s.length:Int)) (by simp[ByteArray.size]) (al rfl rfl (gN rfl rfl rfl (aW rfl rfl rfl (ad rfl rfl ?_))))))));refine aO (g:=10) rfl (fun ads=>?_) (fun ads=>?_)
  ·refine al rfl rfl (ad rfl rfl (al rfl rfl ?_));refine aX rfl rfl acj (Ir s hs _) (fun r w9 hc=>?_);obtain⟨rfl,s9⟩:=hc;refine al rfl rfl (Rg.GW (p:=Lib.trimS s lQ) (q:=[]) rfl rfl rfl (aW rfl rfl rfl (ah rfl rfl (ab (aN ?_)))))
   first
   |exact aU rfl rfl ⟨by rw[gr,decide_eq_true (p:=1≤s.length∧s.length≤12) ⟨oI.2 iJ,by omega⟩,eT];exact congrArg Value.bool (by rw[lM,decide_eq_true_eq];exact yr s),s9⟩
   |exact aU rfl rfl ⟨by rw[gr,decide_eq_false (p:=1≤s.length∧s.length≤12) (by omega),kK],fun M=>ax _ _⟩
   |(have Tq:s=[]:=Classical.not_not.1 iJ
     subst Tq;exact aU rfl rfl ⟨rfl,fun M=>ax _ _⟩)
  ·refine ar rfl rfl rfl rfl (ar rfl rfl rfl rfl (ar rfl rfl rfl rfl (aE rfl rfl rfl (ah rfl rfl (ab (aN ?_))))))
   first
   |exact aU rfl rfl ⟨by rw[gr,decide_eq_true (p:=1≤s.length∧s.length≤12) ⟨oI.2 iJ,by omega⟩,eT];exact congrArg Value.bool (by rw[lM,decide_eq_true_eq];exact yr s),s9⟩
   |exact aU rfl rfl ⟨by rw[gr,decide_eq_false (p:=1≤s.length∧s.length≤12) (by omega),kK],fun M=>ax _ _⟩
   |(have Tq:s=[]:=Classical.not_not.1 iJ
     subst Tq;exact aU rfl rfl ⟨rfl,fun M=>ax _ _⟩)
 ·refine ar rfl rfl rfl rfl (ar rfl rfl rfl rfl (ar rfl rfl rfl rfl (aE rfl rfl rfl (ad rfl rfl (ar rfl rfl rfl rfl (ar rfl rfl rfl rfl (ar rfl rfl rfl rfl (aE rfl rfl rfl (ah rfl rfl (ab (aN ?_)))))))))))
  first
  |exact aU rfl rfl ⟨by rw[gr,decide_eq_true (p:=1≤s.length∧s.length≤12) ⟨oI.2 iJ,by omega⟩,eT];exact congrArg Value.bool (by rw[lM,decide_eq_true_eq];exact yr s),s9⟩
  |exact aU rfl rfl ⟨by rw[gr,decide_eq_false (p:=1≤s.length∧s.length≤12) (by omega),kK],fun M=>ax _ _⟩
  |(have Tq:s=[]:=Classical.not_not.1 iJ
    subst Tq;exact aU rfl rfl ⟨rfl,fun M=>ax _ _⟩)
theorem KR {s:List UInt8} (h:∀(k:Nat) c,s[k]? =some c→iy c=true):s.all iy=true:=fC.2 fun c hc=>by
 obtain⟨k,hk⟩:=bm.1 hc;exact h k c hk
theorem tR {s:List UInt8} {i:Nat} (h:i<s.length):s[i]? =some (s.getD i 0):=by rw[az,au h];rfl
theorem sU {M:aC} {w:World} {p:Fd} {v:Value} (h:RT.fd.V M w p v):v= .agg #[.string ⟨p.1.toArray⟩,.string ⟨p.2.toArray⟩]:=by
 obtain⟨vs,⟨va,vb,rfl,⟨rfl,_⟩,⟨rfl,_⟩⟩,rfl⟩:=h;rfl
theorem Tt {M:aC} {w:World} {p:Fd} {v:Value} (h:RT.fd.V M w p v):p.1.length≤140737488355328∧p.2.length≤140737488355328:=by
 obtain⟨vs,⟨va,vb,rfl,⟨rfl,h1⟩,⟨rfl,h2⟩⟩,_⟩:=h;exact⟨h1,h2⟩
def zN:List Fd→List Fd→Nat→Int
 |_,[],n=>if 500<n then 7 else 0
 |seen,f::fs,n=>if gr f.1=false then 4 else if(seen.any fun g=>decide (g.1=f.1))=true then 5 else if mD 0 (words f.2)≠0 then mD 0 (words f.2)else zN (seen++[f]) fs (n+(words f.2).length)
def lR (d:Dc):Int:=if 8<d.2.length then 7 else zN [] d.2 0
theorem Hf {fs:List Fd} {i n:Nat} {x:Fd} (h:fs[i]? =some x):zN (fs.take i) (fs.drop i) n=if gr x.1=false then 4 else if((fs.take i).any fun g=>decide (g.1=x.1))=true then 5 else if mD 0 (words x.2)≠0 then mD 0 (words x.2)else zN (fs.take (i+1)) (fs.drop (i+1)) (n+(words x.2).length):=by
 have dO:=(an.1 h).1;rw[dB dO,(an.1 h).2,cb,h];rfl
theorem tS {fs:List Fd} {i n:Nat} (h:fs.length≤i):zN (fs.take i) (fs.drop i) n=if 500<n then 7 else 0:=by
 rw[gQ h];rfl
theorem yt (s:List UInt8) (hs:s.length≤140737488355328) (w0:World):
  Spec Tryz.prog 93 #[.string ⟨s.toArray⟩] w0 (fun v w=>v= .bool (gr s)∧w=w0):=by
 refine bc (args:=[_]) (fn:=Tryz.f93) Tryz.func93 rfl (n:=28) Tryz.ntmps93 (aj (ae (ah rfl rfl (ab (aj (aj (ae (ah rfl rfl (ab (aZ ?_))))))))));refine dn (σ:=Nat) (fun i=>[(0,.string ⟨s.toArray⟩),(3,.int .i64 (i:Int))]) (fun i w=>w=w0∧i≤s.length∧∀k c,k<i→s[k]? =some c→iy c=true) (fun i=>s.length-i) 0 (.cons rfl (.cons rfl .nil)) ?_ ?_
 ·exact⟨rfl,bG _,fun k c h=>absurd h (Nat.not_lt_zero k)⟩
 ·rintro i w ⟨rfl,hi,hok⟩;refine aj (aj (ae (ad rfl rfl (ad rfl rfl (Rg.nu aH rfl rfl (aV (v':= .int .i64 (s.length:Int)) (by simp[ByteArray.size]) (cf rfl rfl rfl (ab ?_))))))));refine bP rfl (fun c2=>?_) (fun c2=>?_)
  ·refine aT (aj (aZ (aj (ae (ad rfl rfl (ad rfl rfl (Rg.G5 (c:=s.getD i 0) aH rfl rfl rfl (by omega) (by rw[ay];exact tR (by omega)) (cf rfl rfl rfl (ad rfl rfl ?_)))))))));refine aO (g:=14) rfl (fun adt=>?_) (fun adt=>?_)
   ·refine ar rfl rfl rfl rfl (ar rfl rfl rfl rfl (ar rfl rfl rfl rfl (ar rfl rfl rfl rfl (aW rfl rfl rfl (ab (lD rfl (aj (ae (ah rfl rfl (ab (aN ?_)))))))))))
    have hx:s.all iy=false:=dd.2 fun h=>by
     have h2:=fC.1 h _ (aA (tR (s:=s) (i:=i) (by omega)));simp only[iy,decide_eq_true_eq]at h2;omega
    exact aU rfl rfl ⟨by rw[gr,hx,Bool.and_false],rfl⟩
   ·refine al rfl rfl (ad rfl rfl (al rfl rfl (ad rfl rfl (al rfl rfl (Rg.G5 (c:=s.getD i 0) aH rfl rfl rfl (by omega) (by rw[ay];exact tR (by omega)) (al rfl rfl (jc rfl rfl rfl (aE rfl rfl rfl (ab ?_)))))))));refine bP rfl (fun c4=>?_) (fun c4=>?_)
    ·refine aj (ae (ah rfl rfl (ab (aN ?_))))
     have hx:s.all iy=false:=dd.2 fun h=>by
      have h2:=fC.1 h _ (aA (tR (s:=s) (i:=i) (by omega)));simp only[iy,decide_eq_true_eq]at h2;omega
     exact aU rfl rfl ⟨by rw[gr,hx,Bool.and_false],rfl⟩
    ·refine aT (ae (ad rfl rfl (bD rfl rfl rfl (by omega) (ah rfl rfl (ab ?_)))));refine⟨rfl,i+1,(.cons rfl (.cons rfl .nil)),?_,?_⟩
     ·exact⟨rfl,by omega,fun k c h hc=>by
       rcases cJ k i with h2|h2
       ·exact hok k c h2 hc
       ·obtain rfl:k=i:=by omega
        rw[tR (by omega)]at hc;cases hc;simp only[iy,decide_eq_true_eq];omega⟩
     ·omega
  ·refine cL (aj (ae (ad rfl rfl (Rg.nu aH rfl rfl (aV (v':= .int .i64 (s.length:Int)) (by simp[ByteArray.size]) (dT rfl rfl rfl (ad rfl rfl ?_)))))));refine aO (g:=23) rfl (fun oc=>?_) (fun oc=>?_)
   ·refine al rfl rfl (ad rfl rfl (al rfl rfl (Rg.nu aH rfl rfl (aV (v':= .int .i64 (s.length:Int)) (by simp[ByteArray.size]) (al rfl rfl (gN rfl rfl rfl (aW rfl rfl rfl (ah rfl rfl (ab (aN ?_))))))))));have ha:s.all iy=true:=KR fun k c hc=>hok k c (by have:=(an.1 hc).1;omega) hc
    first
    |exact aU rfl rfl ⟨by rw[gr,ha,Bool.and_true];exact congrArg Value.bool (decide_eq_decide.2 (by omega)),rfl⟩
    |exact aU rfl rfl ⟨by rw[gr,ha,Bool.and_true];exact congrArg Value.bool (decide_eq_false (by omega)).symm,rfl⟩
   ·refine ar rfl rfl rfl rfl (ar rfl rfl rfl rfl (ar rfl rfl rfl rfl (aE rfl rfl rfl (ah rfl rfl (ab (aN ?_))))));have ha:s.all iy=true:=KR fun k c hc=>hok k c (by have:=(an.1 hc).1;omega) hc
    first
    |exact aU rfl rfl ⟨by rw[gr,ha,Bool.and_true];exact congrArg Value.bool (decide_eq_decide.2 (by omega)),rfl⟩
    |exact aU rfl rfl ⟨by rw[gr,ha,Bool.and_true];exact congrArg Value.bool (decide_eq_false (by omega)).symm,rfl⟩
theorem It {M:aC} {o:Fd} {v0:Value} (w0:World) (hM:Lt M w0) (hv:RT.fd.V M w0 o v0) {nm:List UInt8} {t:Value} {bf:Nat} (g:w0.heap[bf]? =some (.cells #[.string ⟨nm.toArray⟩,t] 166 (0,0))) (Ax:M bf):
  Spec Tryz.prog 131 #[v0,.pointer (some ⟨bf,0,none⟩)] w0 (fun v w=>v= .bool (decide (o.1=nm))∧Step M w0 M w aD):=by
 refine bc (args:=[_,_]) (fn:=Tryz.f131) Tryz.func131 rfl (n:=9) Tryz.ntmps131 ?_;have S:Step M w0 M w0 aD:=(ax _ _).cG (fun _ h=>h.elim) (fun _ h=>h.elim);refine aj (ae ?_);refine Rg.qz (A:=RT.fd) rfl rfl hM hv rfl (fun u0 w1 dp s0 _=>?_);have:=ak g;replace Ax:=(s0.mem _ this).2 Ax;replace g:=s0.aK g;replace hM:=s0.lt hM;have:=S.size;replace S:=S.aB s0;refine ah rfl rfl (ab (aj (ae ?_)));refine aS (M:=M) (A:=RT.fd) (B:=RT.str) cv rfl rfl I9 (by decide) (V5) rfl rfl (by decide) (by assumption) (by repeat (first|exact aq _ _|refine aY (bu (by assumption)) ?_)) (fun BB nc=>?_);refine bV (M:=M) aH rfl rfl rfl rfl rfl nc (aq _ _) (fun v1 Ay=>?_);obtain rfl:=ix Ay;refine bN (o':=0) cv rfl rfl I9 (by decide) rfl rfl (aL aH rfl rfl rfl (by assumption) rfl (Rg.GW (p:=o.1) (q:=nm) rfl rfl rfl (ah rfl rfl (ab (aN ?_)))));exact aU rfl rfl ⟨rfl,S⟩
theorem FD {M:aC} {fs:List Fd} {v0:Value} (w0:World) (hM:Lt M w0) (hv:(RT.fd.sl).V M w0 fs v0) {nm:List UInt8} {t:Value} {bf:Nat} (g:w0.heap[bf]? =some (.cells #[.string ⟨nm.toArray⟩,t] 166 (0,0))) (Ax:M bf):
  Spec Tryz.prog 185 #[v0,.func (.func 131) #[] #[.pointer (some ⟨bf,0,none⟩)]] w0 (fun v w=>(∃k:Int,v= .int .i64 k∧(0≤k↔(fs.any fun g=>decide (g.1=nm))=true)∧ -1≤k∧k≤9223372036854775807)∧Step M w0 M w aD):=by
 have ER:=ep hv;refine bc (args:=[_,_]) (fn:=Tryz.f185) Tryz.func185 rfl (n:=19) Tryz.ntmps185 ?_;have S:Step M w0 M w0 aD:=(ax _ _).cG (fun _ h=>h.elim) (fun _ h=>h.elim);refine aj (ae (ah rfl rfl (ab (aj (aj (ae (ad rfl rfl (bJ bj rfl hv rfl (ad rfl rfl (ab (aZ ?_)))))))))));refine dn (σ:=Nat) (fun i=>[(0,v0),(1,.func (.func 131) #[] #[.pointer (some ⟨bf,0,none⟩)]),(6,v0),(7,.int .i64 (fs.length:Int)),(8,.int .i64 (i:Int))]) (fun i w=>Lt M w∧Step M w0 M w aD∧(w.heap[bf]? =some (.cells #[.string ⟨nm.toArray⟩,t] 166 (0,0)))∧(RT.fd.sl).V M w fs v0∧i≤fs.length∧∀k o,k<i→fs[k]? =some o→o.1≠nm) (fun i=>fs.length-i) 0 (.cons rfl (.cons rfl (.cons rfl (.cons rfl (.cons rfl .nil))))) ?_ ?_
 ·exact⟨hM,S,g,hv,bG _,fun k c h=>absurd h (Nat.not_lt_zero k)⟩
 ·rintro i w ⟨hM,S,g,hv,hi,hok⟩;refine aj (ae (cf rfl rfl rfl (ab (aj ?_))));refine bP rfl (fun c2=>?_) (fun c2=>?_)
  ·refine aT (aj (aZ (aj (ae (ad rfl rfl (ah rfl rfl (ab (aj (ae (ad rfl rfl (ad rfl rfl ?_)))))))))));refine ad rfl rfl ?_;refine cF (M:=M) bj kD rfl rfl rfl hv (aq _ _) (by omega) (fun u4 o wC ET=>?_);refine de (M:=M) (A:=RT.fd) cv rfl kD (by decide) rfl rfl rfl ET (aq _ _) (fun v4 rU=>?_);rw[ay]at wC;refine zC (first:=[]) (captured:=[.pointer (some ⟨bf,0,none⟩)]) rfl rfl rfl acd (It _ hM rU g Ax) (fun r5 w5 hc=>?_);obtain⟨rfl,s5⟩:=hc;have:=ak g;replace Ax:=(s5.mem _ this).2 Ax;replace g:=s5.aK g;replace hv:=hv.le s5.le;replace hM:=s5.lt hM;have:=S.size;replace S:=S.aB s5;refine ab ?_;refine bP rfl (fun c4=>?_) (fun c4=>?_)
   ·refine aj (ae (ad rfl rfl (ah rfl rfl (ab (aN ?_)))));exact aU rfl rfl ⟨⟨_,rfl,⟨fun _=>uN.2 ⟨o,aA wC,by simpa using(by assumption)⟩,fun _=>by omega⟩,by omega,by omega⟩,S.back⟩
   ·refine aT (ae (bD rfl rfl rfl (by omega) (ad rfl rfl (ab ?_))));refine⟨rfl,i+1,(.cons rfl (.cons rfl (.cons rfl (.cons rfl (.cons rfl .nil))))),?_,?_⟩
    ·exact⟨hM,S,g,hv,by omega,fun k o' h hc=>by
      rcases cJ k i with h2|h2
      ·exact hok k o' h2 hc
      ·obtain rfl:k=i:=by omega
       rw[wC]at hc;cases hc;assumption⟩
    ·omega
  ·refine cL (aj (ae (ah rfl rfl (ab (aN ?_)))))
   exact aU rfl rfl ⟨⟨-1,rfl,⟨fun h=>by omega,fun h=>by
    obtain⟨o,ho,he⟩:=uN.1 h;obtain⟨k,hk⟩:=bm.1 ho;exact absurd (by simpa using he) (hok k o (by have:=(an.1 hk).1;omega) hk)⟩,by omega,by omega⟩,S.back⟩
theorem C9 {M:aC} {fs:List Fd} {v0:Value} (w0:World) (hM:Lt M w0) (hv:(RT.fd.sl).V M w0 fs v0) {nm:List UInt8} {t:Value} {bf:Nat} (g:w0.heap[bf]? =some (.cells #[.string ⟨nm.toArray⟩,t] 166 (0,0))) (Ax:M bf):
  Spec Tryz.prog 130 #[v0,.func (.func 131) #[] #[.pointer (some ⟨bf,0,none⟩)]] w0 (fun v w=>v= .bool (fs.any fun g=>decide (g.1=nm))∧Step M w0 M w aD):=by
 refine bc (args:=[_,_]) (fn:=Tryz.f130) Tryz.func130 rfl (n:=9) Tryz.ntmps130 ?_;have S:Step M w0 M w0 aD:=(ax _ _).cG (fun _ h=>h.elim) (fun _ h=>h.elim);refine aj (ae (ah rfl rfl (ab (aj (ae (ad rfl rfl (ad rfl rfl ?_)))))));refine aX rfl rfl ack (FD _ hM hv g Ax) (fun r1 w1 hc=>?_);obtain⟨⟨k,rfl,hk,_⟩,s1⟩:=hc;have:=ak g;replace Ax:=(s1.mem _ this).2 Ax;replace g:=s1.aK g;replace hv:=hv.le s1.le;replace hM:=s1.lt hM;have:=S.size;replace S:=S.aB s1;refine dT rfl rfl rfl (ah rfl rfl (ab (aN ?_)));exact aU rfl rfl ⟨congrArg Value.bool (by rw[lM,decide_eq_true_eq];exact hk),S⟩
theorem KS {M:aC} {d:Dc} {v0:Value} (w0:World) (hM:Lt M w0) (hv:RT.dc.V M w0 d v0) (hl:∀f∈d.2,f.1.length≤900000∧f.2.length≤900000):
  Spec Tryz.prog 86 #[v0] w0 (fun v w=>v= .int .i64 (lR d)∧Step M w0 M w aD):=by
 have lC:=hM;refine bc (args:=[_]) (fn:=Tryz.f86) Tryz.func86 rfl (n:=49) Tryz.ntmps86 ?_;have S:Step M w0 M w0 aD:=(ax _ _).cG (fun _ h=>h.elim) (fun _ h=>h.elim);refine aj (ae ?_);refine Rg.qz (A:=RT.dc) rfl rfl hM hv rfl (fun u0 w1 dp s0 _=>?_);replace hM:=s0.lt hM;have:=S.size;replace S:=S.aB s0;refine ah rfl rfl (ab (aj (aj (ae ?_))));refine aS (M:=M) (A:=RT.dc) (B:=(RT.fd).sl) a8 rfl rfl vh (by decide) (Iq) rfl rfl (by decide) (by assumption) (by repeat (first|exact aq _ _|refine aY (bu (by assumption)) ?_)) (fun BB nc=>?_);refine bV (M:=M) bj rfl rfl rfl rfl rfl (by assumption) (by repeat (first|exact aq _ _|refine aY (bu (by assumption)) ?_)) (fun zO nf=>?_);refine bJ bj rfl nf rfl (jc rfl rfl rfl (ab ?_));refine bP rfl (fun c1=>?_) (fun c1=>?_)
 ·refine aj (ae (ah rfl rfl (ab (aN ?_))));exact aU rfl rfl ⟨by rw[lR,if_pos (by omega)],S.back⟩
 ·refine aT (aj (ae (ah rfl rfl (ab (aj (aj (ae ?_)))))));refine aS (M:=M) (A:=RT.dc) (B:=(RT.fd).sl) a8 rfl rfl vh (by decide) (Iq) rfl rfl (by decide) (by assumption) (by repeat (first|exact aq _ _|refine aY (bu (by assumption)) ?_)) (fun Tu Hg=>?_);refine bV (M:=M) bj rfl rfl rfl rfl rfl (by assumption) (by repeat (first|exact aq _ _|refine aY (bu (by assumption)) ?_)) (fun Tv KT=>?_);refine bJ bj rfl KT rfl (ad rfl rfl (ab (aZ ?_)));refine dn (σ:=Nat×Nat) (fun q=>[(1,u0),(3,.int .i64 (q.2:Int)),(13,Tv),(14,.int .i64 (d.2.length:Int)),(15,.int .i64 (q.1:Int))]) (fun q w=>∃M',Lt M' w∧Step M w0 M' w aD∧dg RT.dc M' w u0 d∧(RT.fd.sl).V M' w d.2 Tv∧lR d=zN (d.2.take q.1) (d.2.drop q.1) q.2∧q.1≤d.2.length∧q.2≤900001*q.1) (fun q=>d.2.length-q.1) (0,0) (.cons rfl (.cons rfl (.cons rfl (.cons rfl (.cons rfl .nil))))) ?_ ?_
  ·exact⟨M,hM,S,dp,KT,by rw[lR,if_neg (by omega)];rfl,bG _,aR _⟩
  ·rintro⟨i,n⟩ w ⟨M1,hM,S,dp,lA,FE,hi,hn⟩;dsimp only at FE hi hn ⊢;refine aj (ae (cf rfl rfl rfl (ab (aj ?_))));refine bP rfl (fun c5=>?_) (fun c5=>?_)
   ·refine aT (aj (aZ (aj (ae (ad rfl rfl ?_)))));refine cF (M:=M1) bj kD rfl rfl rfl lA (aq _ _) (by omega) (fun u6 x Jz Fz=>?_);refine de (M:=M1) (A:=RT.fd) cv rfl kD (by decide) rfl rfl rfl Fz (aq _ _) (fun v6 uM=>?_);rw[ay]at Jz;obtain rfl:=sU uM;have kC:=Hf (n:=n) Jz;have qU:=hl _ (aA Jz);refine ey M1 kD rfl (fun Tx adu am9 ana oc KU=>?_);obtain⟨Da,KV⟩:∃M',M'=ins M1 Tx:=⟨_,rfl⟩;rw[←KV]at KU;have mE:Da Tx:=by rw[KV];exact .inl rfl
    change adu.heap[Tx]? =some (.cells #[.string ⟨#[]⟩,.string ⟨#[]⟩] _ _)at oc;replace dp:=dp.le (by decide) KU.le;replace lA:=lA.le KU.le;replace hM:=KU.lt hM;have:=S.size;replace S:=S.aB KU;refine ah rfl rfl ?_;refine ez (M:=Da) (vs:=[.string ⟨x.1.toArray⟩,.string ⟨x.2.toArray⟩]) kD rfl rfl (by intro u hu;simp at hu;rcases hu with rfl|rfl<;>rfl) rfl rfl oc mE (fun w6 g6 s6=>?_);have:=ak oc;replace mE:=(s6.mem _ this).2 mE;replace dp:=dp.le (by decide) s6.le;replace lA:=lA.le s6.le;replace hM:=s6.lt hM;have:=S.size;replace S:=S.trans s6 (fun k hk h=>by have h:_=_:=h;subst h;first|(exfalso;omega)|(show _≤_;omega)|exact⟨by first|omega|assumption,(S.mem _ hk).1 ((s6.mem _ (ak oc)).1 mE)⟩|exact .inl rfl|exact .inr rfl|exact .inr (.inl rfl)|exact .inr (.inr rfl)|exact .inr (.inr (.inl rfl))|exact rfl);have QR:=g6;clear oc;have oc:=QR;clear QR;refine ab (aj (ae (bN (o':=1) cv rfl rfl I9 (by decide) rfl rfl (aL aH rfl rfl rfl (by assumption) rfl ?_))));refine aX rfl rfl ab9 (Ip _ hM qU.2) (fun r7 w7 hc=>?_);obtain⟨⟨u7,rfl,hu7⟩,s7⟩:=hc;have:=ak oc;replace mE:=(s7.mem _ this).2 mE;replace oc:=s7.aK oc;replace dp:=dp.le (by decide) s7.le;replace lA:=lA.le s7.le;replace hM:=s7.lt hM;have:=S.size;replace S:=S.aB s7;refine ad rfl rfl (bK rfl rfl rfl (bK rfl rfl rfl (ah rfl rfl (ah rfl rfl (ab (aj (aZ (aj (ae (bN (o':=0) cv rfl rfl I9 (by decide) rfl rfl (aL aH rfl rfl rfl (by assumption) rfl ?_)))))))))));refine aX rfl rfl aca (Is x.1 (by omega) _) (fun r8 w8 hc=>?_);obtain⟨rfl,s8_⟩:=hc;have s8:=s8_ Da;have:=ak oc;replace mE:=(s8.mem _ this).2 mE;replace oc:=s8.aK oc;replace dp:=dp.le (by decide) s8.le;replace lA:=lA.le s8.le;replace hM:=s8.lt hM
    have:=S.size;replace S:=S.aB s8;refine mS rfl rfl (aV (v':= .bool (decide (gr x.1=false))) (by cases gr x.1<;>rfl) (ah rfl rfl (ab ?_)));refine bP rfl (fun c8=>?_) (fun c8=>?_)
    ·refine aj (ae (ah rfl rfl (ab (aN ?_))));exact aU rfl rfl ⟨by rw[FE,kC,if_pos (by assumption)],S.back⟩
    ·refine aj (ae ?_);refine aS (M:=Da) (A:=RT.dc) (B:=(RT.fd).sl) a8 rfl rfl vh (by decide) (Iq) rfl rfl (by decide) (by assumption) (by repeat (first|exact aq _ _|refine aY (bu (by assumption)) ?_)) (fun QS eF=>?_);refine bV (M:=Da) bj rfl rfl rfl rfl rfl (by assumption) (by repeat (first|exact aq _ _|refine aY (bu (by assumption)) ?_)) (fun XI KW=>?_);refine ad rfl rfl ?_;refine Rg.On bj kD rfl rfl rfl KW (by omega) (fun u10 XJ=>?_);rw[ay]at XJ;refine ka (xs:=[]) (ys:=[.tmp 5]) rfl rfl rfl ?_;refine aX rfl rfl acb (C9 _ hM XJ oc mE) (fun r10 w10 hc=>?_);obtain⟨rfl,Cm⟩:=hc;have:=ak oc;replace mE:=(Cm.mem _ this).2 mE;replace oc:=Cm.aK oc;replace dp:=dp.le (by decide) Cm.le;replace lA:=lA.le Cm.le;replace hM:=Cm.lt hM;have:=S.size;replace S:=S.aB Cm;refine ah rfl rfl (aV (v':= .bool (decide (((d.2.take i).any fun g=>decide (g.1=x.1))=true))) (by cases((d.2.take i).any fun g=>decide (g.1=x.1))<;>rfl) (ab ?_));refine bP rfl (fun c10=>?_) (fun c10=>?_)
     ·refine aj (ae (ah rfl rfl (ab (aN ?_))));exact aU rfl rfl ⟨by rw[FE,kC,if_neg (by assumption),if_pos (by assumption)],S.back⟩
     ·refine aj (ae (ad rfl rfl (fp rfl rfl rfl (ah rfl rfl (ab ?_)))));refine bP rfl (fun SQ=>?_) (fun SQ=>?_)
      ·refine aj (ae (ad rfl rfl (ah rfl rfl (ab (aN ?_)))));exact aU rfl rfl ⟨by rw[FE,kC,if_neg (by assumption),if_neg (by assumption),if_pos (by assumption)];rfl,S.back⟩
      ·refine aT (ae (ad rfl rfl ?_));have QT:mD 0 (words x.2)=0:=Classical.not_not.1 SQ;obtain⟨a,cap,rfl⟩:=hu7 QT;have hwl:=qX x.2;refine ad rfl rfl (Rg.mu Tryz.underlying212 rfl rfl (bD rfl rfl rfl (by omega) (ah rfl rfl (ab (ae (bD rfl rfl rfl (by omega) (ad rfl rfl (ab ?_))))))));refine⟨rfl,(i+1,n+(words x.2).length),(.cons rfl (.cons rfl (.cons rfl (.cons rfl (.cons rfl .nil))))),?_,?_⟩
       ·exact⟨_,hM,S,dp,lA,by rw[FE,kC,if_neg (by assumption),if_neg (by assumption),if_neg SQ],by dsimp only;omega,by dsimp only;omega⟩
       ·dsimp only;omega
   ·refine cL (aj (aj (ae (ad rfl rfl (jc rfl rfl rfl (ab ?_))))));refine bP rfl (fun V6=>?_) (fun V6=>?_)
    ·refine aj (ae (ah rfl rfl (ab (aN ?_))));exact aU rfl rfl ⟨by rw[FE,tS (by omega),if_pos (by omega)],S.back⟩
    ·refine aT (aj (ae (ah rfl rfl (ab (aN ?_)))));exact aU rfl rfl ⟨by rw[FE,tS (by omega),if_neg (by omega)],S.back⟩
end Go.K
