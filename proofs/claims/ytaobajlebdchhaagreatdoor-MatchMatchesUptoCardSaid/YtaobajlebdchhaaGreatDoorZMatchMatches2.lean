/- What the law 'MatchMatches' needs of walks and plain Lean, part 2: nothing is assumed beyond the texts that it imports. -/
import Derived.ChangeKeysEq
import Derived.Ground.Names2Prog
import Derived.KernelRfl
import Derived.Laws.IdiomCopy
import Derived.Laws.MakeOwn
import Derived.Laws.StructEq
import Derived.Lib.RuneBytes
import Derived.Lib.SliceRun
import Derived.Maps.OwnSet
import Derived.Shelf.SlGeneric
import Derived.Shelf.Slices.SearchI
import Derived.Shelf.Small.Strs
import Derived.Shelf.Small.Utf8
import Derived.Shelf.Strings.Builder1
import Derived.Shelf.Strings.BuilderRune
import Derived.Shelf.Strings.SlTrimAscii
import Derived.Test.YtaobajlebdchhaaGreatDoorProg
import Derived.Test.YtaobajlebdchhaaGreatDoorZMatchMatches1
set_option linter.unusedVariables false
set_option linter.unusedSimpArgs false
theorem ab:type_of% @Go.K.Rg.move:=@Go.K.Rg.move
theorem ad:type_of% @Go.K.Rg.nil:=@Go.K.Rg.nil
theorem ah:type_of% @Go.K.Rg.aD:=@Go.K.Rg.aD
theorem aj:type_of% @Go.K.Rg.bI:=@Go.K.Rg.bI
theorem ak:type_of% @Go.Proofs.Tryz.underlying28:=@Go.Proofs.Tryz.underlying28
theorem al:type_of% @Go.Proofs.Tryz.underlying3:=@Go.Proofs.Tryz.underlying3
theorem an:type_of% @List.getElem?_eq_some_iff:=@List.getElem?_eq_some_iff
theorem ao:type_of% @Go.K.Rg.fieldAddr:=@Go.K.Rg.fieldAddr
theorem aq:type_of% @List.getElem?_eq_getElem:=@List.getElem?_eq_getElem
theorem ar:type_of% @Int.toNat_natCast:=@Int.toNat_natCast
theorem av:type_of% @List.mem_of_getElem?:=@List.mem_of_getElem?
theorem ax:type_of% @Go.Proofs.Tryz.underlying25:=@Go.Proofs.Tryz.underlying25
theorem ay:type_of% @Go.K.bL.cons:=@Go.K.bL.cons
theorem az:type_of% @Go.Proofs.Tryz.underlying61:=@Go.Proofs.Tryz.underlying61
theorem aA:type_of% @Go.Proofs.Tryz.underlying9:=@Go.Proofs.Tryz.underlying9
theorem aB:type_of% @Go.K.Rg.bH:=@Go.K.Rg.bH
theorem aE:type_of% @Go.K.cf.cons:=@Go.K.cf.cons
theorem aH:type_of% @Go.K.T.region:=@Go.K.T.region
theorem aI:type_of% @Option.some.inj:=@Option.some.inj
theorem aJ:type_of% @Go.K.T.ret:=@Go.K.T.ret
theorem aL:type_of% @Go.K.T.seq:=@Go.K.T.seq
theorem aN:type_of% @Go.K.Rg.assign:=@Go.K.Rg.assign
theorem aO:type_of% @Go.K.Rg.bF:=@Go.K.Rg.bF
theorem aP:type_of% @Go.K.Rg.call:=@Go.K.Rg.call
theorem aR:type_of% @Go.K.Rg.bT:=@Go.K.Rg.bT
theorem aS:type_of% @Go.K.T.skip:=@Go.K.T.skip
theorem aT:type_of% @Go.Proofs.Tryz.underlying36:=@Go.Proofs.Tryz.underlying36
theorem aU:type_of% @Go.K.Rg.b7:=@Go.K.Rg.b7
theorem aW:type_of% @Go.Proofs.Tryz.underlying72:=@Go.Proofs.Tryz.underlying72
theorem aX:type_of% @Go.K.T.block:=@Go.K.T.block
theorem aY:type_of% @Go.K.Rg.bX:=@Go.K.Rg.bX
theorem a7:type_of% @List.length_take:=@List.length_take
theorem a8:type_of% @Nat.zero_le:=@Nat.zero_le
theorem bg:type_of% @Go.K.Rg.eqv:=@Go.K.Rg.eqv
theorem bm:type_of% @Go.K.Rg.nilCheck:=@Go.K.Rg.nilCheck
theorem bp:type_of% @List.take_of_length_le:=@List.take_of_length_le
theorem br:type_of% @Go.Proofs.Tryz.underlying24:=@Go.Proofs.Tryz.underlying24
theorem bu:type_of% @Go.K.Rg.cT:=@Go.K.Rg.cT
theorem bz:type_of% @Nat.le_refl:=@Nat.le_refl
theorem bA:type_of% @Go.K.Le.trans:=@Go.K.Le.trans
theorem bB:type_of% @Go.K.Rg.load:=@Go.K.Rg.load
theorem bC:type_of% @Go.K.Rg.cy:=@Go.K.Rg.cy
theorem bD:type_of% @Go.Proofs.Tryz.underlying26:=@Go.Proofs.Tryz.underlying26
theorem bE:type_of% @Go.K.T.dA:=@Go.K.T.dA
theorem bG:type_of% @Go.Proofs.Tryz.underlying70:=@Go.Proofs.Tryz.underlying70
theorem bJ:type_of% @Go.Proofs.Tryz.underlying117:=@Go.Proofs.Tryz.underlying117
theorem bK:type_of% @List.mem_iff_getElem?:=@List.mem_iff_getElem?
theorem bM:type_of% @List.length_append:=@List.length_append
theorem bN:type_of% @Go.K.Rg.cq:=@Go.K.Rg.cq
theorem bO:type_of% @List.mem_cons_self:=@List.mem_cons_self
theorem bQ:type_of% @Go.K.Le.refl:=@Go.K.Le.refl
theorem bR:type_of% @Go.K.Step.le:=@Go.K.Step.le
theorem bV:type_of% @Go.K.Rg.cE:=@Go.K.Rg.cE
theorem bW:type_of% @List.length_map:=@List.length_map
theorem bY:type_of% @List.take_add_one:=@List.take_add_one
theorem bZ:type_of% @Go.Proofs.Tryz.underlying293:=@Go.Proofs.Tryz.underlying293
theorem b4:type_of% @Go.Proofs.Tryz.underlying323:=@Go.Proofs.Tryz.underlying323
theorem cg:type_of% @List.getD_eq_getElem?_getD:=@List.getD_eq_getElem?_getD
theorem ch:type_of% @Go.K.Step.aF:=@Go.K.Step.aF
theorem ck:type_of% @Decidable.not_not:=@Decidable.not_not
theorem cn:type_of% @Go.Sem.run_bind:=@Go.Sem.run_bind
theorem cp:type_of% @Go.K.Rg.eg:=@Go.K.Rg.eg
theorem cu:type_of% @List.mem_cons_of_mem:=@List.mem_cons_of_mem
theorem cv:type_of% @Go.K.Rg.de:=@Go.K.Rg.de
theorem cw:type_of% @Go.Proofs.Tryz.underlying188:=@Go.Proofs.Tryz.underlying188
theorem cx:type_of% @Go.K.Rg.fT:=@Go.K.Rg.fT
theorem cz:type_of% @Bool.and_eq_true:=@Bool.and_eq_true
theorem cA:type_of% @List.mem_map:=@List.mem_map
theorem cB:type_of% @List.length_eq_zero_iff:=@List.length_eq_zero_iff
theorem cC:type_of% @Go.K.Rg.idx:=@Go.K.Rg.idx
theorem cD:type_of% @Eq.symm:=@Eq.symm
theorem cF:type_of% @Go.Result.andThen_ok:=@Go.Result.andThen_ok
theorem cH:type_of% @Nat.lt_or_ge:=@Nat.lt_or_ge
theorem cI:type_of% @Go.K.Rg.extract:=@Go.K.Rg.extract
theorem cJ:type_of% @List.length_cons:=@List.length_cons
theorem cK:type_of% @Go.Proofs.Tryz.underlying153:=@Go.Proofs.Tryz.underlying153
theorem cM:type_of% @List.getElem?_eq_none:=@List.getElem?_eq_none
theorem cN:type_of% @Go.K.T.exit:=@Go.K.T.exit
theorem cQ:type_of% @Go.Proofs.Tryz.underlying45:=@Go.Proofs.Tryz.underlying45
theorem cW:type_of% @List.length_drop:=@List.length_drop
theorem cY:type_of% @Go.K.Rg.dq:=@Go.K.Rg.dq
theorem db:type_of% @Go.Proofs.Tryz.underlying5:=@Go.Proofs.Tryz.underlying5
theorem dd:type_of% @Go.K.T.loop:=@Go.K.T.loop
theorem dm:type_of% @List.getElem?_take:=@List.getElem?_take
theorem dn:type_of% @List.mem_singleton:=@List.mem_singleton
theorem dp:type_of% @Option.toList_some:=@Option.toList_some
theorem dr:type_of% @Bool.true_and:=@Bool.true_and
theorem du:type_of% @List.mem_cons:=@List.mem_cons
theorem dw:type_of% @Go.K.Rg.build:=@Go.K.Rg.build
theorem dx:type_of% @Go.Proofs.Tryz.underlying126:=@Go.Proofs.Tryz.underlying126
theorem dy:type_of% @Go.Proofs.Tryz.underlying261:=@Go.Proofs.Tryz.underlying261
theorem dz:type_of% @Nat.le_trans:=@Nat.le_trans
theorem dC:type_of% @List.length_pos_iff:=@List.length_pos_iff
theorem dF:type_of% @Go.Proofs.Tryz.underlying114:=@Go.Proofs.Tryz.underlying114
theorem dH:type_of% @Array.getElem?_setIfInBounds:=@Array.getElem?_setIfInBounds
theorem dI:type_of% @List.mem_append:=@List.mem_append
theorem dJ:type_of% @Go.K.Rg.append:=@Go.K.Rg.append
theorem dR:type_of% @Go.Proofs.Tryz.underlying250:=@Go.Proofs.Tryz.underlying250
theorem dU:type_of% @List.map_append:=@List.map_append
theorem dW:type_of% @List.length_singleton:=@List.length_singleton
theorem dZ:type_of% @List.all_eq_true:=@List.all_eq_true
theorem ec:type_of% @Nat.not_lt_zero:=@Nat.not_lt_zero
theorem ed:type_of% @Go.Proofs.Tryz.underlying74:=@Go.Proofs.Tryz.underlying74
theorem ek:type_of% @List.getElem?_map:=@List.getElem?_map
theorem eo:type_of% @List.pairwise_map:=@List.pairwise_map
theorem eu:type_of% @List.length_filter_le:=@List.length_filter_le
theorem ew:type_of% @Go.K.Rg.alloc:=@Go.K.Rg.alloc
theorem ey:type_of% @Go.Proofs.Tryz.underlying182:=@Go.Proofs.Tryz.underlying182
theorem eB:type_of% @Go.K.Rg.k4:=@Go.K.Rg.k4
theorem eC:type_of% @Go.K.Rg.eM:=@Go.K.Rg.eM
theorem eD:type_of% @Bool.false_and:=@Bool.false_and
theorem eE:type_of% @List.filter_append:=@List.filter_append
theorem eG:type_of% @Go.Proofs.Tryz.underlying29:=@Go.Proofs.Tryz.underlying29
theorem eH:type_of% @Go.Proofs.Tryz.underlying296:=@Go.Proofs.Tryz.underlying296
theorem eL:type_of% @Go.K.Own.nil:=@Go.K.Own.nil
theorem eQ:type_of% @List.take_succ_eq_append_getElem:=@List.take_succ_eq_append_getElem
theorem eR:type_of% @Go.K.Rg.lR:=@Go.K.Rg.lR
theorem eV:type_of% @List.map_cons:=@List.map_cons
theorem eX:type_of% @List.append_nil:=@List.append_nil
theorem eY:type_of% @Option.map_some:=@Option.map_some
theorem fe:type_of% @Go.K.Rg.mZ:=@Go.K.Rg.mZ
theorem ff:type_of% @Nat.lt_trichotomy:=@Nat.lt_trichotomy
theorem fg:type_of% @List.getElem?_set:=@List.getElem?_set
theorem fh:type_of% @Bool.eq_false_iff:=@Bool.eq_false_iff
theorem fm:type_of% @Go.K.Rg.nc:=@Go.K.Rg.nc
theorem fp:type_of% @List.drop_eq_getElem_cons:=@List.drop_eq_getElem_cons
theorem fy:type_of% @Go.K.Part.snd:=@Go.K.Part.snd
theorem fz:type_of% @Go.K.Rg.nj:=@Go.K.Rg.nj
theorem fB:type_of% @Go.Proofs.Tryz.underlying249:=@Go.Proofs.Tryz.underlying249
theorem fC:type_of% @Go.Proofs.Tryz.underlying294:=@Go.Proofs.Tryz.underlying294
theorem fD:type_of% @Go.Proofs.Tryz.underlying128:=@Go.Proofs.Tryz.underlying128
theorem fL:type_of% @Go.K.lO.nil:=@Go.K.lO.nil
theorem fM:type_of% @Go.K.Rg.oQ:=@Go.K.Rg.oQ
theorem fQ:type_of% @List.drop_eq_nil_of_le:=@List.drop_eq_nil_of_le
theorem fV:type_of% @Go.K.Rg.not:=@Go.K.Rg.not
theorem fX:type_of% @List.mem_map_of_mem:=@List.mem_map_of_mem
theorem gj:type_of% @List.contains_iff_mem:=@List.contains_iff_mem
theorem gq:type_of% @List.mem_filter:=@List.mem_filter
theorem gF:type_of% @Go.Proofs.Tryz.underlying122:=@Go.Proofs.Tryz.underlying122
theorem gQ:type_of% @Go.Proofs.Tryz.underlying4:=@Go.Proofs.Tryz.underlying4
theorem gR:type_of% @Go.K.cP.load:=@Go.K.cP.load
theorem iu:type_of% @Decidable.byContradiction:=@Decidable.byContradiction
theorem iw:type_of% @List.take_append_drop:=@List.take_append_drop
theorem ix:type_of% @List.take_eq_take_iff:=@List.take_eq_take_iff
theorem iy:type_of% @List.getElem?_toArray:=@List.getElem?_toArray
theorem iB:type_of% @List.getElem?_drop:=@List.getElem?_drop
theorem iK:type_of% @Go.Proofs.Tryz.underlying180:=@Go.Proofs.Tryz.underlying180
theorem iL:type_of% @Go.Proofs.Tryz.underlying274:=@Go.Proofs.Tryz.underlying274
theorem iS:type_of% @Go.K.Rg.makeFunc:=@Go.K.Rg.makeFunc
theorem ja:type_of% @List.ext_getElem?:=@List.ext_getElem?
theorem jb:type_of% @List.foldl_append:=@List.foldl_append
theorem jd:type_of% @List.nil_append:=@List.nil_append
theorem jo:type_of% @Go.K.iC.all:=@Go.K.iC.all
theorem jq:type_of% @Go.K.Rg.je:=@Go.K.Rg.je
theorem jw:type_of% @List.drop_of_length_le:=@List.drop_of_length_le
theorem jC:type_of% @Nat.lt_irrefl:=@Nat.lt_irrefl
theorem jE:type_of% @Go.K.Part.fst:=@Go.K.Part.fst
theorem jF:type_of% @Go.K.T.iff:=@Go.K.T.iff
theorem jG:type_of% @List.any_eq_true:=@List.any_eq_true
theorem jN:type_of% @List.getElem?_append_right:=@List.getElem?_append_right
theorem jO:type_of% @List.pairwise_cons:=@List.pairwise_cons
theorem jR:type_of% @Go.K.Rg.me:=@Go.K.Rg.me
theorem jS:type_of% @Go.K.bL.nil:=@Go.K.bL.nil
theorem j0:type_of% @Go.Proofs.Tryz.underlying183:=@Go.Proofs.Tryz.underlying183
theorem j4:type_of% @Option.map_none:=@Option.map_none
theorem j5:type_of% @List.length_nil:=@List.length_nil
theorem j6:type_of% @Bool.eq_iff_iff:=@Bool.eq_iff_iff
theorem kb:type_of% @Go.IntWalk.i64_in:=@Go.IntWalk.i64_in
theorem kc:type_of% @List.mem_append_left:=@List.mem_append_left
theorem kd:type_of% @Go.K.cP.move:=@Go.K.cP.move
theorem kj:type_of% @Go.K.cP.field:=@Go.K.cP.field
theorem kn:type_of% @Go.K.fG.refl:=@Go.K.fG.refl
theorem kD:type_of% @Go.K.T.rp:=@Go.K.T.rp
theorem kI:type_of% @Bool.and_false:=@Bool.and_false
theorem lB:type_of% @Go.K.T.iN:=@Go.K.T.iN
theorem lE:type_of% @Go.K.Le.close:=@Go.K.Le.close
theorem l1:type_of% @Bool.and_true:=@Bool.and_true
theorem l7:type_of% @Go.Proofs.Tryz.underlying238:=@Go.Proofs.Tryz.underlying238
theorem l8:type_of% @Go.Proofs.Tryz.underlying205:=@Go.Proofs.Tryz.underlying205
theorem l9:type_of% @Go.Proofs.Tryz.underlying301:=@Go.Proofs.Tryz.underlying301
theorem nd:type_of% @Go.Sem.run_pure:=@Go.Sem.run_pure
theorem nf:type_of% @Go.DataW.weights_mem_each:=@Go.DataW.weights_mem_each
theorem nD:type_of% @Nat.pow_lt_pow_right:=@Nat.pow_lt_pow_right
theorem nN:type_of% @Go.Proofs.Tryz.zeroValue9:=@Go.Proofs.Tryz.zeroValue9
theorem nQ:type_of% @Nat.zero_add:=@Nat.zero_add
theorem nR:type_of% @List.map_toArray:=@List.map_toArray
theorem nS:type_of% @Go.K.Rg.box:=@Go.K.Rg.box
theorem nT:type_of% @Go.K.ua.nil:=@Go.K.ua.nil
theorem nU:type_of% @Go.Proofs.Tryz.underlying40:=@Go.Proofs.Tryz.underlying40
theorem oP:type_of% @List.getElem?_append_left:=@List.getElem?_append_left
theorem oS:type_of% @Go.K.Rg.mg:=@Go.K.Rg.mg
theorem oT:type_of% @Go.K.rr.none:=@Go.K.rr.none
theorem pT:type_of% @Go.K.Rg.kL:=@Go.K.Rg.kL
theorem qp:type_of% @List.range_succ:=@List.range_succ
theorem qq:type_of% @List.foldl_cons:=@List.foldl_cons
theorem qw:type_of% @BitVec.toNat_ofInt:=@BitVec.toNat_ofInt
theorem qx:type_of% @Nat.eq_or_lt_of_le:=@Nat.eq_or_lt_of_le
theorem rl:type_of% @Int.le_refl:=@Int.le_refl
theorem rn:type_of% @List.filter_cons_of_pos:=@List.filter_cons_of_pos
theorem rI:type_of% @Go.K.cf.nil:=@Go.K.cf.nil
theorem sF:type_of% @List.append_assoc:=@List.append_assoc
theorem sG:type_of% @List.map_nil:=@List.map_nil
theorem sH:type_of% @List.flatMap_cons:=@List.flatMap_cons
theorem sI:type_of% @Go.K.Rg.lF:=@Go.K.Rg.lF
theorem sJ:type_of% @Bool.not_eq_true':=@Bool.not_eq_true'
theorem sK:type_of% @Go.Proofs.Tryz.underlying269:=@Go.Proofs.Tryz.underlying269
theorem sL:type_of% @Go.Proofs.Tryz.underlying267:=@Go.Proofs.Tryz.underlying267
theorem vS:type_of% @Array.getElem?_modify:=@Array.getElem?_modify
theorem vU:type_of% @List.take_length:=@List.take_length
theorem vV:type_of% @Go.K.T.kK:=@Go.K.T.kK
theorem vW:type_of% @List.cons_append:=@List.cons_append
theorem xD:type_of% @Go.K.Rg.conv:=@Go.K.Rg.conv
theorem xE:type_of% @Go.Proofs.Tryz.underlying32:=@Go.Proofs.Tryz.underlying32
theorem yn:type_of% @Nat.pow_le_pow_right:=@Nat.pow_le_pow_right
theorem yo:type_of% @List.mem_of_mem_take:=@List.mem_of_mem_take
theorem yF:type_of% @Go.K.Own.close:=@Go.K.Own.close
theorem yT:type_of% @Nat.min_eq_left:=@Nat.min_eq_left
theorem yU:type_of% @Bool.or_eq_true:=@Bool.or_eq_true
theorem yV:type_of% @List.cons.injEq:=@List.cons.injEq
theorem Bq:type_of% @Int.toNat_of_nonneg:=@Int.toNat_of_nonneg
theorem Br:type_of% @List.getD_cons_zero:=@List.getD_cons_zero
theorem Bs:type_of% @List.getD_cons_succ:=@List.getD_cons_succ
theorem By:type_of% @Go.Proofs.Tryz.underlying0:=@Go.Proofs.Tryz.underlying0
theorem Bz:type_of% @Go.Proofs.Tryz.sizeOf9:=@Go.Proofs.Tryz.sizeOf9
namespace Go.K
abbrev Po:=Int×List Int
abbrev Bl:=Int×Int×Int×Int
abbrev Li:=List UInt8×List Bl×Int
abbrev RT.po:RT Po:=RT.pair (RT.int .i64) ((RT.int .i64).sl)
abbrev RT.bl:RT Bl:=RT.pair (RT.int .i64) (RT.pair (RT.int .i64) (RT.pair (RT.int .i64) (RT.int .i64)))
abbrev RT.li:RT Li:=RT.pair (RT.u8.sl) (RT.pair ((RT.bl).sl) (RT.int .i64))
theorem SP:Part RT.po (RT.int .i64) (λp=>p.1) 0:=jE _ _
theorem XM:Part RT.po ((RT.int .i64).sl) (λp=>p.2) 1:=fy _ _
theorem bl0:Part RT.bl (RT.int .i64) (λb=>b.1) 0:=jE _ _
theorem bl1:Part RT.bl (RT.int .i64) (λb=>b.2.1) 1:=(fy _ _).trans (jE _ _)
theorem bl2:Part RT.bl (RT.int .i64) (λb=>b.2.2.1) 2:=(fy _ _).trans ((fy _ _).trans (jE _ _))
theorem bl3:Part RT.bl (RT.int .i64) (λb=>b.2.2.2) 3:=(fy _ _).trans ((fy _ _).trans (fy _ _))
theorem li0:Part RT.li (RT.u8.sl) (λx=>x.1) 0:=jE _ _
theorem li1:Part RT.li ((RT.bl).sl) (λx=>x.2.1) 1:=(fy _ _).trans (jE _ _)
def Om (n:Nat) (k:Int):Bool:=decide (0<=k/\k<n)
def E3 (bs:List Bl) (k:Int):Int:=if Om bs.length k then(bs.getD k.toNat (0,0,0,0)).2.2.1 else-1
def eJ:Int->List Po->List UInt8
 |_,[]=>[]
 |last,(d,ps)::l=>put (d-last-1).toNat++fc ps++eJ d l
def cV:Int->List Po->Int
 |last,[]=>last
 |_,(d,_)::l=>cV d l
def jx (l:List Po):Int:=(l.map λp=>(p.2.length:Int)).sum
theorem uj (l l':List Po) (last:Int):eJ last (l++l')=eJ last l++eJ (cV last l) l':=by
 induction l generalizing last with
 |nil=>rfl
 |cons p l ih=>obtain⟨d,ps⟩:=p;simp[eJ,cV,ih]
theorem BE (l l':List Po) (last:Int):cV last (l++l')=cV (cV last l) l':=by
 induction l generalizing last with
 |nil=>rfl
 |cons p l ih=>obtain⟨d,ps⟩:=p;simp[cV,ih]
theorem uk (l l':List Po):jx (l++l')=jx l+jx l':=by simp[jx]
def um (l:List Po) (k:Nat):Bl:=((eJ (-1) (l.take (8*k))).length,cV (-1) (l.take (8*k)),cV (-1) (l.take (8*k+8)),((l.drop (8*k)).take 8).length)
def qb (l:List Po) (m:Nat):List Bl:=(List.range m).map (um l)
def lr (l:List Po):Li:=(eJ (-1) l,qb l ((l.length+7)/8),jx l)
def o7 (l:List Int):Bool:=gm (-1) l&&l.all (λn=>decide (n<2147483648))
def eP:Int->List Po->Bool
 |_,[]=>true
 |last,(d,ps)::l=>decide (last<d)&&decide (d<2147483648)&& !ps.isEmpty&&o7 ps&&eP d l
theorem qF:∀{l:List Po} {i:Nat} {last d:Int} {ps:List Int},eP last l=true->l[i]? =some (d,ps)->
  cV last (l.take i)<d/\d<2147483648/\ps≠[]/\o7 ps=true/\cV last (l.take (i+1))=d/\last<=cV last (l.take i)
 |[],i,_,_,_,_,h=>by simp at h
 |(d0,p0)::l,0,last,d,ps,hm,h=>by
  simp only[List.getElem?_cons_zero,Option.some.injEq,Prod.mk.injEq]at h;obtain⟨rfl,rfl⟩:=h;simp only[eP,cz,decide_eq_true_eq]at hm;obtain⟨⟨⟨⟨h1,h2⟩,h3⟩,h4⟩,h5⟩:=hm;refine⟨h1,h2,?_,h4,by simp[cV],by simp[cV]⟩;rintro rfl;simp at h3
 |(d0,p0)::l,i+1,last,d,ps,hm,h=>by
  simp only[eP,cz,decide_eq_true_eq]at hm;obtain⟨⟨⟨⟨h1,h2⟩,h3⟩,h4⟩,h5⟩:=hm;obtain⟨a1,a2,a3,a4,a5,a6⟩:=qF (i:=i) h5 a86;refine ⟨by simpa[cV]using a1,a2,a3,a4,by simpa[cV]using a5,?_⟩;simp only[List.take_succ_cons,cV];omega
theorem zp {l:List Po} {i:Nat} {d:Int} {ps:List Int} (last:Int) (h:l[i]? =some (d,ps)):
  eJ last (l.take (i+1))=eJ last (l.take i)++put (d-cV last (l.take i)-1).toNat++fc ps:=by
 obtain⟨h1,h2⟩:=an.1 h;rw[eQ h1,h2,uj];simp[eJ]
theorem qG {l:List Po} {i:Nat} (last:Int):eJ last l=eJ last (l.take i)++eJ (cV last (l.take i)) (l.drop i):=by
 conv=>lhs;rw[<-iw i l]
 exact uj _ _ _
theorem o8 {l:List Int}:o7 l=true↔gm (-1) l=true/\∀x∈l,x<2147483648:=by
 simp[o7]
def rX (b:List UInt8) (at_ ahead:Int):Po×Int×Int:=
 if(get b at_).2.2≠0 then((0,[]),0,(get b at_).2.2)
 else((IntKind.i64.wrap (IntKind.i64.wrap (ahead+1)+(get b at_).1),(gT b (get b at_).2.1).2.1),(gT b (get b at_).2.1).2.2,(gT b (get b at_).2.1).1)
theorem On {l:List Po} {i:Nat} {d:Int} {ps:List Int} (hm:eP (-1) l=true) (h:l[i]? =some (d,ps)) (hl:ps.length<=1099511627776):
  rX (eJ (-1) l) (((eJ (-1) (l.take i)).length:Nat):Int) (cV (-1) (l.take i))=((d,ps),(((eJ (-1) (l.take (i+1))).length:Nat):Int),0):=by
 obtain⟨h1,h2,h3,h4,h5,h6⟩:=qF hm h;obtain⟨h7,h8⟩:=o8.1 h4;have e1:=qG (l:=l) (i:=i+1) (-1);have e2:=zp (-1) h;generalize hla:cV (-1) (l.take i)=last at h1 h6 e2 ⊢;generalize Lc:eJ (-1) (l.take i)=pre at e2 ⊢;generalize eJ (cV (-1) (l.take (i+1))) (l.drop (i+1))=post at e1;rw[e2]at e1 ⊢;have g1:=Dp pre (fc ps++post) (n:=(d-last-1).toNat) q0;have g2:=BD (pre++put (d-last-1).toNat) post h7 (λx hx=>by have:=h8 x hx;omega) q0;rw[show pre++put (d-last-1).toNat++(fc ps++post)=eJ (-1) l from by rw[e1];simp]at g1;rw[<-e1]at g2;unfold rX;rw[g1];simp only[ne_eq,not_true_eq_false,if_false];have yI:((pre.length+(put (d-last-1).toNat).length:Nat):Int)=((pre++put (d-last-1).toNat).length:Int):=by simp
 rw[yI,g2];refine Prod.ext (Prod.ext ?_ G) (Prod.ext ?_ G)
 ·simp only;rw[kb (last+1) q0,kb _ q0];omega
 ·simp;omega
theorem qH {l:List Int} {k:Nat} {x:Int} (p:Int->Bool) (h:l[k]? =some x):(l.drop k).all p=(p x&&(l.drop (k+1)).all p):=by
 obtain⟨h1,h2⟩:=an.1 h;rw[fp h1,h2,List.all_cons]
theorem mE {l:List Po} {k:Nat} {d:Int} {ps:List Int} (h:l[k]? =some (d,ps)) (last:Int):
  eP last (l.drop k)=(decide (last<d)&&decide (d<2147483648)&& !ps.isEmpty&&o7 ps&&eP d (l.drop (k+1))):=by
 obtain⟨h1,h2⟩:=an.1 h;rw[fp h1,h2,eP]
theorem zq {l:List Po} {i:Nat} {d:Int} {ps:List Int} (h:l[i]? =some (d,ps)):jx (l.take (i+1))=jx (l.take i)+ps.length:=by
 obtain⟨h1,h2⟩:=an.1 h;rw[eQ h1,h2,uk];simp[jx]
theorem o9 (l:List Po):0<=jx l:=by
 induction l with
 |nil=>simp[jx]
 |cons p l ih=>simp only[jx,eV,List.sum_cons]at ih ⊢;omega
theorem E4 (l:List Po) (i:Nat):0<=jx (l.take i)/\jx (l.take i)<=jx l:=by
 refine ⟨o9 _,?_⟩
 conv=>rhs;rw[<-iw i l,uk]
 have:=o9 (l.drop i);omega
theorem nE (l:List Po) (i:Nat):(eJ (-1) (l.take i)).length<=(eJ (-1) l).length:=by
 rw[qG (l:=l) (i:=i) (-1)];simp
theorem Ls (l:List Po) (k:Nat):qb l (k+1)=qb l k++[um l k]:=by simp[qb,qp]
theorem kM:∀(l:List Po) (last:Int),eP last l=true->last<2147483648->∀n:Nat,last<=cV last (l.take n)/\cV last (l.take n)<2147483648
 |[],last,_,h,n=>by simp[cV];exact h
 |(d,ps)::l,last,hm,h,0=>by simp[cV];exact h
 |(d,ps)::l,last,hm,h,n+1=>by
  simp only[eP,cz,decide_eq_true_eq]at hm;obtain⟨⟨⟨⟨h1,h2⟩,h3⟩,h4⟩,h5⟩:=hm;have:=kM l d h5 h2 n;simp only[List.take_succ_cons,cV];omega
theorem ajl {M:aM} {w:World} {a b c d:Int} (ha: -9223372036854775808<=a/\a<=9223372036854775807) (hb: -9223372036854775808<=b/\b<=9223372036854775807) (hc: -9223372036854775808<=c/\c<=9223372036854775807) (hd: -9223372036854775808<=d/\d<=9223372036854775807):
  RT.bl.V M w (a,b,c,d) (.agg [.int .i64 a,.int .i64 b,.int .i64 c,.int .i64 d].toArray):=
 ⟨_,⟨[.int .i64 a],[.int .i64 b,.int .i64 c,.int .i64 d],rfl,⟨rfl,ha⟩,[.int .i64 b],[.int .i64 c,.int .i64 d],rfl,⟨rfl,hb⟩,[.int .i64 c],[.int .i64 d],rfl,⟨rfl,hc⟩,⟨rfl,hd⟩⟩,rfl⟩
theorem acp {M:aM} {w:World} {bx:Nat} {b:List UInt8} {ks:List Bl} {wC:Int} {vb vk:Value} {e:TypeId} {fr:Nat×Nat} (hx:w.heap[bx]? =some (.cells #[vb,vk,.int .i64 wC] e fr)) (hm: ¬M bx) (hb:(RT.u8.sl).V M w b vb) (hk:((RT.bl).sl).V M w ks vk) (ht: -9223372036854775808<=wC/\wC<=9223372036854775807):
  cO RT.li M w (.pointer (some ⟨bx,0,none⟩)) (b,ks,wC):=
 ⟨bx,0,[vb,vk,.int .i64 wC],rfl,hm,⟨[vb],[vk,.int .i64 wC],rfl,mD hb rfl rfl,[vk],[.int .i64 wC],rfl,mD hk rfl rfl,⟨rfl,ht⟩⟩,λj v hj=>gM hx a97⟩
theorem Oo {l:List Po} {i:Nat} (h8:i%8=0) (hi:i<l.length):qb l ((i+7)/8)++[(((eJ (-1) (l.take i)).length:Int),cV (-1) (l.take i),cV (-1) (l.take (min (i+8) l.length)),(((l.drop i).take 8).length:Int))]=qb l ((min (i+8) l.length+7)/8):=by
 rw[show(min (i+8) l.length+7)/8=(i+7)/8+1 from by omega,Ls];have e:8*((i+7)/8)=i:=by omega
 have e2:l.take (i+8)=l.take (min (i+8) l.length):=by rw[ix];omega
 simp only[um,e,e2]
theorem qI:∀(l:List Po) (last:Int) (n m:Nat),eP last l=true->last<2147483648->n<=m->cV last (l.take n)<=cV last (l.take m)
 |[],last,n,m,_,_,_=>by simp
 |(d,ps)::l,last,0,m,hm,h,_=>by
  have:=(kM ((d,ps)::l) last hm h m).1;simpa[cV]using this
 |(d,ps)::l,last,n+1,0,_,_,h=>by omega
 |(d,ps)::l,last,n+1,m+1,hm,h,hnm=>by
  simp only[eP,cz,decide_eq_true_eq]at hm;obtain⟨⟨⟨⟨h1,h2⟩,h3⟩,h4⟩,h5⟩:=hm;simpa[cV]using qI l d n m h5 h2 (by omega)
theorem E5 {g:List Po} {k:Nat} (hk:k<(g.length+7)/8):E3 (lr g).2.1 (k:Int)=cV (-1) (g.take (8*k+8)):=by
 have hl:(lr g).2.1.length=(g.length+7)/8:=by simp[lr,qb]
 have hb:(lr g).2.1[k]? =some (um g k):=by simp only[lr,qb,ek];rw[List.getElem?_range hk];rfl
 unfold E3 Om;rw[if_pos (by rw[hl];simp;omega),ar,cg,hb];rfl
section
variable {P:Program} {r:Option Nat} {n:Nat} {L:Sl} {ds:List Deferred} {w:World} {K:Kt} {ops:Array Oper} {rest:List Oper} {d:Nat} {x y:Operand} {ty:TypeId} {pos:String} {af:Array Edge}
theorem Rg.JZ {t t' e:TypeId} {p:Option Addr} (ht:P.underlying t=some (.pointer e)) (hx:ev L x=some (.pointer p)) (hy:ev L y=some (.pointer none)) (hd:Nat.blt d n=true)
  (k:Rg P r n ops rest ((d,.bool (decide (p=none)))::L) ds w K):
  Rg P r n ops ({dst:=some d,op:= .binOp .eql t x y t',type:=ty,pos,after:=af,guard:=none}::rest) L ds w K:=
 .op a05 rfl rfl hd _ w (λρ h=>by
  have hpe:P.underlying t=some (.pointer (P.pointee t)):=by simp[Program.pointee,ht]
  have he:=run_equal_pointer_nil (P:=P) w t p hpe;simp only[execOp];rw[h x _ hx,h y _ hy]
  cases p<;>simp[eqGuard,binOp,run_underlying ht,he]) k
end
def idx:List Po->Int->Nat
 |[],_=>0
 |p::l,to=>if p.1<to then idx l to+1 else 0
theorem Oq:∀(l:List Po) (to:Int),idx l to<=l.length
 |[],_=>bz _
 |p::l,to=>by
  have:=Oq l to;simp only[idx,cJ];split<;>omega
theorem zr:∀{l:List Po} {to:Int} {j:Nat} {p:Po},j<idx l to->l[j]? =some p->p.1<to
 |[],_,_,_,h,_=>by simp[idx]at h
 |q::l,to,j,p,h,hp=>by
  simp only[idx]at h
  split at h
  ·cases j with
   |zero=>simp at hp;subst hp;assumption
   |succ j=>exact zr (l:=l) (j:=j) q0 (by simpa using hp)
  ·omega
theorem zt:∀{l:List Po} {to:Int} {p:Po},l[idx l to]? =some p->to<=p.1
 |[],_,_,h=>by simp[idx]at h
 |q::l,to,p,h=>by
  simp only[idx]at h
  split at h
  ·exact zt a86
  ·simp at h;subst h;omega
theorem Dq:∀{l:List Po} {to:Int} {e:Nat} {p:Po},l[e]? =some p->to<=p.1->idx l to<=e
 |[],_,_,_,h,_=>by simp at h
 |q::l,to,e,p,h,hp=>by
  simp only[idx]
  split
  ·cases e with
   |zero=>simp at h;subst h;omega
   |succ e=>have:=Dq (l:=l) (e:=e) a86 hp;omega
  ·omega
theorem idx_eq {l:List Po} {to:Int} {i:Nat} (h1:∀j,j<i->∀p,l[j]? =some p->p.1<to) (h2:∀p,l[i]? =some p->to<=p.1) (h3:i<=l.length):idx l to=i:=by
 rcases ff (idx l to) i with h|h|h
 ·have hx:l[idx l to]? =some l[idx l to]:=aq q0;have:=zt hx;have:=h1 _ h _ hx;omega
 ·exact h
 ·have:=Oq l to;have hx:l[i]? =some l[i]:=aq q0;have:=zr h hx;have:=h2 _ hx;omega
def eW (l:List Po) (i:Int):Int:=if i<0 then-1 else match l[i.toNat]? with|some p=>p.1|none=>2147483648
def gr (l:List Po) (i:Int):List Int:=if i<0 then[]else match l[i.toNat]? with|some p=>p.2|none=>[]
def lH (l:List Po) (i:Int):List Po:=if i<0 then[]else(l.drop i.toNat).take (8-i.toNat%8)
def tf (l:List Po) (i to:Int):Int:=if to<=eW l i then i else idx l to
theorem lU {l:List Po} {i:Nat} {d:Int} {ps:List Int} (hm:eP (-1) l=true) (h:l[i]? =some (d,ps)):0<=d/\d<2147483648:=by
 obtain⟨f1,f2,f3,f4,f5,f6⟩:=qF hm h;omega
theorem jI {l:List Po} {i:Nat} {d:Int} {ps:List Int} (h:l[i]? =some (d,ps)):eW l (i:Int)=d:=by
 unfold eW;rw[if_neg q0,ar,h]
theorem Lu {l:List Po} {i:Int} (h:i<0):eW l i= -1:=by unfold eW;rw[if_pos h]
theorem rv {l:List Po} {i:Int} (h:(l.length:Int)<=i):eW l i=2147483648:=by
 unfold eW;rw[if_neg q0,cM q0]
theorem fj (l:List Po) (i:Int):(i<0/\eW l i= -1/\gr l i=[])\/(∃j:Nat,∃d ps,i=j/\l[j]? =some (d,ps)/\eW l i=d/\gr l i=ps)\/((l.length:Int)<=i/\eW l i=2147483648/\gr l i=[]):=by
 by_cases h0:i<0
 ·exact .inl ⟨h0,Lu h0,by unfold gr;rw[if_pos h0]⟩
 ·by_cases h1:(l.length:Int)<=i
  ·exact .inr (.inr ⟨h1,rv h1,by unfold gr;rw[if_neg h0,cM q0]⟩)
  ·obtain⟨j,rfl⟩:∃j:Nat,i=j:=⟨i.toNat,by omega⟩;obtain⟨⟨d,ps⟩,hx⟩:∃x,l[j]? =some x:=⟨_,aq q0⟩;exact .inr (.inl ⟨j,d,ps,G,hx,jI hx,by unfold gr;rw[if_neg h0,ar,hx]⟩)
theorem wF {l:List Po} (hm:eP (-1) l=true) (i:Int): -1<=eW l i/\eW l i<=2147483648:=by
 rcases fj l i with⟨_,h,_⟩|⟨j,d,ps,rfl,hx,h,_⟩|⟨_,h,_⟩
 ·omega
 ·have:=lU hm hx;omega
 ·omega
theorem E6 {l:List Po} (hm:eP (-1) l=true) {i:Int}:(0<=eW l i/\eW l i<2147483648)↔0<=i/\i<l.length:=by
 rcases fj l i with⟨h0,h,_⟩|⟨j,d,ps,rfl,hx,h,_⟩|⟨h0,h,_⟩
 ·omega
 ·have:=lU hm hx;have:=(an.1 hx).1;omega
 ·omega
theorem Ci {g:List Po} {i:Nat} {d:Int} {ps:List Int} (h:g[i]? =some (d,ps)) (last:Int):cV last (g.take (i+1))=d:=by
 obtain⟨h1,h2⟩:=an.1 h;rw[eQ h1,h2,BE];rfl
theorem Dr {l:List Po} (hm:eP (-1) l=true) {t s:Nat} {p:Po} (hp:l[t]? =some p) (Oe:t<s):p.1<=cV (-1) (l.take s):=by
 obtain⟨d,ps⟩:=p;rw[<-Ci hp (-1)];exact qI l (-1) (t+1) s hm Tg Oe
theorem nu {l:List Po} (hm:eP (-1) l=true) {t s:Nat} {p q:Po} (hp:l[t]? =some p) (hq:l[s]? =some q) (Oe:t<s):p.1<q.1:=by
 obtain⟨e,qs⟩:=q;have h1:=Dr hm hp Oe;have h2:=(qF hm hq).1;omega
theorem Cj {l lf:List Po} (hm:eP (-1) l=true) {s k:Nat} {to:Int} (h1:8*k<=s) (h2:s<8*k+8) (hs:s<l.length) (hlo:cV (-1) (l.take s)<to) (hhi:to<=cV (-1) (l.take (8*k+8)))
  (XN:lf=(l.drop s).take (8*k+8-s)):idx l to=s+idx lf to/\idx lf to<lf.length/\idx l to<l.length/\idx l to/8=k/\lf.drop (idx lf to)=lH l (idx l to:Nat):=by
 have XO:s<=idx l to:=by
  rcases cH (idx l to) s with h|h
  ·have hx:l[idx l to]? =some l[idx l to]:=aq q0;have:=zt hx;have:=Dr hm hx h;omega
  ·exact h
 obtain⟨⟨d,ps⟩,he⟩:∃x,l[min (8*k+8) l.length-1]? =some x:=⟨_,aq q0⟩
 have hde:cV (-1) (l.take (8*k+8))=d:=by
  rw[<-Ci he (-1),show l.take (8*k+8)=l.take (min (8*k+8) l.length-1+1)from by rw[ix];omega]
 have wu:=Dq he (to:=to) ak8;have N4:lf.length=min (8*k+8-s) (l.length-s):=by rw[XN,a7,cW]
 have iW:∀t,t<lf.length->lf[t]? =l[s+t]? :=λt ht=>by rw[XN,dm,if_pos q0,iB]
 have hif:idx lf to=idx l to-s:=by
  refine idx_eq (λj hj p hp=>?_) (λp hp=>?_) q0
  ·have oX:=(an.1 hp).1;rw[iW j oX]at hp;exact zr q0 hp
  ·have oX:=(an.1 hp).1;rw[iW _ oX,show s+(idx l to-s)=idx l to from by omega]at hp;exact zt hp
 refine ⟨by omega,by omega,by omega,by omega,?_⟩;unfold lH;rw[if_neg q0,ar,hif,XN,List.drop_take,List.drop_drop,show s+(idx l to-s)=idx l to from by omega,ix,cW];omega
theorem TE {l:List Po} (hm:eP (-1) l=true) {to:Int} {n:Nat} (hn:l.length<=n) (hlo:cV (-1) (l.take n)<to):idx l to=l.length:=by
 refine idx_eq (λj hj p hp=>?_) (λp hp=>?_) (bz _)
 ·have:=Dr hm hp (s:=n) q0;omega
 ·simp at hp
theorem Lv {l:List Po} (hm:eP (-1) l=true) {i k to:Int} (hi: -1<=i/\i<=l.length) (hk: -1<=k/\k<((l.length+7)/8:Nat)) (Ot:i<0->k= -1) (qt:0<=i->i<l.length->k=i/8) (hto:eW l i<to):
  cV (-1) (l.take (8*(max k 0).toNat))<to:=by
 rcases fj l i with⟨h0,h,_⟩|⟨j,d,ps,rfl,hx,h,_⟩|⟨h0,h,_⟩
 ·rw[Ot h0];simp only[show(max (-1:Int) 0).toNat=0 from by decide,Nat.mul_zero,List.take_zero,cV];omega
 ·have hj:=(an.1 hx).1;have EX:=qt q0 q0;have h2:=(qF hm hx).1;have h3:=qI l (-1) (8*(max k 0).toNat) j hm Tg q0;omega
 ·have:=(kM l (-1) hm Tg (8*(max k 0).toNat)).2;omega
def Cu (T:TypeId) (l:List Po) (i:Int) (M:aM) (w:World) (bc:Nat):Prop:=
 ∃(p u:Value) (k E7:Int),M bc/\w.heap[bc]? =some (.cells #[p,.int .i64 k,u,.int .i64 (eW l i),.int .i64 E7] T (0,0))/\cO RT.li M w p (lr l)/\((RT.po).sl).V M w (lH l i) u/\
  (-1<=i/\i<=l.length)/\(-1<=k/\k<((l.length+7)/8:Nat))/\(i<0->k= -1)/\(0<=i->i<l.length->k=i/8)
theorem Cu.step {T:TypeId} {l:List Po} {i:Int} {M M' N:aM} {w w':World} {bc:Nat} (h:Cu T l i M w bc) (s:Step M w M' w' N) (hn: ¬N bc):Cu T l i M' w' bc:=by
 obtain⟨p,u,k,E7,h1,h2,h3,h4,h5⟩:=h;exact⟨p,u,k,E7,(s.mem bc (ae h2)).2 h1,s.bU h2 hn,h3.le Tg s.le,h4.le s.le,h5⟩
theorem Cu.rng {T:TypeId} {l:List Po} {i:Int} {M:aM} {w:World} {bc:Nat} (h:Cu T l i M w bc): -1<=i/\i<=l.length:=by
 obtain⟨p,u,k,E7,_,_,_,_,h5,_⟩:=h;exact h5
theorem XP {M:aM} {w:World} {d:Int} {ps:List Int} {v:Value} (h:RT.po.V M w (d,ps) v):∃u,v= .agg #[.int .i64 d,u]/\u.oneCell'=true/\(-9223372036854775808<=d/\d<=9223372036854775807):=by
 obtain⟨vs,⟨va,vb,rfl,⟨rfl,hd⟩,hb⟩,rfl⟩:=h;obtain⟨a,cap,rfl,_⟩:=hb;exact⟨_,G,G,hd⟩
section
variable {P:Program} {r:Option Nat} {n:Nat} {L:Sl} {ds:List Deferred} {w:World}
theorem ku {fn:Func} {Q:Value->World->Prop} {c t b:Nat} {vs:List Value} {fs:TypeDesc} {e:TypeId} {fr:Nat×Nat} {zv:Value} {size bytes:Nat} (hr:fn.results= #[.cell c t]) (hc:lk L c=some (.pointer (some ⟨b,0,none⟩))) (hu:P.underlying t=some fs) (hf:fs.isRow=true) (hi:TI P t zv size bytes) (hl:vs.length=size)
  (hb:w.heap[b]? =some (.cells vs.toArray e fr)) (h:Q (.agg vs.toArray) w):yp P fn Q .ret L [] w:=
 ⟨rfl,λa ha=>⟨_,by
  obtain⟨i,Bt,_,Ex,_⟩:=hi.get;have XK:w.rangeAt b 0 vs:=λj v hj=>gM hb a97
  have:=run_loadVar_mid (P:=P) w b 0 t vs fs XK hu hf (by simp[Bt,Ex,hl]);simp[results,hr,ha _ _ hc,asAddr,this,cn],h⟩⟩
end
section
variable {P:Program} {r:Option Nat} {n:Nat} {L:Sl} {ds:List Deferred} {w:World} {K:Kt} {ops:Array Oper} {rest:List Oper} {d:Nat} {ty:TypeId} {pos:String} {af:Array Edge} {x y i:Operand} {α:Type} {A:RT α}
theorem Rg.opv {o:Oper} (mY:∀c,o.op≠ .defer c) (hg:o.guard=none) (hd:o.dst=none) (v:Value) (w':World)
  (iz:∀ρ:Operand->Value,(∀x u,ev L x=some u->ρ x=u)->(execOp ρ o).run P w= .ok (.value v) w')
  (h:Rg P r n ops rest L ds w' K):Rg P r n ops (o::rest) L ds w K:=by
 refine ⟨λa ha=>wpListIn_plain hg λK' NO=>EJ mY ?_⟩;rw[iz a.eval (λx u hx=>ha.eval hx),Oper.uponIn_value,hd];exact NO _ _ (h.run _ ha)
theorem fN.set {M:aM} {x:α} {vs:List Value} (hx:A.R M w x vs):∀{xs:List α} {C:List Value},fN A M w xs C->∀{j:Nat},j<xs.length->fN A M w (xs.set j x) (C.take (j*A.n)++vs++C.drop (j*A.n+A.n))
 |[],_,_,j,hj=>by simp at hj
 |y::xs,_,⟨us,rest,h1,h2,h3⟩,0,_=>by
  subst h1;have hl:=A.len h2;refine⟨vs,rest,?_,hx,h3⟩;rw[Nat.zero_mul,List.take_zero,jd,nQ,<-hl,List.drop_left]
 |y::xs,_,⟨us,rest,h1,h2,h3⟩,j+1,hj=>by
  subst h1;have hl:=A.len h2;refine⟨us,_,?_,h2,fN.set hx h3 (j:=j) a97⟩;have e1:(j+1)*A.n=us.length+j*A.n:=by rw[Nat.add_mul,hl];omega
  rw[e1,List.take_length_add_append,show us.length+j*A.n+A.n=us.length+(j*A.n+A.n)from by omega,List.drop_length_add_append];simp
theorem TF {l vs:List Value} {o:Nat} (h:o+vs.length<=l.length) (t:Nat):(l.take o++vs++l.drop (o+vs.length))[t]? =if o<=t/\t<o+vs.length then vs[t-o]? else l[t]? :=by
 have h1:(l.take o).length=o:=by rw[a7];omega
 rcases cH t o with h2|h2
 ·rw[if_neg q0,sF,oP q0,dm,if_pos h2]
 ·rcases cH t (o+vs.length)with h3|h3
  ·rw[if_pos ⟨h2,h3⟩,oP (by rw[bM];omega),jN q0,h1]
  ·rw[if_neg q0,jN (by rw[bM];omega),iB,bM,h1];congr 1;omega
theorem Own.setCells {e:TypeId} {M:aM} {base g len cap j:Nat} {xs:List α} {x:α} {vs:List Value} (h:Own A e M w base (.slice (some ⟨g,0,none⟩) len cap) xs) (hj:j<xs.length) (hx:A.R M w x vs):
  ∃w',w'=w.setCells g (j*A.n) vs/\Own A e M w' base (.slice (some ⟨g,0,none⟩) len cap) (xs.set j x)/\Step M w M w' (λk=>k=g):=by
 obtain⟨⟨C,hr,ha⟩,hm⟩:=h;have hmg:=hm g rfl;have hl:=A.len hx;rcases hr.2 with⟨h1,_⟩|⟨g',Tp,cur,h1,h2,h3,h4,h5,h6,h7⟩
 ·cases h1
 ·simp only[Value.slice.injEq,Option.some.injEq,Addr.mk.injEq]at h1;obtain⟨⟨rfl,_⟩,rfl,rfl⟩:=h1;obtain⟨qE,c1,c2,c3,c4⟩:=ll vs w g (j*A.n) cur e (0,0) h3;have hs:=c4 M hmg;have hjn:j*A.n+A.n<=xs.length*A.n:=by have:=Nat.mul_le_mul_right A.n (show j+1<=xs.length from hj);rw[Nat.add_mul]at this;omega
  have km:xs.length*A.n<=cap*A.n:=Nat.mul_le_mul_right _ h4;have Xr:C.length=xs.length*A.n:=hr.1;refine⟨_,rfl,⟨⟨C.take (j*A.n)++vs++C.drop (j*A.n+A.n),⟨?_,.inr ⟨g,cap,qE,by rw[List.length_set],h2,c1,by rw[List.length_set];exact h4,h5,by rw[c2];exact h6,?_⟩⟩,fN.set (A.le hs.le hx) (ha.le hs.le) hj⟩,λb hb=>hm b hb⟩,hs⟩
  ·rw[bM,bM,a7,cW,Xr,List.length_set];omega
  ·rw[List.length_set];refine ja λt=>?_
   have acr:=TF (l:=C) (vs:=vs) (o:=j*A.n) (by rw[hl,Xr];exact hjn) t;rw[hl]at acr;rw[acr,dm];have hct:∀t,t<xs.length*A.n->C[t]? =cur[t]? :=λt ht=>by rw[<-h7,dm,if_pos ht];simp
   split
   ·rename_i ht
    have e0:qE.toList[t]? =qE[t]? :=by simp
    rw[e0,c3 t,hl];by_cases h8:j*A.n<=t/\t<j*A.n+A.n
    ·rw[if_pos ⟨h8.1,h8.2,by omega⟩,if_pos h8]
    ·rw[if_neg (λh=>h8 ⟨h.1,h.2.1⟩),if_neg h8,hct t ht]
   ·rename_i ht
    rw[if_neg q0,cM (by rw[Xr];omega)]
end
section
variable {P:Program} {r:Option Nat} {n:Nat} {L:Sl} {ds:List Deferred} {w:World} {K:Kt} {ops:Array Oper} {rest:List Oper} {d:Nat} {x y i:Operand} {ty:TypeId} {pos:String} {af:Array Edge}
theorem Rg.wG {t e:TypeId} {κ:IntKind} {j:Int} {b len cap bytes:Nat} {zv:Value} (ht:P.underlying t=some (.slice e)) (hi:TI P e zv 1 bytes) (hx:ev L x=some (.slice (some ⟨b,0,none⟩) len cap)) (EN:ev L i=some (.int κ j)) (hd:Nat.blt d n=true) (hj:0<=j/\j<len)
  (k:Rg P r n ops rest ((d,.pointer (some ⟨b,j.toNat,none⟩))::L) ds w K):
  Rg P r n ops ({dst:=some d,op:= .indexAddr t x i,type:=ty,pos,after:=af,guard:=none}::rest) L ds w K:=
 .op a05 rfl rfl hd _ w (λρ h=>by
  simp only[execOp,h x _ hx,h i _ EN];simp[Instr.indexAt,run_underlying ht,asIntOf,hj,hi.sizeOf,Addr.add_mid]) k
theorem Rg.XQ {t e:TypeId} {κ:IntKind} {j:Int} {b len bytes:Nat} {zv:Value} (ht:P.underlying t=some (.array len e)) (hi:TI P e zv 1 bytes) (hx:ev L x=some (.pointer (some ⟨b,0,none⟩))) (EN:ev L i=some (.int κ j)) (hd:Nat.blt d n=true) (hj:0<=j/\j<len)
  (k:Rg P r n ops rest ((d,.pointer (some ⟨b,j.toNat,none⟩))::L) ds w K):
  Rg P r n ops ({dst:=some d,op:= .indexAddr t x i,type:=ty,pos,after:=af,guard:=none}::rest) L ds w K:=
 .op a05 rfl rfl hd _ w (λρ h=>by
  simp only[execOp,h x _ hx,h i _ EN];simp[Instr.indexAt,run_underlying ht,asIntOf,hj,hi.sizeOf,Addr.add_mid,Instr.sureAddr]) k
theorem Rg.mk0 {t e:TypeId} {len:Nat} {bytes:Nat} {zv:Value} (M:aM) (ht:P.underlying t=some (.slice e)) (hi:TI P e zv 1 bytes) (hz:zv.cells= #[zv]) (hx:ev L x=some (.int .i64 len)) (hy:ev L y=some (.int .i64 len)) (hd:Nat.blt d n=true) (hb:bytes*len<=140737488355328) (hl:len<=9223372036854775807)
  (k:∀b w',w.heap.size<=b->b<w'.heap.size->w'.heap[b]? =some (.cells (List.replicate len zv).toArray e (0,0))->Step M w (ins M b) w' aC->Rg P r n ops rest ((d,.slice (some ⟨b,0,none⟩) len len)::L) ds w' K):
  Rg P r n ops ({dst:=some d,op:= .makeSlice t x y,type:=ty,pos,after:=af,guard:=none}::rest) L ds w K:=by
 obtain⟨inf,i1,i2,i3,i4⟩:=hi.get
 have hm:madeCells zv.cells (len*1)=(List.replicate len zv).toArray:=by
  apply Array.ext
  ·simp[madeCells]
  ·intro j h1 h2;simp[madeCells,hz,Nat.mod_one]
 refine .op a05 G G hd (.slice (some ⟨w.heap.size,0,none⟩) len len) (w.alloc (.cells (List.replicate len zv).toArray e)) (λρ hρ=>?_) (k w.heap.size _ (bz _) (by simp) (dE w _) ((ei M w _).own (bz _) (by simp)))
 have hbc:(inf.bytes:Int)*(len:Int)<=281474976710656:=by
  rw[i4];have h1:((bytes*len:Nat):Int)<=281474976710656:=by omega
  rwa [Int.natCast_mul]at h1
 have hr:=run_make (P:=P) w t e inf zv ht i1 i2 .i64 .i64 (len:Int) (len:Int) q0 (rl _) hbc q0;simp only[ar,i3,hm]at hr;simp only[execOp,hρ x _ hx,hρ y _ hy];simp[cn,hr]
theorem Rg.acs {xt:TypeId} {p:Nat} (hx:ev L x=some (.int .u64 p)) (hd:Nat.blt d n=true) (hp:p<2^64) (k:Rg P r n ops rest ((d,.int .u64 ((2^64-1-p:Nat):Int))::L) ds w K):
  Rg P r n ops ({dst:=some d,op:= .unOp .xor xt x,type:=ty,pos,after:=af,guard:=none}::rest) L ds w K:=by
 refine .op a05 G G hd _ w (λρ h=>?_) k
 have e:(2^64-1:Nat)^^^p=2^64-1-p:=by
  apply Nat.eq_of_testBit_eq;intro j;have h1:=Nat.testBit_two_pow_sub_succ (x:=p) (n:=64) hp j;rw[show 2^64-1-p=2^64-(p+1)from by omega,h1,Nat.testBit_xor,Nat.testBit_two_pow_sub_one];by_cases hj:j<64
  ·simp[hj]
  ·have:p.testBit j=false:=Nat.testBit_lt_two_pow (Nat.lt_of_lt_of_le hp (yn Tg q0));simp[hj,this]
 simp only[execOp,h x _ hx]
 have hb:(BitVec.ofInt IntKind.u64.bits IntKind.u64.max^^^BitVec.ofInt IntKind.u64.bits (p:Int)).toNat=2^64-1-p:=by
  rw[BitVec.toNat_xor,qw,qw];have h1:(IntKind.u64.max%((2^IntKind.u64.bits:Nat):Int)).toNat=2^64-1:=by decide
  have h2:((p:Int)%((2^IntKind.u64.bits:Nat):Int)).toNat=p:=by
   change((p:Int)%((18446744073709551616:Nat):Int)).toNat=p;omega
  rw[h1,h2,e]
 have hw:IntKind.u64.wrap ((2^64-1-p:Nat):Int)=((2^64-1-p:Nat):Int):=IntWalk.u64_in _ q0
 have hu:(Op.unary .xor (.int .u64 (p:Int))).run P w= .ok (.int .u64 ((2^64-1-p:Nat):Int)) w:=by
  change(Op.intBits .xor .u64 IntKind.u64.max (p:Int)).run P w=_;unfold Op.intBits;simp only[];rw[hb,hw];simp
 simp[hu]
theorem Rg.ajn {xt:TypeId} {κ:IntKind} {p:Int} (hx:ev L x=some (.int κ p)) (hd:Nat.blt d n=true) (k:Rg P r n ops rest ((d,.int κ (κ.wrap (0-p)))::L) ds w K):
  Rg P r n ops ({dst:=some d,op:= .unOp .neg xt x,type:=ty,pos,after:=af,guard:=none}::rest) L ds w K:=by
 refine .op a05 G G hd _ w (λρ h=>?_) k;simp only[execOp,h x _ hx];simp[Op.unary,Op.intArith]
theorem HM (p q:Nat) (hp:p<2^64) (hq:q<2^64):IntKind.u64.wrap (BitVec.ofInt IntKind.u64.bits (p:Int)&&&BitVec.ofInt IntKind.u64.bits (q:Int)).toNat=((p&&&q:Nat):Int):=by
 have h:∀z:Nat,z<2^64->((z:Int)%((2^IntKind.u64.bits:Nat):Int)).toNat=z:=λz hz=>by
  change((z:Int)%((18446744073709551616:Nat):Int)).toNat=z;omega
 rw[BitVec.toNat_and,qw,qw,h p hp,h q hq];exact IntWalk.u64_in _ (by have:=Nat.and_le_left (n:=p) (m:=q);omega)
theorem VX (p q:Nat) (hp:p<2^64) (hq:q<2^64):IntKind.u64.wrap (BitVec.ofInt IntKind.u64.bits (p:Int)^^^BitVec.ofInt IntKind.u64.bits (q:Int)).toNat=((p^^^q:Nat):Int):=by
 have h:∀z:Nat,z<2^64->((z:Int)%((2^IntKind.u64.bits:Nat):Int)).toNat=z:=λz hz=>by
  change((z:Int)%((18446744073709551616:Nat):Int)).toNat=z;omega
 rw[BitVec.toNat_xor,qw,qw,h p hp,h q hq];exact IntWalk.u64_in _ (by have:=Nat.xor_lt_two_pow hp hq;omega)
end
def bit (ws:List Nat) (i:Nat):Bool:=(ws.getD (i/64) 0).testBit (i%64)
def Words (ws:List Nat):Prop:=∀x∈ws,x<2^64
theorem Words.get {ws:List Nat} (h:Words ws) (k:Nat):ws.getD k 0<2^64:=by
 rw[cg]
 cases hx:ws[k]? with
 |none=>simp
 |some x=>exact h x (av hx)
theorem E8 (ws:List Nat) (k j x:Nat) (hk:k<ws.length):(ws.set k x).getD j 0=if j=k then x else ws.getD j 0:=by
 rw[cg,cg,fg];by_cases h:k=j
 ·subst h;simp[hk]
 ·rw[if_neg h,if_neg (λe=>h e.symm)]
theorem Words.set {ws:List Nat} (h:Words ws) {k x:Nat} (hx:x<2^64):Words (ws.set k x):=λy hy=>by
 rcases List.mem_or_eq_of_mem_set hy with h1|h1
 ·exact h y h1
 ·rw[h1];exact hx
theorem E9 {ws:List Nat} (hw:Words ws) {i:Nat} (hi:i/64<ws.length) (j:Nat):bit (ws.set (i/64) (ws.getD (i/64) 0^^^2^(i%64))) j=(bit ws j ^^ decide (j=i)):=by
 unfold bit;rw[E8 _ _ _ _ hi];by_cases h:j/64=i/64
 ·rw[if_pos h,Nat.testBit_xor,Nat.testBit_two_pow,h];congr 1;exact decide_eq_decide.2 q0
 ·rw[if_neg h,decide_eq_false (by intro e;rw[e]at h;exact h G),Bool.xor_false]
theorem Fa (x i t:Nat):(x/2^i).testBit t=x.testBit (t+i):=Nat.testBit_div_two_pow x t
theorem Ou:∀x:Nat,0<x->∃k m,x=2^k*(2*m+1):=by
 intro x
 induction x using Nat.strongRecOn with
 |_ x ih=>
  intro h;by_cases h2:x%2=1
  ·exact⟨0,x/2,by omega⟩
  ·obtain⟨k,m,e⟩:=ih (x/2) q0 q0;refine ⟨k+1,m,?_⟩;rw[Nat.pow_succ,Nat.mul_right_comm,<-e];omega
theorem Ov (m:Nat):(2*m+1).testBit 0=true:=by rw[Nat.testBit_zero];exact decide_eq_true q0
theorem TG (m:Nat):(2*m).testBit 0=false:=by rw[Nat.testBit_zero];exact decide_eq_false q0
theorem Ds {k m:Nat}:(2^k*(2*m+1)).testBit k=true/\∀t,t<k->(2^k*(2*m+1)).testBit t=false:=by
 have h:=λj=>Nat.testBit_two_pow_mul_add (2*m+1) (b:=0) (i:=k) (Nat.two_pow_pos k) j
 simp only[Nat.add_zero]at h;constructor
 ·rw[h k,if_neg q0,Nat.sub_self,Ov]
 ·intro t ht;rw[h t,if_pos ht,Nat.zero_testBit]
theorem TH {k m:Nat} (hx:2^k*(2*m+1)<2^64):(2^k*(2*m+1))&&&(2^64-2^k*(2*m+1))=2^k:=by
 have hp:=Nat.two_pow_pos k;have yZ:0<2^k*(2*m+1):=Nat.mul_pos hp q0
 have e1:2^64-2^k*(2*m+1)=2^64-((2^k*(2*m)+(2^k-1))+1):=by
  have:2^k*(2*m+1)=2^k*(2*m)+2^k:=by rw[Nat.mul_add,Nat.mul_one]
  omega
 apply Nat.eq_of_testBit_eq;intro j
 have e2:2^k*(2*m)+(2^k-1)<2^64:=by
  have:2^k*(2*m+1)=2^k*(2*m)+2^k:=by rw[Nat.mul_add,Nat.mul_one]
  omega
 rw[Nat.testBit_and,e1,Nat.testBit_two_pow_sub_succ e2,Nat.testBit_two_pow_mul_add _ q0,Nat.testBit_two_pow_sub_one,Nat.testBit_two_pow];have h:=Nat.testBit_two_pow_mul_add (2*m+1) (b:=0) (i:=k) hp j;simp only[Nat.add_zero]at h;rw[h];rcases ff j k with h1|h1|h1
 ·rw[if_pos h1,Nat.zero_testBit,eD,decide_eq_false q0]
 ·subst h1
  have hj:j<64:=by
   rcases cH j 64 with h2|h2
   ·exact h2
   ·have:=yn (n:=2) Tg h2;have:2^j*1<=2^j*(2*m+1):=Nat.mul_le_mul_left _ q0;omega
  rw[if_neg (jC _),if_neg (jC _),Nat.sub_self,Ov,TG,decide_eq_true hj,decide_eq_true rfl];rfl
 ·rw[if_neg q0,if_neg q0,decide_eq_false (show¬k=j by omega)];obtain⟨t,rfl⟩:∃t,j=k+(t+1):=⟨j-k-1,by omega⟩;rw[show k+(t+1)-k=t+1 from by omega,Nat.testBit_succ,Nat.testBit_succ,show(2*m+1)/2=m from by omega,show 2*m/2=m from by omega]
  cases m.testBit t<;>simp
def Hv:List Nat:=[0,1,56,2,57,49,28,3,61,58,42,50,38,29,17,4,62,47,59,36,45,43,51,22,53,39,33,30,24,18,12,5,63,55,48,27,60,41,37,16,46,35,44,21,52,32,23,11,54,26,40,15,34,20,31,10,25,14,19,9,13,8,7,6]
theorem XR:∀k,k<64->(2^k*285870213051353865)%2^64/2^58<64/\Hv[(2^k*285870213051353865)%2^64/2^58]? =some k:=by decide+kernel
theorem Dt (n:Nat):IntKind.u64.wrap (n:Int)=((n%2^64:Nat):Int):=by
 have:IntKind.u64.wrap (n:Int)=(n:Int)%18446744073709551616:=by simp[IntKind.wrap,IntKind.bits,IntKind.signed]
 rw[this];omega
theorem XS (x t:Nat) (ht:t<64):((x:Int)).fdiv (2^min ((t:Int)).toNat IntKind.u64.bits)=((x/2^t:Nat):Int):=by
 rw[ar,show min t IntKind.u64.bits=t from yT (show t<=64 by omega),show(2:Int)^t=((2^t:Nat):Int)from by simp,Int.fdiv_eq_ediv_of_nonneg _ (Int.natCast_nonneg _)];rfl
theorem XT (t:Nat) (ht:t<64):IntKind.u64.wrap (1*2^min ((t:Int)).toNat IntKind.u64.bits)=((2^t:Nat):Int):=by
 have h:(2:Nat)^t<2^64:=nD Tg ht;rw[ar,show min t IntKind.u64.bits=t from yT (show t<=64 by omega),Int.one_mul,show(2:Int)^t=((2^t:Nat):Int)from by simp,Dt,Nat.mod_eq_of_lt h]
def qJ (ws:List Nat):Array Value:=(ws.map fun(x:Nat)=>Value.int .u64 (x:Int)).toArray
theorem il {ws:List Nat} {k:Nat} (hk:k<ws.length):(qJ ws)[k]? =some (.int .u64 (ws.getD k 0:Nat)):=by
 simp[qJ,cg,aq hk]
theorem pb (ws:List Nat) (k x:Nat):(qJ ws).setIfInBounds k (.int .u64 (x:Int))=qJ (ws.set k x):=by
 simp[qJ,List.map_set]
structure gH (Ts Tw:TypeId) (n:Nat) (ws:List Nat) (M:aM) (w:World) (bs bw:Nat):Prop where
 ms:M bs
 mw:M bw
 ne:bs≠bw
 s:w.heap[bs]? =some (.cells #[.int .i64 n,.slice (some ⟨bw,0,none⟩) ws.length ws.length] Ts (0,0))
 w:w.heap[bw]? =some (.cells (qJ ws) Tw (0,0))
 len:ws.length=(n+63)/64
 ok:Words ws
 nn:n<=1099511627776
theorem gH.step {Ts Tw:TypeId} {n:Nat} {ws:List Nat} {M M' N:aM} {w w':World} {bs bw:Nat} (h:gH Ts Tw n ws M w bs bw) (s:Step M w M' w' N) (h1: ¬N bs) (h2: ¬N bw):gH Ts Tw n ws M' w' bs bw:=
 ⟨(s.mem bs (ae h.s)).2 h.ms,(s.mem bw (ae h.w)).2 h.mw,h.ne,s.bU h.s h1,s.bU h.w h2,h.len,h.ok,h.nn⟩
theorem gH.put {Ts Tw:TypeId} {n:Nat} {ws rY:List Nat} {M:aM} {w w':World} {bs bw:Nat} (h:gH Ts Tw n ws M w bs bw) (s:Step M w M w' (λb=>b=bw)) (hl:rY.length=ws.length) (hw:w'.heap[bw]? =some (.cells (qJ rY) Tw (0,0))) (ok:Words rY):gH Ts Tw n rY M w' bs bw:=
 ⟨h.ms,h.mw,h.ne,by rw[hl];exact s.bU h.s h.ne,hw,by rw[hl];exact h.len,ok,h.nn⟩
def J0 (n:Nat) (ws:List Nat) (i:Int):Bool:=decide (0<=i/\i<n)&&bit ws i.toNat
section
variable {P:Program} {r:Option Nat} {n:Nat} {L:Sl} {ds:List Deferred} {w:World} {K:Kt} {ops:Array Oper} {rest:List Oper} {d:Nat} {x:Operand} {ty:TypeId} {pos:String} {af:Array Edge}
end
theorem Du (ws:List Nat) {k x:Nat} (hk:k<ws.length) (j:Nat):bit (ws.set k x) j=if j/64=k then x.testBit (j%64)else bit ws j:=by
 unfold bit;rw[E8 _ _ _ _ hk]
 split<;>rfl
theorem Ow {x t:Nat} (hx:x<2^64) (ht:t<64):(2^64-1-x).testBit t= !x.testBit t:=by
 rw[show 2^64-1-x=2^64-(x+1)from by omega,Nat.testBit_two_pow_sub_succ hx,decide_eq_true ht,dr]
theorem TL {ws:List Nat} {j:Nat} (h:ws.length<=j/64):bit ws j=false:=by
 unfold bit;rw[cg,cM h];simp
theorem zu (k j:Nat):bit (List.replicate k 0) j=false:=by
 unfold bit;rw[cg,List.getElem?_replicate]
 split<;>simp
def VY (ws:List Nat) (p:Nat) (r:Int):Prop:=(∃j:Nat,r=j/\p<=j/\bit ws j=true/\∀t,p<=t->t<j->bit ws t=false)\/(r= -1/\∀t,p<=t->bit ws t=false)
theorem zw {ws:List Nat} {i t:Nat} (h:i%64+t<64):bit ws (i+t)=(ws.getD (i/64) 0/2^(i%64)).testBit t:=by
 unfold bit;rw[Fa,show(i+t)/64=i/64 from by omega,show(i+t)%64=t+i%64 from by omega]
theorem Fb {x i:Nat} (hx:x<2^64) (hi:i<64) {k m:Nat} (h:x/2^i=2^k*(2*m+1)):i+k<64:=by
 rcases cH (i+k) 64 with h1|h1
 ·exact h1
 ·exfalso;have h2:(x/2^i).testBit k=true:=by rw[h];exact Ds.1
  rw[Fa]at h2;have:=Nat.testBit_lt_two_pow (Nat.lt_of_lt_of_le hx (yn (n:=2) Tg (show 64<=k+i by omega)));rw[this]at h2;cases h2
abbrev Fo:=Int×Int
abbrev Tw:=Int×Int×Int
abbrev RT.fo:RT Fo:=RT.pair (RT.int .i64) (RT.int .i64)
theorem fo0:Part RT.fo (RT.int .i64) (λp=>p.1) 0:=jE _ _
theorem fo1:Part RT.fo (RT.int .i64) (λp=>p.2) 1:=fy _ _
def RT.ED:RT Nat where
 n:=1
 agg:=false
 R:=λ_ _ b vs=>vs=[.pointer (some ⟨b,0,none⟩)]
 len:=by rintro _ _ x vs rfl;rfl
 one:=by rintro _ _ x vs rfl v hv;simp at hv;subst hv;rfl
 le:=λ_ h=>h
theorem om {M:aM} {w:World} {b:Nat} {v:Value}:RT.ED.V M w b v↔v= .pointer (some ⟨b,0,none⟩):=⟨fun⟨_,h1,h2⟩=>by cases h1;exact h2,λh=>⟨_,G,h⟩⟩
def mn (l:List Fo) (x:Int):Int:=match l with| []=>x|p::_=>min x p.1
def hit (l:List Fo) (x:Int):Bool:=match l with| []=>false|p::_=>decide (p.1=x)
def fU (l:List Fo) (x:Int):List Fo:=if hit l x then l.tail else l
def ot (l:List Fo) (x s:Int):Int:=if hit l x then IntKind.i64.wrap (s+(l.headD (0,0)).2)else s
def ou (l:List Fo) (x m:Int):Int:=if hit l x then m+1 else m
def jv (a b:List Fo):Int:=mn b (mn a 2147483648)
def SQ (a b:List Fo) (k:Nat):Int:=if k=0 then 2147483648 else if k=1 then mn a 2147483648 else jv a b
def rZ (a b:List Fo) (k:Nat):Int:=if k=0 then 0 else if k=1 then ou a (jv a b) 0 else ou b (jv a b) (ou a (jv a b) 0)
def sa (a b:List Fo) (k:Nat):Int:=if k=0 then 0 else if k=1 then ot a (jv a b) 0 else ot b (jv a b) (ot a (jv a b) 0)
def lK (l:List Fo) (x:Int) (c:Bool):List Fo:=if c then fU l x else l
def sd (l:List Fo):Prop:=∀p∈l,-9223372036854775808<=p.1/\p.1<2147483648
theorem lu {a b lk:List Fo} {k:Nat} (h: [a,b][k]? =some lk):SQ a b (k+1)=mn lk (SQ a b k):=by
 match k with
 |0=>simp at h;subst h;simp[SQ]
 |1=>simp at h;subst h;simp[SQ,jv]
 |k+2=>simp at h
theorem iX {a b lk:List Fo} {k:Nat} (h: [a,b][k]? =some lk):rZ a b (k+1)=ou lk (jv a b) (rZ a b k):=by
 match k with
 |0=>simp at h;subst h;simp[rZ]
 |1=>simp at h;subst h;simp[rZ]
 |k+2=>simp at h
theorem iY {a b lk:List Fo} {k:Nat} (h: [a,b][k]? =some lk):sa a b (k+1)=ot lk (jv a b) (sa a b k):=by
 match k with
 |0=>simp at h;subst h;simp[sa]
 |1=>simp at h;subst h;simp[sa]
 |k+2=>simp at h
theorem J1 (a b:List Fo) (k:Nat):0<=rZ a b k/\rZ a b k<=2:=by
 unfold rZ ou
 repeat' split
 all_goals omega
theorem TM {a b:List Fo} (ha:sd a) (hb:sd b): -9223372036854775808<=jv a b/\jv a b<=2147483648:=by
 unfold jv mn
 split
 ·split
  ·omega
  ·have:=ha _ (bO ..);omega
 ·have:=hb _ (bO ..)
  split
  ·omega
  ·have:=ha _ (bO ..);omega
theorem TN (a b:List Fo) (k:Nat): -9223372036854775808<=sa a b k/\sa a b k<=9223372036854775807:=by
 have hw:=λx=>E1 (x:=x)
 unfold sa ot
 repeat' split
 all_goals first|exact hw _|omega
theorem Fc (l:List Fo) (x:Int):(fU l x).length<=l.length:=by
 unfold fU;split
 ·simp
 ·exact bz _
theorem Fe {l:List Fo} {x:Int} (h:hit l x=true):(fU l x).length<l.length:=by
 unfold fU;rw[if_pos h]
 cases l with
 |nil=>simp[hit]at h
 |cons p l=>simp
theorem sd.rest {l:List Fo} (h:sd l) (x:Int):sd (fU l x):=by
 unfold fU;split
 ·exact λp hp=>h p (List.mem_of_mem_tail hp)
 ·exact h
theorem wH {p:Fo} {l:List Fo} {x:Int} (h:p.1=x):hit (p::l) x=true:=decide_eq_true h
theorem Ox {a b:List Fo} (ha:sd a) (hb:sd b) (h:a≠[]\/b≠[]):hit a (jv a b)=true\/hit b (jv a b)=true:=by
 cases a with
 |nil=>
  cases b with
  |nil=>simp at h
  |cons q b=>
   have:=hb q (bO ..);exact .inr (wH (show q.1=min 2147483648 q.1 by omega))
 |cons p a=>
  have h1:=ha p (bO ..)
  cases b with
  |nil=>exact .inl (wH (show p.1=min 2147483648 p.1 by omega))
  |cons q b=>
   have h2:=hb q (bO ..);rcases Int.lt_or_le q.1 p.1 with h3|h3
   ·exact .inr (wH (show q.1=min (min 2147483648 p.1) q.1 by omega))
   ·exact .inl (wH (show p.1=min (min 2147483648 p.1) q.1 by omega))
theorem ry {a b:List Fo} (ha:sd a) (hb:sd b) (h:a≠[]\/b≠[]):(fU a (jv a b)).length+(fU b (jv a b)).length<a.length+b.length:=by
 have h1:=Fc a (jv a b);have h2:=Fc b (jv a b);rcases Ox ha hb h with h3|h3
 ·have:=Fe h3;omega
 ·have:=Fe h3;omega
def Oy (least:Int):Nat->List Fo->List Fo->List Fo
 |0,_,_=>[]
 |n+1,a,b=>if a=[]/\b=[]then[]else(if least<=rZ a b 2 then[(jv a b,sa a b 2)]else[])++Oy least n (fU a (jv a b)) (fU b (jv a b))
theorem Ff (least:Int):∀(n m:Nat) (a b:List Fo),sd a->sd b->a.length+b.length<=n->n<=m->Oy least m a b=Oy least n a b
 |0,m,a,b,_,_,h,_=>by
  have ha:a=[]:=cB.1 q0;have hb:b=[]:=cB.1 q0
  cases m with
  |zero=>rfl
  |succ m=>subst ha;subst hb;simp[Oy]
 |n+1,0,a,b,_,_,_,h=>by omega
 |n+1,m+1,a,b,ha,hb,h1,h2=>by
  rw[Oy,Oy]
  split
  ·rfl
  ·rename_i h3
   rw[Ff least n m _ _ (ha.rest _) (hb.rest _) (by have:=ry ha hb (by by_cases h:a=[];right;exact λh'=>h3 ⟨h,h'⟩;left;exact h);omega) q0]
def EE (least:Int) (a b:List Fo):List Fo:=Oy least (a.length+b.length) a b
theorem TO (least:Int):EE least [] []=[]:=rfl
theorem uq {least:Int} {a b:List Fo} (ha:sd a) (hb:sd b) (h:a≠[]\/b≠[]):EE least a b=(if least<=rZ a b 2 then[(jv a b,sa a b 2)]else[])++EE least (fU a (jv a b)) (fU b (jv a b)):=by
 have h1:=ry ha hb h;unfold EE;obtain⟨n,hn⟩:∃n,a.length+b.length=n+1:=⟨a.length+b.length-1,by omega⟩;rw[hn,Oy,if_neg (by rintro⟨h2,h3⟩;rcases h with h|h;exact h h2;exact h h3),Ff least _ n _ _ (ha.rest _) (hb.rest _) (bz _) q0]
theorem yJ:∀(least:Int) (n:Nat) (a b:List Fo),(Oy least n a b).length<=n
 |_,0,_,_=>by simp[Oy]
 |least,n+1,a,b=>by
  rw[Oy]
  split
  ·simp
  ·have:=yJ least n (fU a (jv a b)) (fU b (jv a b));rw[bM]
   split<;>simp<;>omega
theorem Dv {M:aM} {w:World} {a b:Int} (ha: -9223372036854775808<=a/\a<=9223372036854775807) (hb: -9223372036854775808<=b/\b<=9223372036854775807):RT.fo.V M w (a,b) (.agg [.int .i64 a,.int .i64 b].toArray):=
 fJ (hU ha) (hU hb) rfl rfl rfl rfl
section
variable {P:Program} {r:Option Nat} {n:Nat} {L:Sl} {ds:List Deferred} {w:World} {K:Kt} {ops:Array Oper} {rest:List Oper} {d:Nat} {x y:Operand} {ty:TypeId} {pos:String} {af:Array Edge}
theorem lV {t:TypeId} {k:IntKind} (ht:P.underlying t=some (.int k)) {cs:Array Value} {off:Nat} {v:Value} (hv:cs[off]? =some v):(part t cs off).run P w= .ok v w:=by
 have HC:(isAgg t).run P w= .ok false w:=by
  unfold isAgg;rw[cn,run_underlying ht w];simp
 unfold part;rw[cn,HC];simp[hv]
theorem BF {t:TypeId} {f g:Field} (ht:P.underlying t=some (.struct #[f,g])) (hp:P.stoodInHeld t=false) (hf:P.underlying f.type=some (.int .i64)) (hg:P.underlying g.type=some (.int .i64)) (hn:f.name≠ "_") (Nu:g.name≠ "_") (ho:f.offset=0) (iM:g.offset=1) (a b c e:Int):
  (Op.equal t (.agg #[.int .i64 a,.int .i64 b]) (.agg #[.int .i64 c,.int .i64 e])).run P w= .ok (decide ((a,b)=(c,e))) w:=by
 have EC:P.fieldsOf t= #[f,g]:=by simp[Program.fieldsOf,ht]
 have hs:=run_equalIn_struct (P:=P) w 9999 t #[.int .i64 a,.int .i64 b] #[.int .i64 c,.int .i64 e] (by rw[EC];exact ht) hp;have hi:∀(k:Nat) (t':TypeId),P.underlying t'=some (.int .i64)->∀p q:Int,(Op.equalIn (k+1) t' (.int .i64 p) (.int .i64 q)).run P w= .ok (p==q) w:=λk t' h p q=>by simp[Op.equalIn,run_underlying h]
 change(Op.equalIn (9999+1) t _ _).run P w=_;rw[hs,EC];simp only[Op.eqFields,hn,Nu,ho,iM,ne_eq,not_false_eq_true,if_true,cn];rw[lV hf (v:= .int .i64 a) rfl];simp only[cF];rw[lV hf (v:= .int .i64 c) rfl];simp only[cF];rw[hi 9998 _ hf];simp only[cF];by_cases h1:a=c
 ·subst h1;simp only[beq_self_eq_true,Bool.not_true,Bool.false_eq_true,if_false,cn];rw[lV hg (v:= .int .i64 b) rfl];simp only[cF];rw[lV hg (v:= .int .i64 e) rfl];simp only[cF];rw[hi 9998 _ hg];simp only[cF];by_cases h2:b=e
  ·subst h2;simp
  ·simp[h2]
 ·simp[h1]
theorem Rg.acu {t t':TypeId} {f g:Field} {a b c e:Int} (ht:P.underlying t=some (.struct #[f,g])) (hp:P.stoodInHeld t=false) (hq:P.eqGuardType P.depth t=false) (hf:P.underlying f.type=some (.int .i64)) (hg:P.underlying g.type=some (.int .i64)) (hn:f.name≠ "_") (Nu:g.name≠ "_") (ho:f.offset=0) (iM:g.offset=1)
  (hx:ev L x=some (.agg #[.int .i64 a,.int .i64 b])) (hy:ev L y=some (.agg #[.int .i64 c,.int .i64 e])) (hd:Nat.blt d n=true)
  (k:Rg P r n ops rest ((d,.bool (decide (¬((a,b)=(c,e)))))::L) ds w K):
  Rg P r n ops ({dst:=some d,op:= .binOp .neq t x y t',type:=ty,pos,after:=af,guard:=none}::rest) L ds w K:=
 .op a05 rfl rfl hd _ w (λρ h=>by
  have he:=BF (P:=P) (w:=w) ht hp hf hg hn Nu ho iM a b c e;simp only[execOp];rw[h x _ hx,h y _ hy];rw[cn,cn,run_eqGuard_agg (P:=P) w .neq t x y _ _ hq];simp[binOp,he]) k
end
def th (l:List Fo) (d:Int):Bool:=l.any λp=>decide (p.1=d)
theorem Lw {l:List Fo} {k:Nat} {p:Fo} (h:l[k]? =some p) (d:Int):th (l.take (k+1)) d=(th (l.take k) d||decide (p.1=d)):=by
 obtain⟨h1,h2⟩:=an.1 h;unfold th;rw[eQ h1,h2,List.any_append];simp
def qK (a:List Fo) (p:Nat):List Fo:=((List.range p).filter fun(d:Nat)=> !th a (d:Int)).map fun(d:Nat)=>((d:Int),0)
theorem Ck (a:List Fo) (p:Nat):qK a (p+1)=qK a p++if th a (p:Int)then[]else[((p:Int),0)]:=by
 unfold qK;rw[qp,eE,dU];congr 1
 cases h:th a (p:Int)<;>simp[List.filter,h]
theorem wI {a:List Fo} {p:Nat}:∀(j:Nat),p<=j->(∀t,p<=t->t<j->th a (t:Int)=true)->qK a j=qK a p
 |j,h1,h2=>by
  rcases cH p j with h|h
  ·obtain⟨c,rfl⟩:∃c,j=c+1:=⟨j-1,by omega⟩;rw[Ck,h2 c q0 q0,if_pos rfl,eX];exact wI c q0 (λt h3 h4=>h2 t h3 q0)
  ·rw[show j=p from by omega]
theorem Fg (a:List Fo) (p:Nat):(qK a p).length<=p:=by
 unfold qK;rw[bW];exact dz (eu _ _) (by rw[List.length_range];exact bz _)
end Go.K
namespace Go.K
open Go.RowKit (Below)
open Go.Maps (Keyed)
open Go.ChangeMaps (putKey delKey notKey)
abbrev DU:=DataW Unit
structure acv (P:Program) (k:TypeId) (R:Value->Option (DU×List MemPlace)) (M:aM) (w:World) (b:Nat) (m:List (Lit×DU)):Prop where
 mut_:M b
 own:w.ownsMap P k R b m.length (.map m)
section
variable {P:Program} {r:Option Nat} {n:Nat} {L:Sl} {ds:List Deferred} {w:World} {K:Kt} {ops:Array Oper} {rest:List Oper} {d:Nat} {x y z:Operand} {ty:TypeId} {pos:String} {af:Array Edge}
variable {kt:TypeId} {R:Value->Option (DU×List MemPlace)} {M:aM} {b:Nat} {m:List (Lit×DU)}
theorem Step.Dw {w w':World} (h:Below w.heap.size w w') (M:aM):Step M w M w' aC:=
 ⟨λh0 b hb=>Nat.lt_of_lt_of_le (h0 b hb) h.size,h.os,h.tape,h.output,h.size,λ_ _=>Iff.rfl,λb hb _=>h.block b hb,λ_ h=>h.elim⟩
end
end Go.K
namespace Go.K
def allM:aM:=λ_=>True
theorem Step.all {M M' N:aM} {w w':World} (s:Step M w M' w' N):Step allM w allM w' N:=⟨λh=>absurd (h w.heap.size trivial) (jC _),s.os,s.tape,s.output,s.size,λ_ _=>Iff.rfl,s.same,λ_ _=>trivial⟩
theorem Step.toAny {M M':aM} {w w':World} (s:Step M w M' w' aC) (M1:aM):Step M1 w M1 w' aC:=s.any M1
theorem fN.int {κ:IntKind} {M M':aM} {w w':World}:∀{xs:List Int} {C:List Value},fN (RT.int κ) M w xs C->fN (RT.int κ) M' w' xs C
 |[],_,h=>h
 |x::xs,C,h=>by
  obtain⟨vs,r,h1,h2,h3⟩:=h;exact⟨vs,r,h1,h2,fN.int h3⟩
theorem Own.TP {κ:IntKind} {e:TypeId} {M:aM} {w:World} {base:Nat} {v:Value} {xs:List Int} (h:Own (RT.int κ) e M w base v xs) {M':aM} (hm:∀b,v.ownBlock=some b->M' b):Own (RT.int κ) e M' w base v xs:=by
 obtain⟨⟨C,h1,h2⟩,_⟩:=h;exact⟨⟨C,h1,fN.int h2⟩,hm⟩
theorem Own.acw {κ:IntKind} {e:TypeId} {N:aM} {w w':World} {base:Nat} {v:Value} {xs:List Int} (h:Own (RT.int κ) e allM w base v xs) (s:Step allM w allM w' N) (hn:∀b,v.ownBlock=some b->¬N b):Own (RT.int κ) e allM w' base v xs:=by
 obtain⟨⟨C,h1,h2⟩,_⟩:=h;refine⟨⟨C,⟨h1.1,?_⟩,fN.int h2⟩,λ_ _=>trivial⟩;rcases h1.2 with h3|⟨g,cap,cur,h3,h4,h5,h6,h7,h8⟩
 ·exact .inl h3
 ·exact .inr ⟨g,cap,cur,h3,h4,by rw[s.same g (ae h5) (hn g (by rw[h3];rfl))];exact h5,h6,h7,h8⟩
def rN (v:Value):aM:=λb=>v.ownBlock=some b
theorem Own.lone {κ:IntKind} {e:TypeId} {M:aM} {w:World} {base:Nat} {v:Value} {xs:List Int} (h:Own (RT.int κ) e M w base v xs):Own (RT.int κ) e (rN v) w base v xs:=h.TP λ_ h=>h
def Dx (at':Nat->Nat) (cont:Nat->Bool):Nat×Nat:=
 if at' 0<0x80 then(at' 0,1)
 else if at' 0/32==6&&cont 1 then
  if(at' 0%32)*64+at' 1%64>=0x80 then((at' 0%32)*64+at' 1%64,2)else(65533,1)
 else if at' 0/16==14&&cont 1&&cont 2 then
  if(at' 0%16)*4096+(at' 1%64)*64+at' 2%64>=0x800&&Utf8.valid ((at' 0%16)*4096+(at' 1%64)*64+at' 2%64:Nat)then((at' 0%16)*4096+(at' 1%64)*64+at' 2%64,3)else(65533,1)
 else if at' 0/8==30&&cont 1&&cont 2&&cont 3 then
  if(at' 0%8)*262144+(at' 1%64)*4096+(at' 2%64)*64+at' 3%64>=0x10000&&Utf8.valid ((at' 0%8)*262144+(at' 1%64)*4096+(at' 2%64)*64+at' 3%64:Nat)then((at' 0%8)*262144+(at' 1%64)*4096+(at' 2%64)*64+at' 3%64,4)else(65533,1)
 else(65533,1)
theorem Lx (s:ByteArray) (i:Nat):Utf8.decode s i=Dx (λk=>(s.get! (i+k)).toNat) (λk=>decide (i+k<s.size)&&(s.get! (i+k)).toNat/64==2):=rfl
def ke (l:List UInt8) (k:Nat):Nat:=(l.getD k 0).toNat
def j8 (l:List UInt8) (k:Nat):Bool:=decide (k<l.length)&&ke l k/64==2
def dec (l:List UInt8):Nat×Nat:=Dx (ke l) (j8 l)
theorem Ly (l:List UInt8) (j:Nat):(⟨l.toArray⟩:ByteArray).get! j=l.getD j 0:=by
 show l.toArray[j]! =_;rw[cg,getElem!_def];simp only[iy]
 cases l[j]? <;>rfl
theorem HN (l:List UInt8) (pos:Nat):Utf8.decode ⟨l.toArray⟩ pos=dec (l.drop pos):=by
 rw[Lx,dec]
 have h1:(λk=>((⟨l.toArray⟩:ByteArray).get! (pos+k)).toNat)=ke (l.drop pos):=by
  funext k;rw[Ly,ke,cg,cg,iB]
 have h2:(λk=>decide (pos+k<(⟨l.toArray⟩:ByteArray).size)&&((⟨l.toArray⟩:ByteArray).get! (pos+k)).toNat/64==2)=j8 (l.drop pos):=by
  funext k;have:=congrFun h1 k;rw[this,j8,cW];congr 1;have hs:(⟨l.toArray⟩:ByteArray).size=l.length:=by simp[ByteArray.size]
  rw[hs];exact decide_eq_decide.2 q0
 rw[h1,h2]
theorem zx {l:List UInt8} {k:Nat} (h:j8 l k=true):k<l.length:=by
 simp only[j8,cz,decide_eq_true_eq]at h;exact h.1
theorem jJ {l:List UInt8} (hl:l≠[]):1<=(dec l).2/\(dec l).2<=l.length:=by
 have h0:0<l.length:=dC.2 hl;unfold dec Dx
 split
 ·exact⟨bz _,h0⟩
 ·split
  ·rename_i h
   simp only[cz]at h;have:=zx h.2
   split<;>(simp only;omega)
  ·split
   ·rename_i h
    simp only[cz]at h;have:=zx h.2
    split<;>(simp only;omega)
   ·split
    ·rename_i h
     simp only[cz]at h;have:=zx h.2
     split<;>(simp only;omega)
    ·exact⟨bz _,h0⟩
theorem pf (l:List UInt8) (k:Nat):ke l k<256:=by unfold ke;exact UInt8.toNat_lt _
theorem rz (l:List UInt8):(dec l).1<=1114111:=by
 unfold dec Dx
 split
 ·simp only;omega
 ·split
  ·have:=pf l 0
   split<;>(simp only;omega)
  ·split
   ·have:=pf l 0
    split<;>(simp only;omega)
   ·split
    ·split
     ·rename_i h
      simp only[cz,Utf8.valid,yU,decide_eq_true_eq]at h;simp only;omega
     ·simp only;omega
    ·simp only;omega
def dN (l:List UInt8):List Int:=match l with
 |[]=>[]
 |c::r=>((dec (c::r)).1:Int)::dN ((c::r).drop (dec (c::r)).2)
termination_by l.length
decreasing_by
 have:=(jJ (l:=c::r) (by simp)).1;simp only[cW,cJ];omega
theorem l3:dN []=[]:=by unfold dN;rfl
theorem kN {l:List UInt8} (h:l≠[]):dN l=((dec l).1:Int)::dN (l.drop (dec l).2):=by
 cases l with
 |nil=>exact absurd rfl h
 |cons c r=>rw[dN]
theorem gU (l:List UInt8):(dN l).length<=l.length:=by
 induction hn:l.length using Nat.strongRecOn generalizing l with
 |_ n ih=>
  by_cases h:l=[]
  ·subst h;rw[l3];simp
  ·rw[kN h,cJ];have hw:=jJ h;have:=ih _ (by rw[cW];omega) (l.drop (dec l).2) rfl;rw[cW]at this;omega
section
variable {P:Program} {r:Option Nat} {n:Nat} {L:Sl} {ds:List Deferred} {w:World} {K:Kt} {ops:Array Oper} {rest:List Oper} {d:Nat} {x:Operand} {ty:TypeId} {pos:String} {af:Array Edge}
theorem Rg.Oz {t:TypeId} {l:List UInt8} (M:aM) (ht:P.underlying t=some .string) (hx:ev L x=some (.string ⟨l.toArray⟩)) (hd:Nat.blt d n=true)
  (k:∀b w',w.heap.size<=b->b<w'.heap.size->w'.heap[b]? =some (.stringIter ⟨l.toArray⟩ 0)->Step M w (ins M b) w' aC->Rg P r n ops rest ((d,.pointer (some ⟨b,0,none⟩))::L) ds w' K):
  Rg P r n ops ({dst:=some d,op:= .range t x,type:=ty,pos,after:=af,guard:=none}::rest) L ds w K:=by
 refine .op a05 G G hd (.pointer (some ⟨w.heap.size,0,none⟩)) (w.alloc (.stringIter ⟨l.toArray⟩ 0)) (λρ hρ=>?_) (k w.heap.size _ (bz _) (by simp) (dE w _) ((ei M w _).own (bz _) (by simp)));simp only[execOp,hρ x _ hx];simp[Instr.range,cn,run_underlying ht,newObj,Sem.run]
theorem iJ (M:aM) {b:Nat} {o:Obj} (hm:M b):Step M w M {w with heap:=w.heap.setIfInBounds b o} (λk=>k=b):=
 ⟨λh b hb=>by simpa using h b hb,rfl,rfl,rfl,by simp,λ_ _=>Iff.rfl,λk _ hn=>by simp[dH,Ne.symm hn],λk hk=>by subst hk;exact hm⟩
theorem qL {b p:Nat} {s:ByteArray} (hb:w.heap[b]? =some (.stringIter s p)):(getObj b).run P w= .ok (.stringIter s p) w:=by simp[getObj,Sem.run,hb]
theorem Rg.TQ {l:List UInt8} {b p:Nat} {M:aM} (hx:ev L x=some (.pointer (some ⟨b,0,none⟩))) (hb:w.heap[b]? =some (.stringIter ⟨l.toArray⟩ p)) (hm:M b) (hd:Nat.blt d n=true)
  (k1:p<l.length->∀w',w'.heap[b]? =some (.stringIter ⟨l.toArray⟩ (p+(dec (l.drop p)).2))->Step M w M w' (λk=>k=b)->Rg P r n ops rest ((d,.tuple #[.bool true,.int .i64 p,.int .i32 ((dec (l.drop p)).1:Nat)])::L) ds w' K)
  (k2: ¬p<l.length->Rg P r n ops rest ((d,.tuple #[.bool false])::L) ds w K):
  Rg P r n ops ({dst:=some d,op:= .next x true,type:=ty,pos,after:=af,guard:=none}::rest) L ds w K:=by
 have hs:(⟨l.toArray⟩:ByteArray).size=l.length:=by simp[ByteArray.size]
 have eZ:=ae hb;by_cases h:p<l.length
 ·have key:=k1 h {w with heap:=w.heap.setIfInBounds b (.stringIter ⟨l.toArray⟩ (p+(dec (l.drop p)).2))} (by simp[dH,eZ]) (iJ M hm);refine .op a05 G G hd _ _ (λρ hρ=>?_) key;simp only[execOp,hρ x _ hx,Instr.next,cn,qL hb,cF];rw[if_pos (by rw[hs];exact h)];simp[HN,setObj,Sem.run,goInt,hb]
 ·refine .op a05 G G hd _ w (λρ hρ=>?_) (k2 h);simp only[execOp,hρ x _ hx,Instr.next,cn,qL hb,cF];rw[if_neg (by rw[hs];exact h)];simp
theorem Rg.J2 {t:TypeId} {i:Operand} {l:List UInt8} {κ:IntKind} {j:Int} {c:UInt8} (ht:P.underlying t=some .string) (hx:ev L x=some (.string ⟨l.toArray⟩)) (hi:ev L i=some (.int κ j)) (hd:Nat.blt d n=true) (hj:0<=j) (hc:l[j.toNat]? =some c)
  (k:Rg P r n ops rest ((d,.int .u8 (c.toNat:Int))::L) ds w K):
  Rg P r n ops ({dst:=some d,op:= .index t x i,type:=ty,pos,after:=af,guard:=none}::rest) L ds w K:=by
 have eZ:=(an.1 hc).1;have hs:(⟨l.toArray⟩:ByteArray).size=l.length:=by simp[ByteArray.size]
 have hg:(⟨l.toArray⟩:ByteArray)[j.toNat]? =some c:=by
  rw[getElem?_pos _ _ (by rw[hs];exact eZ)];congr 1;have:=(an.1 hc).2;rw[<-this];rfl
 refine .op a05 G G hd _ w (λρ hρ=>?_) k;simp only[execOp,hρ x _ hx,hρ i _ hi,Instr.index,cn,asIntOf,nd,cF,run_underlying ht];simp[hj,hg]
theorem sf (l:List UInt8) (a b:Nat):(⟨l.toArray⟩:ByteArray).extract a b=⟨((l.take b).drop a).toArray⟩:=by
 have:((⟨l.toArray⟩:ByteArray).extract a b).data=((l.take b).drop a).toArray:=by
  rw[ByteArray.data_extract];apply Array.toList_inj.1;rw[Array.toList_extract,List.extract_eq_take_drop,List.drop_take]
 exact congrArg ByteArray.mk this
theorem Rg.TR {t:TypeId} {i:Operand} {l:List UInt8} {κ:IntKind} {j:Int} (ht:P.underlying t=some .string) (hx:ev L x=some (.string ⟨l.toArray⟩)) (hi:ev L i=some (.int κ j)) (hd:Nat.blt d n=true) (hj:0<=j/\j<=l.length)
  (k:Rg P r n ops rest ((d,.string ⟨(l.drop j.toNat).toArray⟩)::L) ds w K):
  Rg P r n ops ({dst:=some d,op:= .slice t x (some i) none none,type:=ty,pos,after:=af,guard:=none}::rest) L ds w K:=by
 have hs:(⟨l.toArray⟩:ByteArray).size=l.length:=by simp[ByteArray.size]
 refine .op a05 G G hd _ w (λρ hρ=>?_) k;simp only[execOp,hρ x _ hx,eY,j4,hρ i _ hi];rw[cn,run_sliceAt_string _ _ _ _ _ _ ht,run_slice_string_l _ _ _ ht _ _ hj.1 (by rw[hs];exact hj.2),sf,hs,vU];simp
theorem Rg.VZ {t:TypeId} {i:Operand} {l:List UInt8} {κ:IntKind} {j:Int} (ht:P.underlying t=some .string) (hx:ev L x=some (.string ⟨l.toArray⟩)) (hi:ev L i=some (.int κ j)) (hd:Nat.blt d n=true) (hj:0<=j/\j<=l.length)
  (k:Rg P r n ops rest ((d,.string ⟨(l.take j.toNat).toArray⟩)::L) ds w K):
  Rg P r n ops ({dst:=some d,op:= .slice t x none (some i) none,type:=ty,pos,after:=af,guard:=none}::rest) L ds w K:=by
 have hs:(⟨l.toArray⟩:ByteArray).size=l.length:=by simp[ByteArray.size]
 refine .op a05 G G hd _ w (λρ hρ=>?_) k;simp only[execOp,hρ x _ hx,eY,j4,hρ i _ hi];rw[cn,run_sliceAt_string _ _ _ _ _ _ ht,run_slice_string_h _ _ _ ht _ _ hj.1 (by rw[hs];exact hj.2),sf,List.drop_zero];simp
end
theorem Own.eS {α:Type} {A:RT α} {e:TypeId} {M:aM} {w:World} {base b p:Nat} {s:ByteArray} {v:Value} {xs:List α} (h:Own A e M w base v xs) (hb:w.heap[b]? =some (.stringIter s p)):v.ownBlock≠some b:=λhv=>by
 obtain⟨⟨C,h1,_⟩,_⟩:=h;rcases h1.2 with⟨h2,_⟩|⟨g,cap,cur,h2,_,h3,_⟩
 ·rw[h2]at hv;cases hv
 ·rw[h2]at hv;cases hv;rw[h3]at hb;cases hb
theorem Own.jy {α β:Type} {A:RT α} {B:RT β} {e e':TypeId} {M M':aM} {w:World} {base base':Nat} {v u:Value} {xs:List α} {ys:List β} (h:Own A e M w base v xs) (h':Own B e' M' w base' u ys) (ht:e≠e') {b:Nat} (hb:v.ownBlock=some b):u.ownBlock≠some b:=λhu=>by
 obtain⟨⟨C,h1,_⟩,_⟩:=h;obtain⟨⟨C',TB,_⟩,_⟩:=h';rcases h1.2 with⟨h2,_⟩|⟨g,cap,cur,h2,_,h3,_⟩
 ·rw[h2]at hb;cases hb
 ·rcases TB.2 with⟨Hs,_⟩|⟨g',Tp,ab0,Hs,_,h3',_⟩
  ·rw[Hs]at hu;cases hu
  ·rw[h2]at hb;rw[Hs]at hu;cases hb;cases hu;rw[h3]at h3';cases h3';exact ht G
theorem Own.fK {α:Type} {A:RT α} {e t:TypeId} {M:aM} {w:World} {base b:Nat} {v:Value} {xs:List α} {cs:Array Value} {fr:Nat×Nat} (h:Own A e M w base v xs) (hb:w.heap[b]? =some (.cells cs t fr)) (ht:t≠e):v.ownBlock≠some b:=λhv=>by
 obtain⟨⟨C,h1,_⟩,_⟩:=h;rcases h1.2 with⟨h2,_⟩|⟨g,cap,cur,h2,_,h3,_⟩
 ·rw[h2]at hv;cases hv
 ·rw[h2]at hv;cases hv;rw[h3]at hb;cases hb;exact ht G
abbrev Fd:=List UInt8×List UInt8
abbrev Dc:=Int×List Fd
abbrev En:=Dc×Int
abbrev RT.fd:RT Fd:=RT.pair RT.str RT.str
abbrev RT.dc:RT Dc:=RT.pair (RT.int .i64) (RT.fd.sl)
abbrev RT.en:RT En:=RT.pair RT.dc (RT.int .i64)
theorem EF:Part RT.fd RT.str (λp=>p.1) 0:=jE _ _
theorem Lz:Part RT.fd RT.str (λp=>p.2) 1:=fy _ _
theorem dc0:Part RT.dc (RT.int .i64) (λp=>p.1) 0:=jE _ _
theorem Hw:Part RT.dc (RT.fd.sl) (λp=>p.2) 1:=fy _ _
theorem XU:Part RT.en RT.dc (λp=>p.1) 0:=jE _ _
theorem en1:Part RT.en (RT.int .i64) (λp=>p.2) 2:=fy _ _
theorem OA {M:aM} {w:World} {p:Dc} {v:Value} (h:RT.dc.V M w p v):∃u,v= .agg #[.int .i64 p.1,u]:=by
 obtain⟨vs,⟨va,vb,rfl,⟨rfl,_⟩,hb⟩,rfl⟩:=h;have:=(RT.fd.sl Tg).len hb
 match vb,this with
 |[u],_=>exact⟨u,rfl⟩
theorem V0 {M:aM} {w:World} {p:Dc} {u:Value} {s:Int} (h:RT.dc.V M w p (.agg #[.int .i64 p.1,u])) (hs: -9223372036854775808<=s/\s<=9223372036854775807):RT.en.V M w (p,s) (.agg [.int .i64 p.1,u,.int .i64 s].toArray):=by
 obtain⟨vs,h1,h2⟩:=h
 have h3:vs=[.int .i64 p.1,u]:=by
  have:Value.agg #[.int .i64 p.1,u]= .agg vs.toArray:=h2;injection this with this
  simpa using(congrArg Array.toList this).symm
 subst h3;exact⟨_,⟨[.int .i64 p.1,u],[.int .i64 s],G,h1,G,hs.1,hs.2⟩,G⟩
theorem Own.V1 {α:Type} (A:RT α) (e:TypeId) (base:Nat) {M:aM} {w:World} (h:Lt M w):Own A e M w base (.slice none 0 0) []:=eL _ _ _ _ _
section
variable {P:Program} {r:Option Nat} {n:Nat} {L:Sl} {ds:List Deferred} {w:World} {K:Kt} {ops:Array Oper} {rest:List Oper} {d:Nat} {x:Operand} {ty:TypeId} {pos:String} {af:Array Edge}
theorem Rg.gw {α:Type} {A:RT α} {e:TypeId} {v:Value} {a:α} {M:aM} (hx:ev L x=some v) (hd:Nat.blt d n=true) (hM:Lt M w) (hv:A.V M w a v) (hg:A.agg=true)
  (k:∀u w',cO A M w' u a->Step M w M w' aC->w.heap.size<=w'.heap.size->Rg P r n ops rest ((d,u)::L) ds w' K):
  Rg P r n ops ({dst:=some d,op:= .box e x,type:=ty,pos,after:=af,guard:=none}::rest) L ds w K:=by
 refine nS M hx hd (λb w' h1 h2 hb s=>?_);obtain⟨vs,h3,h4⟩:=hv;have hc:v.cells=vs.toArray:=by subst h4;simp[RT.val,hg,Value.cells]
 rw[hc]at hb;refine k _ w' ⟨b,0,vs,G,λhm=>?_,A.le s.back.le h3,λj u hj=>?_⟩ s.back s.size
 ·have:=hM b hm;omega
 ·rw[nQ];exact gM hb a97
end
end Go.K
namespace Go.K
open Go.Maps (Keyed)
structure fY (P:Program) (kt:TypeId) (w:World) (b:Nat) (es:List MapEntry) (clock:Nat):Prop where
 at_:w.heap[b]? =some (.map es.toArray clock)
 born:es.Pairwise λx y=>x.born≠y.born
 lt:∀e∈es,e.born<clock
 keys:es.Pairwise λx y=>x.key≠y.key
 ok:∀e∈es,∃l,keyOf P kt e.key=some l
def eT (zv:Value) (es:List MapEntry) (key v:Value):Prop:=(∃e∈es,e.key=key/\v=e.val)\/((∀e∈es,e.key≠key)/\v=zv)
section
variable {P:Program} {kt:TypeId} {w:World} {b clock:Nat} {es:List MapEntry}
theorem fY.step {M M' N:aM} {w':World} (h:fY P kt w b es clock) (s:Step M w M' w' N) (hn: ¬N b):fY P kt w' b es clock:=⟨s.bU h.at_ hn,h.born,h.lt,h.keys,h.ok⟩
theorem fY.bP {M M':aM} {w':World} (h:fY P kt w b es clock) (s:Step M w M' w' aC):fY P kt w' b es clock:=h.step s λh=>h
theorem iD {α:Type} {R:α->α->Prop} {l:List α} (h:l.Pairwise R) {i j:Nat} {x y:α} (hi:l[i]? =some x) (hj:l[j]? =some y) (jr:i<j):R x y:=by
 obtain⟨h1,h2⟩:=an.1 hi;obtain⟨h3,h4⟩:=an.1 hj;have:=List.pairwise_iff_getElem.1 h i j h1 h3 jr
 rwa [h2,h4]at this
theorem fY.J3 (h:fY P kt w b es clock) {x y:MapEntry} (hx:x∈es) (hy:y∈es) (e:x.key=y.key):x=y:=by
 obtain⟨i,hi⟩:=bK.1 hx;obtain⟨j,hj⟩:=bK.1 hy;rcases ff i j with h1|h1|h1
 ·exact absurd e (iD h.keys hi hj h1)
 ·subst h1;rw[hi]at hj;exact aI hj
 ·exact absurd e.symm (iD h.keys hj hi h1)
theorem fY.Fh (h:fY P kt w b es clock) {i j:Nat} {x y:MapEntry} (hi:es[i]? =some x) (hj:es[j]? =some y) (e:x.born=y.born):i=j:=by
 rcases ff i j with h1|h1|h1
 ·exact absurd e (iD h.born hi hj h1)
 ·exact h1
 ·exact absurd e.symm (iD h.born hj hi h1)
theorem fY.val_one (h:fY P kt w b es clock) {zv key v v':Value} (h1:eT zv es key v) (h2:eT zv es key v'):v=v':=by
 rcases h1 with⟨e,he,hk,hv⟩|⟨hn,hv⟩
 ·rcases h2 with⟨e',qM,qa,rV⟩|⟨Nu,_⟩
  ·have:=h.J3 he qM (hk.trans qa.symm);rw[hv,rV,this]
  ·exact absurd hk (Nu e he)
 ·rcases h2 with⟨e',qM,qa,_⟩|⟨_,rV⟩
  ·exact absurd qa (hn e' qM)
  ·rw[hv,rV]
theorem dO {r:Nat} {a:Array MapEntry} {c:Nat} (hb:w.heap[r]? =some (.map a c)):(getObj r).run P w= .ok (.map a c) w:=by simp[getObj,Sem.run,hb]
theorem run_setObj_map {r:Nat} {a:Array MapEntry} {c:Nat} {o:Obj} (hb:w.heap[r]? =some (.map a c)):(setObj r o).run P w= .ok () {w with heap:=w.heap.setIfInBounds r o}:=by simp[setObj,Sem.run,hb]
theorem fY.push (h:fY P kt w b es clock) {key v:Value} {kl:Lit} (lI:keyOf P kt key=some kl) (hn:∀e∈es,e.key≠key) {w':World} (hw:w'.heap[b]? =some (.map (es++([⟨key,v,clock⟩]:List MapEntry)).toArray (clock+1))):fY P kt w' b (es++[⟨key,v,clock⟩]) (clock+1):=
 ⟨hw,List.pairwise_append.2 ⟨h.born,List.pairwise_singleton _ _,λx hx y hy=>by rw[dn.1 hy];have:=h.lt x hx;show x.born≠clock;omega⟩,(λe he=>by
  rcases dI.1 he with he|he
  ·have:=h.lt e he;omega
  ·rw[dn.1 he];exact Nat.lt_succ_self _),List.pairwise_append.2 ⟨h.keys,List.pairwise_singleton _ _,λx hx y hy=>by rw[dn.1 hy];exact hn x hx⟩,(λe he=>by
  rcases dI.1 he with he|he
  ·exact h.ok e he
  ·rw[dn.1 he];exact⟨kl,lI⟩)⟩
theorem eT.push {zv key:Value} {s:Nat} (hn:∀e∈es,e.key≠key) (jz v':Value):eT zv (es++[⟨key,zv,s⟩]) jz v'↔eT zv es jz v':=by
 constructor
 ·rintro(⟨e,he,hk,hv⟩|⟨h1,h2⟩)
  ·rcases dI.1 he with he|he
   ·exact .inl ⟨e,he,hk,hv⟩
   ·rw[dn.1 he]at hk hv;exact .inr ⟨λe he=>by rw[<-hk];exact hn e he,hv⟩
  ·exact .inr ⟨λe he=>h1 e (kc _ he),h2⟩
 ·rintro(⟨e,he,hk,hv⟩|⟨h1,h2⟩)
  ·exact .inl ⟨e,kc _ he,hk,hv⟩
  ·by_cases hk:key=jz
   ·exact .inl ⟨⟨key,zv,s⟩,by simp,hk,h2⟩
   ·exact .inr ⟨λe he=>by
     rcases dI.1 he with he|he
     ·exact h1 e he
     ·rw[dn.1 he];exact hk,h2⟩
end
section
variable {P:Program} {r:Option Nat} {n:Nat} {L:Sl} {ds:List Deferred} {w:World} {K:Kt} {ops:Array Oper} {rest:List Oper} {d:Nat} {x y z:Operand} {ty:TypeId} {pos:String} {af:Array Edge}
variable {kt:TypeId} {M:aM} {b clock:Nat} {es:List MapEntry}
theorem Rg.zy {t e:TypeId} (M:aM) (ht:P.underlying t=some (.map kt e)) (hd:Nat.blt d n=true)
  (k:∀b w',w.heap.size<=b->b<w'.heap.size->fY P kt w' b [] 0->Step M w (ins M b) w' aC->Rg P r n ops rest ((d,.map (some b))::L) ds w' K):
  Rg P r n ops ({dst:=some d,op:= .makeMap t none,type:=ty,pos,after:=af,guard:=none}::rest) L ds w K:=by
 refine .op a05 G G hd (.map (some w.heap.size)) (w.alloc (.map #[] 0)) (λρ hρ=>?_) (k w.heap.size _ (bz _) (by simp) ⟨dE w _,List.Pairwise.nil,(λe he=>by cases he),List.Pairwise.nil,(λe he=>by cases he)⟩ ((ei M w _).own (bz _) (by simp)));simp only[execOp];simp[Instr.makeMap,newObj,Sem.run,run_underlying ht]
theorem Rg.mapEntry {t e:TypeId} {zv key:Value} {size bytes:Nat} {kl:Lit} (ht:P.underlying t=some (.map kt e)) (Kk:Keyed P kt) (hi:TI P e zv size bytes) (hx:ev L x=some (.map (some b))) (hy:ev L y=some key) (hd:Nat.blt d n=true) (lI:keyOf P kt key=some kl) (h:fY P kt w b es clock) (hm:M b)
  (k:∀w' pW HO v s,fY P kt w' b pW HO->eT zv es key v->(⟨key,v,s⟩:MapEntry)∈pW->(∀jz v',eT zv pW jz v'↔eT zv es jz v')->((pW.map (·.key)=es.map (·.key)/\∃e∈es,e.key=key)\/(pW.map (·.key)=es.map (·.key)++[key]/\∀e∈es,e.key≠key))->Step M w M w' (λk=>k=b)->Rg P r n ops rest ((d,.tuple #[v,.int .i64 (s:Nat)])::L) ds w' K):
  Rg P r n ops ({dst:=some d,op:= .mapEntry t x y,type:=ty,pos,after:=af,guard:=none}::rest) L ds w K:=by
 have eZ:=ae h.at_;rcases Kk.find w lI es h.ok with⟨h1,h2⟩|⟨j,e0,h1,h2,h3⟩
 ·obtain⟨inf,i1,i2,_,_⟩:=hi.get;have hz:(zeroValue e).run P w= .ok zv w:=by simp[zeroValue,typeInfo,i1,i2]
  have hw:({w with heap:=w.heap.setIfInBounds b (.map (es.toArray.push ⟨key,zv,clock⟩) (clock+1))}:World).heap[b]? =some (.map (es++([⟨key,zv,clock⟩]:List MapEntry)).toArray (clock+1)):=by
   simp[dH,eZ]
  refine .op a05 G G hd _ _ (λρ hρ=>?_) (k _ _ _ zv clock (h.push lI h2 hw) (Or.inr ⟨h2,G⟩) (by simp) (eT.push h2) (Or.inr ⟨by simp,h2⟩) (iJ M hm));simp only[execOp,hρ x _ hx,hρ y _ hy,Instr.mapEntry,cn,run_underlying ht,cF,dO h.at_,Kk.check w false lI,h1,hz,run_setObj_map h.at_];simp[goInt]
 ·have he:e0∈es:=av h2
  have OB:es.toArray.modify j (λe=>{e with key:=key})=es.toArray:=by
   apply Array.ext_getElem?;intro i;rw[vS]
   split
   ·rename_i V2
    subst V2;simp only[iy,h2,eY];rw[<-h3]
   ·rfl
  have hw:({w with heap:=w.heap.setIfInBounds b (.map es.toArray clock)}:World).heap[b]? =some (.map es.toArray clock):=by simp[dH,eZ]
  have hj:es.toArray[j]? =some e0:=by simpa using h2
  have jT:(Instr.keyThatStays ((Option.map (fun(e:MapEntry)=>e.key) es.toArray[j]?).getD key) key).run P w= .ok key w:=by
   rw[hj];simp only[eY,Option.getD_some,h3];exact Kk.stays w lI
  refine .op a05 G G hd _ _ (λρ hρ=>?_) (k _ es clock e0.val e0.born ⟨hw,h.born,h.lt,h.keys,h.ok⟩ (Or.inl ⟨e0,he,h3,rfl⟩) (by rw[<-h3];exact he) (λ_ _=>Iff.rfl) (Or.inl ⟨G,e0,he,h3⟩) (iJ M hm));simp only[execOp,hρ x _ hx,hρ y _ hy,Instr.mapEntry,cn,run_underlying ht,cF,dO h.at_,Kk.check w false lI,h1,jT,OB,run_setObj_map h.at_];simp[goInt,hj]
theorem Rg.entryStore {t:TypeId} {key v0 val:Value} {s:Nat} (hx:ev L x=some (.map (some b))) (hy:ev L y=some (.int .i64 (s:Int))) (hz:ev L z=some val) (h:fY P kt w b es clock) (hm:M b) (lJ:(⟨key,v0,s⟩:MapEntry)∈es)
  (k:∀w' pW,fY P kt w' b pW clock->pW.map (·.key)=es.map (·.key)->(∀zv jz v',eT zv pW jz v'↔(jz=key/\v'=val)\/(jz≠key/\eT zv es jz v'))->Step M w M w' (λk=>k=b)->Rg P r n ops rest L ds w' K):
  Rg P r n ops ({dst:=none,op:= .entryStore t x y z,type:=ty,pos,after:=af,guard:=none}::rest) L ds w K:=by
 have eZ:=ae h.at_;obtain⟨i,hi⟩:=bK.1 lJ;have rL:=(an.1 hi).1
 have ajo:es.toArray.findIdx? (λe=>(e.born:Int)==(s:Int))=some i:=by
  rw[List.findIdx?_toArray,List.findIdx?_eq_some_iff_getElem];refine⟨rL,by rw[(an.1 hi).2];simp,λj hj=>?_⟩;have oX:j<es.length:=by omega
  have:=λe=>h.Fh (aq oX) hi e
  simp only[Bool.not_eq_true,beq_eq_false_iff_ne,ne_eq];intro e;have e2:((es[j]).born:Int)=(s:Int):=by simpa using e
  have:=this (by show(es[j]).born=s;omega);omega
 obtain⟨pW,wJ⟩:∃pW,pW=es.set i ⟨key,val,s⟩:=⟨_,rfl⟩
 have OB:es.toArray.modify i (λe=>{e with val:=val})=pW.toArray:=by
  apply Array.ext_getElem?;intro j;rw[vS,wJ];simp only[iy,fg]
  split
  ·rename_i V2
   subst V2;rw[hi];simp
  ·rfl
 have iW:∀j e',pW[j]? =some e'→(j=i/\e'=⟨key,val,s⟩)\/(j≠i/\es[j]? =some e'):=λj e' hj=>by
  rw[wJ,fg]at hj
  split at hj
  ·rename_i jr
   left;exact⟨jr.symm,by simpa[rL]using hj.symm⟩
  ·rename_i jr
   exact .inr ⟨λe=>jr e.symm,hj⟩
 have pX:pW.map (·.key)=es.map (·.key):=by
  rw[wJ,List.map_set];apply ja;intro j;rw[fg]
  split
  ·rename_i jr
   subst jr;have e:=(an.1 hi).2;simp[rL,e]
  ·rfl
 have OC:pW.map (·.born)=es.map (·.born):=by
  rw[wJ,List.map_set];apply ja;intro j;rw[fg]
  split
  ·rename_i jr
   subst jr;have e:=(an.1 hi).2;simp[rL,e]
  ·rfl
 have hw:({w with heap:=w.heap.setIfInBounds b (.map pW.toArray clock)}:World).heap[b]? =some (.map pW.toArray clock):=by simp[dH,eZ]
 have ia:∀e'∈pW,(e'=⟨key,val,s⟩)\/(e'∈es/\e'.key≠key):=λe' qM=>by
  obtain⟨j,hj⟩:=bK.1 qM;rcases iW j e' hj with⟨_,e⟩|⟨fw,wu⟩
  ·exact .inl e
  ·refine .inr ⟨av wu,λe=>fw ?_⟩;rcases ff j i with h1|h1|h1
   ·exact absurd e (iD h.keys wu hi h1)
   ·exact h1
   ·exact absurd e.symm (iD h.keys hi wu h1)
 have OD:(⟨key,val,s⟩:MapEntry)∈pW:=av (i:=i) (by rw[wJ,fg];simp[rL])
 have hold:∀e'∈es,e'.key≠key->e'∈pW:=λe' qM fw=>by
  obtain⟨j,hj⟩:=bK.1 qM;refine av (i:=j) ?_;rw[wJ,fg,if_neg]
  ·exact hj
  ·rintro rfl;rw[hi]at hj;cases hj;exact fw G
 have hW:fY P kt {w with heap:=w.heap.setIfInBounds b (.map pW.toArray clock)} b pW clock:=by
  refine⟨hw,?_,λe' qM=>?_,?_,λe' qM=>?_⟩
  ·have:=eo.2 h.born;rw[<-OC]at this;exact eo.1 this
  ·rcases ia e' qM with e|⟨h1,_⟩
   ·rw[e];exact(h.lt _ lJ:s<clock)
   ·exact h.lt _ h1
  ·have:=eo.2 h.keys;rw[<-pX]at this;exact eo.1 this
  ·rcases ia e' qM with e|⟨h1,_⟩
   ·rw[e];exact(h.ok _ lJ:∃l,keyOf P kt key=some l)
   ·exact h.ok _ h1
 refine .VH a05 G G _ (λρ hρ=>?_) (k _ pW hW pX (λzv jz v'=>?_) (iJ M hm))
 ·simp only[execOp,hρ x _ hx,hρ y _ hy,hρ z _ hz,Instr.entryStore,cn,dO h.at_,cF,asInt,asIntOf,nd,ajo,OB,run_setObj_map h.at_]
 ·constructor
  ·rintro(⟨e',qM,hk,hv⟩|⟨h1,h2⟩)
   ·rcases ia e' qM with e|⟨h3,h4⟩
    ·subst e;exact .inl ⟨hk.symm,hv⟩
    ·exact .inr ⟨by rw[<-hk];exact h4,.inl ⟨e',h3,hk,hv⟩⟩
   ·have fw:jz≠key:=λe=>h1 _ OD e.symm
    exact .inr ⟨fw,.inr ⟨λe' qM=>λe=>by
     by_cases h5:e'.key=key
     ·exact fw (e.symm.trans h5)
     ·exact h1 e' (hold e' qM h5) e,h2⟩⟩
  ·rintro(⟨rfl,rfl⟩|⟨fw,⟨e',qM,hk,hv⟩|⟨h1,h2⟩⟩)
   ·exact .inl ⟨_,OD,G,G⟩
   ·exact .inl ⟨e',hold e' qM (by rw[hk];exact fw),hk,hv⟩
   ·exact .inr ⟨λe' qM=>by
     rcases ia e' qM with e|⟨h3,_⟩
     ·rw[e];exact λe=>fw e.symm
     ·exact h1 e' h3,h2⟩
theorem Rg.ur {t e:TypeId} {zv key:Value} {size bytes:Nat} {kl:Lit} (ht:P.underlying t=some (.map kt e)) (Kk:Keyed P kt) (hi:TI P e zv size bytes) (hx:ev L x=some (.map (some b))) (hy:ev L y=some key) (hd:Nat.blt d n=true) (lI:keyOf P kt key=some kl) (h:fY P kt w b es clock)
  (k:∀v,eT zv es key v->Rg P r n ops rest ((d,v)::L) ds w K):
  Rg P r n ops ({dst:=some d,op:= .lookup t x y false,type:=ty,pos,after:=af,guard:=none}::rest) L ds w K:=by
 rcases Kk.find w lI es h.ok with⟨h1,h2⟩|⟨j,e0,h1,h2,h3⟩
 ·obtain⟨inf,i1,i2,_,_⟩:=hi.get;have hz:(zeroValue e).run P w= .ok zv w:=by simp[zeroValue,typeInfo,i1,i2]
  refine .op a05 G G hd zv w (λρ hρ=>?_) (k zv (Or.inr ⟨h2,G⟩));simp only[execOp,hρ x _ hx,hρ y _ hy,Instr.lookup,cn,run_underlying ht,cF,dO h.at_,nd,Kk.check w _ lI,h1,hz];simp
 ·refine .op a05 G G hd e0.val w (λρ hρ=>?_) (k e0.val (Or.inl ⟨e0,av h2,h3,G⟩));simp only[execOp,hρ x _ hx,hρ y _ hy,Instr.lookup,cn,run_underlying ht,cF,dO h.at_,nd,Kk.check w _ lI,h1];simp
end
end Go.K
namespace Go.K
inductive Qy where
 |mk (kind:Int) (term:Fd) (words:List (List UInt8)) (kids:List Qy)
noncomputable instance aqq:DecidableEq Qy:=λa b=>Classical.propDecidable (a=b)
def Qy.kind:Qy->Int| .mk k _ _ _=>k
def Qy.term:Qy->Fd| .mk _ t _ _=>t
def Qy.words:Qy->List (List UInt8)| .mk _ _ ws _=>ws
def Qy.kids:Qy->List Qy| .mk _ _ _ ks=>ks
def Qy.parts (q:Qy):Int×Fd×List (List UInt8)×List Qy:=(q.kind,q.term,q.words,q.kids)
theorem iE {a b:Qy}:a=b↔a.kind=b.kind/\a.term=b.term/\a.words=b.words/\a.kids=b.kids:=by
 constructor
 ·rintro rfl;exact⟨G,G,G,G⟩
 ·obtain⟨k,t,ws,ks⟩:=a;obtain⟨k',t',rY,XV⟩:=b;rintro⟨h1,h2,h3,h4⟩;have h1:k=k':=h1;have h2:t=t':=h2;have h3:ws=rY:=h3;have h4:ks=XV:=h4;subst h1 h2 h3 h4;rfl
def RT.XW:RT (List Qy) where
 n:=1
 agg:=false
 R:=λ_ _ xs vs=>xs=[]/\∃a c,vs=[.slice a 0 c]
 len:=by rintro _ _ x vs ⟨_,a,c,rfl⟩;rfl
 one:=by rintro _ _ x vs ⟨_,a,c,rfl⟩ v hv;simp at hv;subst hv;rfl
 le:=λ_ h=>h
abbrev RT.acy (K:RT (List Qy)):RT Qy:=RT.Xk (RT.pair (RT.int .i64) (RT.pair RT.fd (RT.pair (RT.str.sl) K))) Qy.parts
def RT.XX:Nat->{A:RT Qy // A.n=5/\A.agg=true}
 |0=>⟨RT.acy RT.XW,rfl,rfl⟩
 |n+1=>⟨RT.acy ((RT.XX n).1.sl (by rw[(RT.XX n).2.1];decide)),rfl,rfl⟩
def RT.qy (n:Nat):RT Qy:=(RT.XX n).1
theorem Dy (n:Nat):(RT.qy n).n=5:=(RT.XX n).2.1
theorem aG (n:Nat):0<(RT.qy n).n:=by rw[Dy];decide
theorem dK (n:Nat):(RT.qy n).agg=true:=(RT.XX n).2.2
theorem OE:∀{n:Nat} {M:aM} {w:World} {q:Qy} {vs:List Value},(RT.qy n).R M w q vs->(RT.qy (n+1)).R M w q vs
 |0,M,w,q,vs,h=>by
  obtain⟨va,vb,rfl,h1,vc,vd,rfl,h2,ve,vf,rfl,h3,hk,a,c,rfl⟩:=h;have hk:q.kids=[]:=hk;refine⟨va,_,G,h1,vc,_,G,h2,ve,_,G,h3,a,c,?_,?_,?_,.inl hk⟩
  ·show _=[Value.slice a q.kids.length c];rw[hk];rfl
  ·show q.kids.length<=c;rw[hk];exact a8 _
  ·show q.kids.length<=_;rw[hk];exact a8 _
 |n+1,M,w,q,vs,h=>by
  obtain⟨va,vb,rfl,h1,vc,vd,rfl,h2,ve,vf,rfl,h3,a,c,rfl,h4,h5,h6⟩:=h;refine⟨va,_,G,h1,vc,_,G,h2,ve,_,G,h3,a,c,G,h4,h5,h6.imp id fun⟨b,o,e,hb,hx⟩=>⟨b,o,e,hb,λi x hi=>?_⟩⟩;obtain⟨us,g1,g2⟩:=hx i x hi;exact⟨us,OE g1,by rw[(RT.XX n).2.1]at g2;rw[(RT.XX (n+1)).2.1];exact g2⟩
theorem kx {n:Nat} {M:aM} {w:World} {q:Qy} {v:Value} (h:(RT.qy n).V M w q v):(RT.qy (n+1)).V M w q v:=by
 obtain⟨vs,h1,h2⟩:=h;exact⟨vs,OE h1,by rw[h2];unfold RT.val;rw[dK,dK]⟩
theorem OF {n:Nat} {M:aM} {w:World} {q:Qy} {v:Value} (h:(RT.qy n).V M w q v):∀k,(RT.qy (n+k)).V M w q v
 |0=>h
 |k+1=>kx (OF h k)
theorem yK (n:Nat):Part (RT.qy (n+1)) (RT.int .i64) Qy.kind 0:=Part.Xk Qy.parts (jE _ _)
theorem BG (n:Nat):Part (RT.qy (n+1)) RT.fd Qy.term 1:=Part.Xk Qy.parts ((fy _ _).trans (jE _ _))
theorem EG (n:Nat):Part (RT.qy (n+1)) (RT.str.sl) Qy.words 3:=Part.Xk Qy.parts ((fy _ _).trans ((fy _ _).trans (jE _ _)))
theorem Bv (n:Nat):Part (RT.qy (n+1)) ((RT.qy n).sl (aG n)) Qy.kids 4:=Part.Xk Qy.parts ((fy _ _).trans ((fy _ _).trans (fy _ _)))
theorem IQ {P:Program} {t:TypeId} {z:Value} {bytes:Nat} (h:TI P t z 5 bytes) (n:Nat):TI P t z (RT.qy n).n bytes:=by rw[Dy];exact h
theorem mF {n:Nat} {M:aM} {w:World} {q:Qy} {v:Value} (h:(RT.qy (n+1)).V M w q v):∃vw vk,v= .agg #[.int .i64 q.kind,.string ⟨q.term.1.toArray⟩,.string ⟨q.term.2.toArray⟩,vw,vk]/\(-9223372036854775808<=q.kind/\q.kind<=9223372036854775807)/\(q.term.1.length<=140737488355328/\q.term.2.length<=140737488355328)/\(RT.str.sl).V M w q.words vw/\((RT.qy n).sl (aG n)).V M w q.kids vk:=by
 obtain⟨vs,⟨va,vb,rfl,⟨rfl,h1⟩,vc,vd,rfl,⟨_,_,rfl,⟨rfl,h2⟩,⟨rfl,h3⟩⟩,ve,vf,rfl,h4,h5⟩,rfl⟩:=h;obtain⟨a,c,rfl,h6⟩:=h4;obtain⟨a',c',rfl,h7⟩:=h5;exact⟨_,_,G,h1,⟨h2,h3⟩,iV.2 ⟨a,c,G,h6⟩,iV.2 ⟨a',c',G,h7⟩⟩
theorem Fi {n:Nat} {M:aM} {w:World} {k:Int} {t:Fd} {ws:List (List UInt8)} {ks:List Qy} {vw vk:Value} (h1: -9223372036854775808<=k/\k<=9223372036854775807) (h2:t.1.length<=140737488355328/\t.2.length<=140737488355328) (h3:(RT.str.sl).V M w ws vw) (h4:((RT.qy n).sl (aG n)).V M w ks vk):
  (RT.qy (n+1)).V M w (.mk k t ws ks) (.agg #[.int .i64 k,.string ⟨t.1.toArray⟩,.string ⟨t.2.toArray⟩,vw,vk]):=by
 obtain⟨a,c,rfl,h5⟩:=iV.1 h3;obtain⟨a',c',rfl,h6⟩:=iV.1 h4;exact⟨_,⟨_,_,G,⟨G,h1⟩,_,_,G,⟨_,_,G,⟨G,h2.1⟩,⟨G,h2.2⟩⟩,_,_,G,⟨a,c,G,h5⟩,⟨a',c',G,h6⟩⟩,G⟩
theorem zz {M:aM} {w:World} {k:Int} {t:Fd} {ws:List (List UInt8)} {vw:Value} (h1: -9223372036854775808<=k/\k<=9223372036854775807) (h2:t.1.length<=140737488355328/\t.2.length<=140737488355328) (h3:(RT.str.sl).V M w ws vw):
  (RT.qy 0).V M w (.mk k t ws []) (.agg #[.int .i64 k,.string ⟨t.1.toArray⟩,.string ⟨t.2.toArray⟩,vw,.slice none 0 0]):=by
 obtain⟨a,c,rfl,h5⟩:=iV.1 h3;exact⟨_,⟨_,_,G,⟨G,h1⟩,_,_,G,⟨_,_,G,⟨G,h2.1⟩,⟨G,h2.2⟩⟩,_,_,G,⟨a,c,G,h5⟩,G,_,_,G⟩,G⟩
theorem Dz {n:Nat} {M M':aM} {w w':World} {k:Int} {a b:ByteArray} {ws:List (List UInt8)} {ks:List Qy} {vw vk:Value} (h:(RT.str.sl).V M w ws vw) (h':((RT.qy n).sl (aG n)).V M' w' ks vk):∀u∈[Value.int .i64 k,.string a,.string b,vw,vk],u.oneCell'=true:=by
 intro u hu;simp only[du,List.not_mem_nil,or_false]at hu;rcases hu with rfl|rfl|rfl|rfl|rfl
 ·rfl
 ·rfl
 ·rfl
 ·exact jL h G G
 ·exact jL h' G G
section
variable {P:Program} {r:Option Nat} {n:Nat} {L:Sl} {ds:List Deferred} {w:World} {K:Kt} {ops:Array Oper} {rest:List Oper} {d:Nat} {x y z:Operand} {ty:TypeId} {pos:String} {af:Array Edge} {M:aM} {b clock:Nat} {es:List MapEntry} {kt:TypeId}
theorem pg {k:Int} (hk:P.underlying kt=some (.int .i64)) (e:Bool) (w:World):(Instr.checkKey e 10000 kt (.int .i64 k)).run P w= .ok () w:=by
 rw[show(10000:Nat)=9999+1 from rfl,Instr.checkKey,cn,run_underlying hk w];rfl
theorem qN {k:Int} (hk:P.underlying kt=some (.int .i64)) {o:Option (Nat×Value)} (h:Instr.findNow (.int .i64) (.int .i64 k) es 0=some o) (w:World):(Instr.findKey kt (.int .i64 k) es).run P w= .ok o w:=by
 unfold Instr.findKey;rw[cn,run_underlying hk w];simp only[cF,h,nd]
theorem Rg.uu {t e:TypeId} {k:Int} {v:Value} (ht:P.underlying t=some (.map kt e)) (hk:P.underlying kt=some (.int .i64)) (hx:ev L x=some (.map (some b))) (hy:ev L y=some (.int .i64 k)) (hz:ev L z=some v) (hb:w.heap[b]? =some (.map es.toArray clock)) (hf:Instr.findNow (.int .i64) (.int .i64 k) es 0=some none) (hm:M b)
  (c:∀w',w'.heap[b]? =some (.map (es++([⟨.int .i64 k,v,clock⟩]:List MapEntry)).toArray (clock+1))->Step M w M w' (λq=>q=b)->Rg P r n ops rest L ds w' K):
  Rg P r n ops ({dst:=none,op:= .insert t x y z,type:=ty,pos,after:=af,guard:=none}::rest) L ds w K:=by
 have eZ:=ae hb;refine .VH a05 rfl rfl {w with heap:=w.heap.setIfInBounds b (.map (es.toArray.push ⟨.int .i64 k,v,clock⟩) (clock+1))} (λρ hρ=>?_) (c _ (by simp[dH,eZ]) (iJ M hm));simp only[execOp,hρ x _ hx,hρ y _ hy,hρ z _ hz,Instr.mapUpdate,cn,run_underlying ht,cF,dO hb,pg hk,qN hk hf,run_setObj_map hb];simp
theorem Rg.TS {t e:TypeId} {k:Int} {zv v:Value} {size bytes:Nat} {o:Option (Nat×Value)} (ht:P.underlying t=some (.map kt e)) (hk:P.underlying kt=some (.int .i64)) (hi:TI P e zv size bytes) (hx:ev L x=some (.map (some b))) (hy:ev L y=some (.int .i64 k)) (hd:Nat.blt d n=true) (hb:w.heap[b]? =some (.map es.toArray clock)) (hf:Instr.findNow (.int .i64) (.int .i64 k) es 0=some o)
  (hv:v=(o.map Prod.snd).getD zv)
  (c:Rg P r n ops rest ((d,.tuple #[v,.bool o.isSome])::L) ds w K):
  Rg P r n ops ({dst:=some d,op:= .lookup t x y true,type:=ty,pos,after:=af,guard:=none}::rest) L ds w K:=by
 obtain⟨inf,i1,i2,_,_⟩:=hi.get;have hz:(zeroValue e).run P w= .ok zv w:=by simp[zeroValue,typeInfo,i1,i2]
 refine .op a05 G G hd _ w (λρ hρ=>?_) c
 cases o with
 |none=>
  simp only[execOp,hρ x _ hx,hρ y _ hy,Instr.lookup,cn,run_underlying ht,cF,dO hb,nd,pg hk,qN hk hf,hz];simp[hv]
 |some p=>
  simp only[execOp,hρ x _ hx,hρ y _ hy,Instr.lookup,cn,run_underlying ht,cF,dO hb,nd,pg hk,qN hk hf];simp[hv]
end
end Go.K
namespace Go.K
open Go.ChangeShapes Go.WideShapes Go.ChangeAt Go.RowKit
def RT.and {α:Type} (A:RT α) (S:α->Prop):RT α where
 n:=A.n
 agg:=A.agg
 R:=λM w x vs=>A.R M w x vs/\S x
 len:=λh=>A.len h.1
 one:=λh=>A.one h.1
 le:=λhl h=>⟨A.le hl h.1,h.2⟩
theorem OG {α:Type} {A:RT α} {S:α->Prop} {hn:0<A.n} {M:aM} {w:World} {xs:List α} {vs:List Value} (h:((A.and S).sl (show 0<(A.and S).n from hn)).R M w xs vs):(A.sl hn).R M w xs vs/\∀x∈xs,S x:=by
 obtain⟨a,c,rfl,h1,h2,h3⟩:=h;rcases h3 with h3|⟨b,o,e,hb,hx⟩
 ·subst h3;exact⟨⟨a,c,rfl,h1,h2,.inl rfl⟩,λx hx=>by cases hx⟩
 ·refine⟨⟨a,c,G,h1,h2,.inr ⟨b,o,e,hb,λi x hi=>?_⟩⟩,λx hm=>?_⟩
  ·obtain⟨us,g1,g2⟩:=hx i x hi;exact⟨us,g1.1,g2⟩
  ·obtain⟨i,hi⟩:=bK.1 hm;obtain⟨us,g1,g2⟩:=hx i x hi;exact g1.2
structure LA {H:Type} (b:DataW H->Nat):Prop where
 str:∀bytes,bytes.length<=b (.lit (.string bytes))
 sl:∀elems spare x,x∈elems->b x<=b (.slice elems spare)
 agg:∀parts x,x∈parts->b x<=b (.agg parts)
def eN {H:Type} (b:DataW H->Nat) (B F:Nat) {α:Type} (P:Program) (t:TypeId) (A:RT α):Prop:=
 ∀{enc:TypeId×Value->H} {w:World} {base fuel:Nat} {spare:Nat->Bool} {cs:List Value} {d:DataW H} {ps:List MemPlace},fuel<=F->
  DataW.trod enc P w base spare true fuel t cs=some (d,ps)->(∀n∈DataW.weights P t d,n<=reachBytes)->b d<=B->∃x,A.R aC w x cs
section
variable {H:Type} {b:DataW H->Nat} {B F:Nat} {P:Program}
theorem eN.of {α:Type} {A:RT α} {t:TypeId} (h:iv P t A):eN b B F P t A:=λ_ h1 h2 _=>h h1 h2
theorem eN.zero {α:Type} {A:RT α} {t:TypeId}:eN b B 0 P t A:=by
 intro enc w base fuel spare cs d ps hf h;obtain rfl:fuel=0:=by omega
 simp[DataW.trod]at h
theorem eN.str (hb:LA b) {t:TypeId} (ht:P.underlying t=some .string):eN b B F P t (RT.str.and λx=>x.length<=B):=by
 intro enc w base fuel spare cs d ps hf h hw hB
 cases fuel with
 |zero=>simp[DataW.trod]at h
 |succ n=>
  unfold DataW.trod at h;rw[ht]at h
  split at h<;>simp_all
  rename_i s
  obtain⟨h1,h2,h3⟩:=h;subst h2;have:=hw s.data.toList.length (by simp[DataW.weights]);have hr:reachBytes<=140737488355328:=by decide
  have h4:=hb.str s.data.toList;refine⟨s.data.toList,⟨?_,dz this hr⟩,dz h4 hB⟩;simp
theorem eN.sl (hb:LA b) {t e:TypeId} {α:Type} {A:RT α} {hn:0<A.n} (ht:P.underlying t=some (.slice e)) {nb:Nat} (hc:P.cellsOf e=A.n) (VL:P.bytesOf e=nb) (Nr:nb≠0) (hA:eN b B (F-1) P e A):eN b B F P t (A.sl hn):=by
 have Tq:P.bytesOf e≠0:=by rw[VL];exact Nr
 intro enc w base fuel spare cs d ps hfu h hw hB;rcases DataW.trod_slice ht h with⟨h1,h2⟩|⟨a,len,cap,elems,rest,n,hfn,rfl,hx,OH,hl,hm,hlen,De,Xt,hns⟩
 ·exact⟨[],none,0,by rw[h1];rfl,bz _,a8 _,.inl rfl⟩
 ·injection hx with hd sO
  have tX:DataW.weights P t d=(elems.length+rest.length)*P.bytesOf e::(DataW.weightsAll P e (elems.map (·.1))++DataW.weightsAll P e (rest.map (·.1))):=by
   rw[hd];simp[DataW.weights,ht]
  have h1:(elems.length+rest.length)*P.bytesOf e<=reachBytes:=hw _ (by rw[tX];exact bO ..)
  have h2:elems.length<=140737488355328:=by
   have hr:reachBytes<=140737488355328:=by decide
   have:=Nat.le_mul_of_pos_right (elems.length+rest.length) (Nat.pos_of_ne_zero Tq);omega
  have tN:∀y∈elems,b y.1<=B:=λy hy=>dz (hb.sl (elems.map (·.1)) (rest.map (·.1)) y.1 (cA.2 ⟨y,hy,rfl⟩)) (by rw[<-hd];exact hB)
  have gD:∀y∈elems,∀n∈DataW.weights P e y.1,n<=reachBytes:=λy hy n hn=>by
   refine hw n ?_;rw[tX];refine cu _ (kc _ ?_);clear tX hw h1 h2 Xt hns De hlen hd h sO tN hB
   induction elems with
   |nil=>cases hy
   |cons z zs ih=>
    simp only[eV,DataW.weightsAll,dI];rcases du.1 hy with rfl|hy
    ·exact .inl hn
    ·exact .inr (ih hy)
  have hex:∀i,i<len->∃x vs,A.R aC w x vs/\∀j:Nat,j<A.n->w.cell? (a.add (i*A.n+j))=vs[j]? :=λi hi=>by
   have h3:=De i hi;rw[aq q0,Option.bind_eq_some_iff]at h3;obtain⟨vs,h4,h5⟩:=h3;obtain⟨x,h6⟩:=hA (d:=elems[i].1) (ps:=elems[i].2) q0 h5 (gD _ (List.getElem_mem ..)) (tN _ (List.getElem_mem ..));obtain⟨_,h7,h8⟩:=World.cells?_some h4;rw[hc]at h8 h7;refine ⟨x,vs,h6,λj hj=> ?_⟩;rw[<-h8 j hj];unfold Addr.add;by_cases Xu:j=0
   ·subst Xu;simp
   ·by_cases N0:i*A.n=0
    ·simp[N0,Xu]
    ·rw[if_neg q0,if_neg N0,if_neg Xu];simp[Nat.add_assoc]
  rcases Nat.eq_zero_or_pos len with h0|yZ
  ·subst h0;exact⟨[],some a,cap,G,a8 _,a8 _,.inl G⟩
  ·obtain⟨x0,v0,wg,hc0⟩:=hex 0 yZ;have qA:0<v0.length:=by rw[A.len wg];exact hn
   have hs:=hc0 0 hn;rw[aq qA,Nat.zero_mul,nQ]at hs
   have N1:a.spot=none:=by
    unfold Addr.add at hs;rw[if_pos rfl]at hs;unfold World.cell? at hs
    cases hh:a.spot with
    |none=>rfl
    |some s=>rw[hh]at hs;split at hs<;>simp_all
   let f:Nat->α:=λi=>if h:i<len then(hex i h).choose else x0
   have hf:∀i,i<len->∃vs,A.R aC w (f i) vs/\∀j:Nat,j<A.n->w.cell? (a.add (i*A.n+j))=vs[j]? :=λi hi=>by
    have:f i=(hex i hi).choose:=dif_pos hi;rw[this];exact(hex i hi).choose_spec
   refine⟨(List.range len).map f,some a,cap,by simp,by simpa using hl,by simp;omega,.inr ⟨a.block,a.off,by cases a;simp_all,λh=>h.elim,λi x EN=>?_⟩⟩;have hi:i<len:=by have:=(an.1 EN).1;simpa using this
   obtain⟨vs,h3,h4⟩:=hf i hi;have hxe:x=f i:=by simp[hi]at EN;exact EN.symm
   subst hxe;refine ⟨vs,h3,λj v hj=> ?_⟩;have oX:j<A.n:=by rw[<-A.len h3];exact(an.1 hj).1
   rw[<-hj,<-h4 j oX,NZ _ _ N1,Nat.add_assoc]
theorem eN.pair (hb:LA b) {t:TypeId} {fs:Array Field} {f0 f1:Field} {α β:Type} {A:RT α} {A2:RT β} (ht:P.underlying t=some (.struct fs)) (Nt:fs[0]? =some f0) (K8:fs[1]? =some f1) (Xv:fs.size=2) (h0:f0.offset=0) (h1:f1.offset=A.n)
  (c0:P.cellsOf f0.type=A.n) (c1:P.cellsOf f1.type=A2.n) (ct:P.cellsOf t=A.n+A2.n) (hA:eN b B F P f0.type A) (hB2:eN b B F P f1.type A2):eN b B F P t (A.pair A2):=by
 intro enc w base fuel spare cs d ps hfu h hw hB;obtain⟨xs,n,hfn,hx,hl,hlen,hf⟩:=DataW.trod_struct ht h;injection hx with hd sO
 have xF:xs.length=2:=by omega
 have tN:∀y∈xs,b y.1<=B:=λy hy=>dz (hb.agg (xs.map (·.1)) y.1 (cA.2 ⟨y,hy,rfl⟩)) (by rw[<-hd];exact hB)
 match xs,xF with
 |[y0,y1],_=>
  have g0:=hf 0 f0 Nt;have g1:=hf 1 f1 K8;rw[h0,c0]at g0;rw[h1,c1]at g1
  have hty:fs.toList.map (λx=>x.type)=[f0.type,f1.type]:=by
   have Ht:fs.toList.length=2:=by simpa using Xv
   match yH:fs.toList,Ht with
   |[a,c],_=>
    have e0:fs.toList[0]? =some f0:=by simpa using Nt
    have e1:fs.toList[1]? =some f1:=by simpa using K8
    rw[yH]at e0 e1;simp at e0 e1;simp[e0,e1]
  have tX:DataW.weights P t d=DataW.weightsEach P [f0.type,f1.type] [y0.1,y1.1]:=by
   rw[hd];simp[DataW.weights,ht,hty]
  obtain⟨x0,e0⟩:=hA (d:=y0.1) (ps:=y0.2) q0 g0 (λm hm=>hw m (by rw[tX];exact nf (j:=0) G G m hm)) (tN _ (by simp));obtain⟨x1,e1⟩:=hB2 (d:=y1.1) (ps:=y1.2) q0 g1 (λm hm=>hw m (by rw[tX];exact nf (j:=1) G G m hm)) (tN _ (by simp));refine⟨(x0,x1),_,_,?_,e0,e1⟩;rw[List.drop_zero,bp (l:=cs.drop A.n) (by rw[cW,hl,ct];omega),iw]
theorem eN.four (hb:LA b) {t:TypeId} {fs:Array Field} {f0 f1 f2 f3:Field} {α β γ δ:Type} {A:RT α} {A1:RT β} {A2:RT γ} {A3:RT δ} (ht:P.underlying t=some (.struct fs)) (Nt:fs[0]? =some f0) (K8:fs[1]? =some f1) (Oh:fs[2]? =some f2) (hf3:fs[3]? =some f3) (Xv:fs.size=4)
  (h0:f0.offset=0) (h1:f1.offset=A.n) (h2:f2.offset=A.n+A1.n) (h3:f3.offset=A.n+A1.n+A2.n)
  (c0:P.cellsOf f0.type=A.n) (c1:P.cellsOf f1.type=A1.n) (c2:P.cellsOf f2.type=A2.n) (c3:P.cellsOf f3.type=A3.n) (ct:P.cellsOf t=A.n+A1.n+A2.n+A3.n) (hA:eN b B (F-1) P f0.type A) (V3:eN b B (F-1) P f1.type A1) (hA2:eN b B (F-1) P f2.type A2) (hA3:eN b B (F-1) P f3.type A3):eN b B F P t (A.pair (A1.pair (A2.pair A3))):=by
 intro enc w base fuel spare cs d ps hfu h hw hB;obtain⟨xs,n,hfn,hx,hl,hlen,hf⟩:=DataW.trod_struct ht h;injection hx with hd sO
 have xF:xs.length=4:=by omega
 have tN:∀y∈xs,b y.1<=B:=λy hy=>dz (hb.agg (xs.map (·.1)) y.1 (cA.2 ⟨y,hy,rfl⟩)) (by rw[<-hd];exact hB)
 match xs,xF with
 |[y0,y1,y2,y3],_=>
  have g0:=hf 0 f0 Nt;have g1:=hf 1 f1 K8;have g2:=hf 2 f2 Oh;have g3:=hf 3 f3 hf3;rw[h0,c0]at g0;rw[h1,c1]at g1;rw[h2,c2]at g2;rw[h3,c3]at g3
  have hty:fs.toList.map (λx=>x.type)=[f0.type,f1.type,f2.type,f3.type]:=by
   have Ht:fs.toList.length=4:=by simpa using Xv
   match yH:fs.toList,Ht with
   |[a,c,e,g],_=>
    have e0:fs.toList[0]? =some f0:=by simpa using Nt
    have e1:fs.toList[1]? =some f1:=by simpa using K8
    have e2:fs.toList[2]? =some f2:=by simpa using Oh
    have e3:fs.toList[3]? =some f3:=by simpa using hf3
    rw[yH]at e0 e1 e2 e3;simp at e0 e1 e2 e3;simp[e0,e1,e2,e3]
  have tX:DataW.weights P t d=DataW.weightsEach P [f0.type,f1.type,f2.type,f3.type] [y0.1,y1.1,y2.1,y3.1]:=by
   rw[hd];simp[DataW.weights,ht,hty]
  obtain⟨x0,e0⟩:=hA (d:=y0.1) (ps:=y0.2) q0 g0 (λm hm=>hw m (by rw[tX];exact nf (j:=0) G G m hm)) (tN _ (by simp));obtain⟨x1,e1⟩:=V3 (d:=y1.1) (ps:=y1.2) q0 g1 (λm hm=>hw m (by rw[tX];exact nf (j:=1) G G m hm)) (tN _ (by simp));obtain⟨x2,e2⟩:=hA2 (d:=y2.1) (ps:=y2.2) q0 g2 (λm hm=>hw m (by rw[tX];exact nf (j:=2) G G m hm)) (tN _ (by simp));obtain⟨x3,e3⟩:=hA3 (d:=y3.1) (ps:=y3.2) q0 g3 (λm hm=>hw m (by rw[tX];exact nf (j:=3) G G m hm)) (tN _ (by simp));refine⟨(x0,x1,x2,x3),_,_,?_,e0,_,_,G,e1,_,_,G,e2,e3⟩;rw[List.drop_zero,bp (l:=cs.drop (A.n+A1.n+A2.n)) (by rw[cW,hl,ct];omega)];rw[show cs.drop (A.n+A1.n+A2.n)=(cs.drop (A.n+A1.n)).drop A2.n from by rw[List.drop_drop],iw,show cs.drop (A.n+A1.n)=(cs.drop A.n).drop A1.n from by rw[List.drop_drop],iw,iw]
mutual
def BH (B:Nat):Qy->Prop
 |.mk _ t ws ks=>(t.1.length<=B/\t.2.length<=B/\∀x∈ws,x.length<=B)/\Cl B ks
def Cl (B:Nat):List Qy->Prop
 |[]=>True
 |q::ks=>BH B q/\Cl B ks
end
theorem acz {B:Nat} {ks:List Qy}:Cl B ks↔∀q∈ks,BH B q:=by
 induction ks with
 |nil=>simp[Cl]
 |cons q ks ih=>rw[Cl,ih,List.forall_mem_cons]
theorem OI {m:Nat} {M:aM} {w:World} {q:Qy} {vs:List Value} (h:(RT.qy m).R M w q vs):∀k,(RT.qy (m+k)).R M w q vs
 |0=>h
 |k+1=>OE (OI h k)
theorem eN.qy (hb:LA b) {t:TypeId} {fs ft:Array Field} {f0 f1 f2 f3 g0 g1:Field} {e2:TypeId} (ht:P.underlying t=some (.struct fs)) (Nt:fs[0]? =some f0) (K8:fs[1]? =some f1) (Oh:fs[2]? =some f2) (hf3:fs[3]? =some f3) (Xv:fs.size=4)
  (h0:f0.offset=0) (h1:f1.offset=1) (h2:f2.offset=3) (h3:f3.offset=4) (c0:P.cellsOf f0.type=1) (c1:P.cellsOf f1.type=2) (c2:P.cellsOf f2.type=1) (c3:P.cellsOf f3.type=1) (ct:P.cellsOf t=5)
  (t0:P.underlying f0.type=some (.int .i64)) (t1:P.underlying f1.type=some (.struct ft)) (hg0:ft[0]? =some g0) (hg1:ft[1]? =some g1) (hft:ft.size=2) (o0:g0.offset=0) (o1:g1.offset=1) (d0:P.cellsOf g0.type=1) (d1:P.cellsOf g1.type=1) (u0:P.underlying g0.type=some .string) (u1:P.underlying g1.type=some .string)
  (t2:P.underlying f2.type=some (.slice e2)) (ce:P.cellsOf e2=1) (be:P.bytesOf e2=16) (ue:P.underlying e2=some .string) (t3:P.underlying f3.type=some (.slice t)) (bt:P.bytesOf t=88):
  ∀F,eN b B F P t ((RT.qy F).and (BH B)):=by
 intro F
 induction F using Nat.strongRecOn with
 |ind F ih=>
 cases F with
 |zero=>exact eN.zero
 |succ F=>
  have hk:eN b B F P f3.type (((RT.qy (F-1)).and (BH B)).sl (show 0<((RT.qy (F-1)).and (BH B)).n from aG _)):=eN.sl hb t3 (by rw[ct];exact(Dy _).symm) bt Tg (ih (F-1) q0);have hw2:eN b B F P f2.type ((RT.str.and λx=>x.length<=B).sl (show 0<(RT.str.and λx=>x.length<=B).n from Nat.one_pos)):=eN.sl hb t2 ce be Tg (eN.str hb ue);have Xp:eN b B F P f1.type ((RT.str.and λx=>x.length<=B).pair (RT.str.and λx=>x.length<=B)):=eN.pair (A:=RT.str.and λx=>x.length<=B) (A2:=RT.str.and λx=>x.length<=B) hb t1 hg0 hg1 hft o0 o1 d0 d1 c1 (eN.str hb u0) (eN.str hb u1);have h4:eN b B (F+1) P t _:=eN.four (F:=F+1) (A:=RT.int .i64) (A1:=(RT.str.and λx=>x.length<=B).pair (RT.str.and λx=>x.length<=B)) (A2:=(RT.str.and λx=>x.length<=B).sl (show 0<(RT.str.and λx=>x.length<=B).n from Nat.one_pos)) (A3:=((RT.qy (F-1)).and (BH B)).sl (show 0<((RT.qy (F-1)).and (BH B)).n from aG _)) hb ht Nt K8 Oh hf3 Xv h0 h1 h2 h3 c0 c1 c2 c3 ct (eN.of (iv.int t0)) Xp hw2 hk;intro enc w base fuel spare cs d ps hfu h hw hB;obtain⟨⟨k,tt,ws,ks⟩,va,vb,rfl,hA,vc,vd,rfl,⟨ve,vf,rfl,⟨ha1,SO⟩,wK,EL⟩,vg,vh,rfl,XY,DA⟩:=h4 hfu h hw hB;obtain⟨aju,ajv⟩:=OG (hn:=Nat.one_pos) XY;obtain⟨ajw,ajx⟩:=OG (hn:=aG _) DA;refine⟨.mk k tt ws ks,?_,⟨SO,EL,ajv⟩,acz.2 ajx⟩
  have ajy:((RT.qy F).sl (aG F)).R aC w ks vh:=by
   obtain⟨a,c,e1,q1,q2,q3⟩:=ajw;refine⟨a,c,e1,q1,q2,q3.imp id fun⟨bb,o,e,OH,hx⟩=>⟨bb,o,e,OH,λi x hi=>?_⟩⟩;obtain⟨us,r1,r2⟩:=hx i x hi;refine⟨us,?_,by rw[Dy]at r2 ⊢;exact r2⟩;rcases Nat.eq_zero_or_pos F with hF|hF
   ·subst hF;exact r1
   ·have:=OI r1 1
    rwa [show F-1+1=F by omega]at this
  exact⟨va,_,G,hA,_,_,G,⟨ve,vf,G,ha1,wK⟩,vg,vh,G,aju,ajy⟩
theorem eN.ajz {t:TypeId} {enc:TypeId×Value->H} {w:World} {base:Nat} {spare:Nat->Bool} {v:Value} {d:DataW H} {ps:List MemPlace} (hA:∀F,eN b B F P t ((RT.qy F).and (BH B)))
  (h:DataW.Trod enc P w base spare true t v d ps) (hv:∀vs:List Value,vs.length=5->v.cells.toList=vs->(∀u∈vs,u.oneCell'=true)->v= .agg vs.toArray) (hw:∀n∈DataW.weights P t d,n<=reachBytes) (hB:b d<=B):∃n q,(RT.qy (n+1)).V aC w q v/\BH B q:=by
 obtain⟨fuel,hf⟩:=h;obtain⟨q,hq,hS⟩:=hA fuel (bz _) hf hw hB;refine⟨fuel,q,kx ⟨_,hq,?_⟩,hS⟩;rw[hv _ (by rw[(RT.qy fuel).len hq,Dy]) rfl ((RT.qy fuel).one hq)];unfold RT.val;rw[if_pos (dK _)];simp[Value.cells]
end
end Go.K
namespace Go.K
open Go.Proofs
theorem I3:TI Tryz.prog 3 (.int .i64 0) 1 8:=by unfold TI;kernel_rfl
theorem I5:TI Tryz.prog 5 (.int .u8 0) 1 1:=by unfold TI;kernel_rfl
theorem I9:TI Tryz.prog 9 (.string ⟨#[]⟩) 1 16:=by unfold TI;kernel_rfl
theorem kF:TI Tryz.prog 24 (.agg #[(.string ⟨#[]⟩),(.string ⟨#[]⟩)]) 2 32:=by unfold TI;kernel_rfl
theorem rA:TI Tryz.prog 25 (.slice none 0 0) 1 24:=by unfold TI;kernel_rfl
theorem I32:TI Tryz.prog 32 (.int .i64 0) 1 8:=by unfold TI;kernel_rfl
theorem qc:TI Tryz.prog 61 (.slice none 0 0) 1 24:=by unfold TI;kernel_rfl
theorem tO:TI Tryz.prog 70 (.slice none 0 0) 1 24:=by unfold TI;kernel_rfl
theorem lD:TI Tryz.prog 72 (.agg #[(.int .i64 0),(.slice none 0 0)]) 2 32:=by unfold TI;kernel_rfl
theorem Hx:TI Tryz.prog 74 (.agg #[(.int .i64 0),(.slice none 0 0),(.int .i64 0)]) 3 40:=by unfold TI;kernel_rfl
theorem kf:TI Tryz.prog 153 (.agg #[(.string ⟨#[]⟩),(.string ⟨#[]⟩)]) 2 32:=by unfold TI;kernel_rfl
theorem ajA:TI Tryz.prog 183 (.slice none 0 0) 1 24:=by unfold TI;kernel_rfl
theorem jg:TI Tryz.prog 188 (.agg #[(.int .i64 0),(.slice none 0 0)]) 2 32:=by unfold TI;kernel_rfl
theorem LB:TI Tryz.prog 218 (.agg #[(.string ⟨#[]⟩),(.int .i64 0)]) 2 24:=by unfold TI;kernel_rfl
theorem ti:TI Tryz.prog 250 (.pointer none) 1 8:=by unfold TI;kernel_rfl
theorem Fj:TI Tryz.prog 293 (.slice none 0 0) 1 24:=by unfold TI;kernel_rfl
theorem HP:TI Tryz.prog 294 (.slice none 0 0) 1 24:=by unfold TI;kernel_rfl
theorem ajB:TI Tryz.prog 296 (.agg #[(.slice none 0 0),(.slice none 0 0),(.int .i64 0)]) 3 56:=by unfold TI;kernel_rfl
theorem BI:TI Tryz.prog 301 (.agg #[(.int .i64 0),(.int .i64 0),(.int .i64 0),(.int .i64 0)]) 4 32:=by unfold TI;kernel_rfl
theorem ajC:TI Tryz.prog 365 (.agg #[(.pointer none),(.slice none 0 0)]) 2 32:=by unfold TI;kernel_rfl
theorem XZ:placesOf Tryz.prog 24=[(0,1),(1,1)].map some:=by kernel_rfl
theorem B72:placesOf Tryz.prog 72=[(0,1),(1,1)].map some:=by kernel_rfl
theorem B74:placesOf Tryz.prog 74=[(0,2),(2,1)].map some:=by kernel_rfl
theorem TT:placesOf Tryz.prog 188=[(0,1),(1,1)].map some:=by kernel_rfl
theorem acA:placesOf Tryz.prog 218=[(0,1),(1,1)].map some:=by kernel_rfl
theorem ajD:placesOf Tryz.prog 296=[(0,1),(1,1),(2,1)].map some:=by kernel_rfl
theorem ajE:placesOf Tryz.prog 301=[(0,1),(1,1),(2,1),(3,1)].map some:=by kernel_rfl
theorem mixed:Tryz.prog.follows .mixedOrders=true:=by kernel_rfl
theorem E29:Enters Tryz.prog 29:=enters Tryz.func29 rfl Tg
theorem E47:Enters Tryz.prog 47:=enters Tryz.func47 rfl Tg
theorem E58:Enters Tryz.prog 58:=enters Tryz.func58 rfl Tg
theorem E74:Enters Tryz.prog 74:=enters Tryz.func74 rfl Tg
theorem E95:Enters Tryz.prog 95:=enters Tryz.func95 rfl Tg
theorem X0:Enters Tryz.prog 111:=enters Tryz.func111 rfl Tg
theorem X1:Enters Tryz.prog 113:=enters Tryz.func113 rfl Tg
theorem acB:Enters Tryz.prog 122:=enters Tryz.func122 rfl Tg
theorem ajF:Enters Tryz.prog 138:=enters Tryz.func138 rfl Tg
theorem X2:Enters Tryz.prog 139:=enters Tryz.func139 rfl Tg
theorem ajG:Enters Tryz.prog 140:=enters Tryz.func140 rfl Tg
theorem ajH:Enters Tryz.prog 141:=enters Tryz.func141 rfl Tg
theorem acC:Enters Tryz.prog 142:=enters Tryz.func142 rfl Tg
theorem ajI:Enters Tryz.prog 146:=enters Tryz.func146 rfl Tg
theorem ajJ:Enters Tryz.prog 147:=enters Tryz.func147 rfl Tg
theorem ajK:Enters Tryz.prog 148:=enters Tryz.func148 rfl Tg
theorem ajL:Enters Tryz.prog 149:=enters Tryz.func149 rfl Tg
theorem ajM:Enters Tryz.prog 170:=enters Tryz.func170 rfl Tg
theorem acD:Enters Tryz.prog 171:=enters Tryz.func171 rfl Tg
theorem X3:Enters Tryz.prog 172:=enters Tryz.func172 rfl Tg
theorem ajN:Enters Tryz.prog 173:=enters Tryz.func173 rfl Tg
theorem X4:Enters Tryz.prog 182:=enters Tryz.func182 rfl Tg
theorem ajO:Enters Tryz.prog 183:=enters Tryz.func183 rfl Tg
theorem ajP:Enters Tryz.prog 184:=enters Tryz.func184 rfl Tg
theorem ajQ:Enters Tryz.prog 185:=enters Tryz.func185 rfl Tg
theorem ajR:Enters Tryz.prog 186:=enters Tryz.func186 rfl Tg
theorem ajS:Enters Tryz.prog 187:=enters Tryz.func187 rfl Tg
theorem ajT:Enters Tryz.prog 189:=enters Tryz.func189 rfl Tg
theorem ajU:Enters Tryz.prog 192:=enters Tryz.func192 rfl Tg
theorem ajV:Enters Tryz.prog 193:=enters Tryz.func193 rfl Tg
theorem X5:Enters Tryz.prog 194:=enters Tryz.func194 rfl Tg
theorem ajW:Enters Tryz.prog 195:=enters Tryz.func195 rfl Tg
theorem acE:Enters Tryz.prog 239:=enters Tryz.func239 rfl Tg
theorem ajX:Enters Tryz.prog 240:=enters Tryz.func240 rfl Tg
theorem ajY:Enters Tryz.prog 241:=enters Tryz.func241 rfl Tg
theorem acF:Enters Tryz.prog 242:=enters Tryz.func242 rfl Tg
theorem ajZ:Enters Tryz.prog 243:=enters Tryz.func243 rfl Tg
theorem aj0:Enters Tryz.prog 244:=enters Tryz.func244 rfl Tg
theorem aj1:Enters Tryz.prog 252:=enters Tryz.func252 rfl Tg
theorem aj2:Enters Tryz.prog 264:=enters Tryz.func264 rfl Tg
theorem aj3:Enters Tryz.prog 265:=enters Tryz.func265 rfl Tg
theorem acG:Enters Tryz.prog 272:=enters Tryz.func272 rfl Tg
theorem aj4:Enters Tryz.prog 273:=enters Tryz.func273 rfl Tg
theorem aj5:Enters Tryz.prog 280:=enters Tryz.func280 rfl Tg
theorem aj6:Enters Tryz.prog 281:=enters Tryz.func281 rfl Tg
theorem aj7:Enters Tryz.prog 282:=enters Tryz.func282 rfl Tg
theorem acH:Enters Tryz.prog 303:=enters Tryz.func303 rfl Tg
theorem aj8:Enters Tryz.prog 304:=enters Tryz.func304 rfl Tg
theorem aj9:Enters Tryz.prog 308:=enters Tryz.func308 rfl Tg
theorem acI:Enters Tryz.prog 316:=enters Tryz.func316 rfl Tg
set_option maxRecDepth 10000
def fO (c:Int):Bool:=decide ((97<=c/\c<=122)\/(65<=c/\c<=90)\/(192<=c/\c<=591/\c≠215/\c≠247))
def mG (c:Int):Bool:=decide (48<=c/\c<=57)
def ez (c:Int):Int:=if(65<=c/\c<=90)\/(192<=c/\c<=222/\c≠215)then c+32 else c
theorem Fk (c:Int) (w0:World):
  Spec Tryz.prog 240 #[.int .i64 c] w0 (λv w=>v= .bool (fO c)/\w=w0):=by
 refine bh (args:=[_]) (fn:=Tryz.f240) Tryz.func240 G (n:=33) Tryz.ntmps240 (T.aQ (Rg.aZ G G (T.aQ (ab G G (eB G G G (ab G G ?_))))));refine aO (g:=5) G (λiO=>?_) (λiO=>?_)
 ·refine ah G G (ab G G (ah G G (fM G G G (aU G G G (ab G G ?_)))));refine aO (g:=9) G (λDB=>?_) (λDB=>?_)
  ·refine aj G G G G (aj G G G G (aj G G G G (cp G G G (cp G G G (aj G G G G (aU G G G (ab G G (aj G G G G (aj G G G G (aj G G G G (cp G G G ?_)))))))))));refine cp G G G (aj G G G G (aj G G G G (cp G G G (cp G G G (aj G G G G (aj G G G G (cp G G G (cp G G G (aj G G G G (aU G G G (aN G G ?_)))))))))));refine ad (aJ ?_);exact aK rfl rfl ⟨by simp only[fO];first|rfl|(congr 1;first|(exact(decide_eq_true q0).symm)|(exact(decide_eq_false q0).symm)|(exact decide_eq_decide.2 q0)),rfl⟩
  ·refine ah G G (ab G G (ah G G (eB G G G (ah G G (ab G G ?_)))));refine aO (g:=12) G (λtj=>?_) (λtj=>?_)
   ·refine ah G G (ab G G (ah G G (fM G G G (ah G G (aU G G G (aB G G G (ab G G ?_)))))));refine aO (g:=17) G (λzA=>?_) (λzA=>?_)
    ·refine aj G G G G (aj G G G G (aj G G G G (cp G G G (cp G G G (aj G G G G (aj G G G G (cp G G G (cp G G G (aj G G G G (aj G G G G (cp G G G ?_)))))))))));refine cp G G G (aj G G G G (aU G G G (Rg.aZ G G (aJ ?_))));exact aK rfl rfl ⟨by simp only[fO];first|rfl|(congr 1;first|(exact(decide_eq_true q0).symm)|(exact(decide_eq_false q0).symm)|(exact decide_eq_decide.2 q0)),rfl⟩
    ·refine ah G G (ab G G (ah G G (eB G G G (ah G G (ab G G ?_)))));refine aO (g:=20) G (λmH=>?_) (λmH=>?_)
     ·refine ah G G (ab G G (ah G G (fM G G G (ah G G (aU G G G (ah G G (ab G G ?_)))))));refine aO (g:=24) G (λzB=>?_) (λzB=>?_)
      ·refine ah G G (ab G G (ah G G (fm G G G (ah G G (aU G G G (ah G G (ab G G ?_)))))));refine aO (g:=28) G (λzC=>?_) (λzC=>?_)
       ·refine ah G G (ab G G (ah G G (fm G G G (ah G G (aU G G G (aB G G G (Rg.aZ G G (aJ ?_))))))));exact aK rfl rfl ⟨by simp only[fO];first|rfl|(congr 1;first|(exact(decide_eq_true q0).symm)|(exact(decide_eq_false q0).symm)|(exact decide_eq_decide.2 q0)),rfl⟩
       ·refine aj G G G G (aj G G G G (ah G G (aB G G G (aB G G G (Rg.aZ G G (aJ ?_))))));exact aK rfl rfl ⟨by simp only[fO];first|rfl|(congr 1;first|(exact(decide_eq_true q0).symm)|(exact(decide_eq_false q0).symm)|(exact decide_eq_decide.2 q0)),rfl⟩
      ·refine aj G G G G (aj G G G G (ah G G (aB G G G (ah G G (ab G G (aj G G G G (aj G G G G (ah G G (aB G G G (aB G G G (aN G G ?_)))))))))));refine ad (aJ ?_);exact aK rfl rfl ⟨by simp only[fO];first|rfl|(congr 1;first|(exact(decide_eq_true q0).symm)|(exact(decide_eq_false q0).symm)|(exact decide_eq_decide.2 q0)),rfl⟩
     ·refine aj G G G G (aj G G G G (ah G G (aB G G G (ah G G (ab G G (aj G G G G (aj G G G G (ah G G (aB G G G (ah G G (ab G G ?_)))))))))));refine aj G G G G (aj G G G G (ah G G (aB G G G (aB G G G (Rg.aZ G G (aJ ?_))))));exact aK rfl rfl ⟨by simp only[fO];first|rfl|(congr 1;first|(exact(decide_eq_true q0).symm)|(exact(decide_eq_false q0).symm)|(exact decide_eq_decide.2 q0)),rfl⟩
   ·refine aj G G G G (aj G G G G (ah G G (aB G G G (aB G G G (ab G G (ah G G (ab G G (ah G G (eB G G G (ah G G (ab G G ?_)))))))))));refine aO (g:=20) G (λmH=>?_) (λmH=>?_)
    ·refine ah G G (ab G G (ah G G (fM G G G (ah G G (aU G G G (ah G G (ab G G ?_)))))));refine aO (g:=24) G (λzB=>?_) (λzB=>?_)
     ·refine ah G G (ab G G (ah G G (fm G G G (ah G G (aU G G G (ah G G (ab G G ?_)))))));refine aO (g:=28) G (λzC=>?_) (λzC=>?_)
      ·refine ah G G (ab G G (ah G G (fm G G G (ah G G (aU G G G (aB G G G (Rg.aZ G G (aJ ?_))))))));exact aK rfl rfl ⟨by simp only[fO];first|rfl|(congr 1;first|(exact(decide_eq_true q0).symm)|(exact(decide_eq_false q0).symm)|(exact decide_eq_decide.2 q0)),rfl⟩
      ·refine aj G G G G (aj G G G G (ah G G (aB G G G (aB G G G (Rg.aZ G G (aJ ?_))))));exact aK rfl rfl ⟨by simp only[fO];first|rfl|(congr 1;first|(exact(decide_eq_true q0).symm)|(exact(decide_eq_false q0).symm)|(exact decide_eq_decide.2 q0)),rfl⟩
     ·refine aj G G G G (aj G G G G (ah G G (aB G G G (ah G G (ab G G (aj G G G G (aj G G G G (ah G G (aB G G G (aB G G G (aN G G ?_)))))))))));refine ad (aJ ?_);exact aK rfl rfl ⟨by simp only[fO];first|rfl|(congr 1;first|(exact(decide_eq_true q0).symm)|(exact(decide_eq_false q0).symm)|(exact decide_eq_decide.2 q0)),rfl⟩
    ·refine aj G G G G (aj G G G G (ah G G (aB G G G (ah G G (ab G G (aj G G G G (aj G G G G (ah G G (aB G G G (ah G G (ab G G ?_)))))))))));refine aj G G G G (aj G G G G (ah G G (aB G G G (aB G G G (Rg.aZ G G (aJ ?_))))));exact aK rfl rfl ⟨by simp only[fO];first|rfl|(congr 1;first|(exact(decide_eq_true q0).symm)|(exact(decide_eq_false q0).symm)|(exact decide_eq_decide.2 q0)),rfl⟩
 ·refine aj G G G G (aj G G G G (aB G G G (ab G G (ah G G (ab G G (ah G G (eB G G G (ah G G (ab G G ?_)))))))));refine aO (g:=12) G (λtj=>?_) (λtj=>?_)
  ·refine ah G G (ab G G (ah G G (fM G G G (ah G G (aU G G G (aB G G G (ab G G ?_)))))));refine aO (g:=17) G (λzA=>?_) (λzA=>?_)
   ·refine aj G G G G (aj G G G G (aj G G G G (cp G G G (cp G G G (aj G G G G (aj G G G G (cp G G G (cp G G G (aj G G G G (aj G G G G (cp G G G ?_)))))))))));refine cp G G G (aj G G G G (aU G G G (Rg.aZ G G (aJ ?_))));exact aK rfl rfl ⟨by simp only[fO];first|rfl|(congr 1;first|(exact(decide_eq_true q0).symm)|(exact(decide_eq_false q0).symm)|(exact decide_eq_decide.2 q0)),rfl⟩
   ·refine ah G G (ab G G (ah G G (eB G G G (ah G G (ab G G ?_)))));refine aO (g:=20) G (λmH=>?_) (λmH=>?_)
    ·refine ah G G (ab G G (ah G G (fM G G G (ah G G (aU G G G (ah G G (ab G G ?_)))))));refine aO (g:=24) G (λzB=>?_) (λzB=>?_)
     ·refine ah G G (ab G G (ah G G (fm G G G (ah G G (aU G G G (ah G G (ab G G ?_)))))));refine aO (g:=28) G (λzC=>?_) (λzC=>?_)
      ·refine ah G G (ab G G (ah G G (fm G G G (ah G G (aU G G G (aB G G G (Rg.aZ G G (aJ ?_))))))));exact aK rfl rfl ⟨by simp only[fO];first|rfl|(congr 1;first|(exact(decide_eq_true q0).symm)|(exact(decide_eq_false q0).symm)|(exact decide_eq_decide.2 q0)),rfl⟩
      ·refine aj G G G G (aj G G G G (ah G G (aB G G G (aB G G G (Rg.aZ G G (aJ ?_))))));exact aK rfl rfl ⟨by simp only[fO];first|rfl|(congr 1;first|(exact(decide_eq_true q0).symm)|(exact(decide_eq_false q0).symm)|(exact decide_eq_decide.2 q0)),rfl⟩
     ·refine aj G G G G (aj G G G G (ah G G (aB G G G (ah G G (ab G G (aj G G G G (aj G G G G (ah G G (aB G G G (aB G G G (aN G G ?_)))))))))));refine ad (aJ ?_);exact aK rfl rfl ⟨by simp only[fO];first|rfl|(congr 1;first|(exact(decide_eq_true q0).symm)|(exact(decide_eq_false q0).symm)|(exact decide_eq_decide.2 q0)),rfl⟩
    ·refine aj G G G G (aj G G G G (ah G G (aB G G G (ah G G (ab G G (aj G G G G (aj G G G G (ah G G (aB G G G (ah G G (ab G G ?_)))))))))));refine aj G G G G (aj G G G G (ah G G (aB G G G (aB G G G (Rg.aZ G G (aJ ?_))))));exact aK rfl rfl ⟨by simp only[fO];first|rfl|(congr 1;first|(exact(decide_eq_true q0).symm)|(exact(decide_eq_false q0).symm)|(exact decide_eq_decide.2 q0)),rfl⟩
  ·refine aj G G G G (aj G G G G (ah G G (aB G G G (aB G G G (ab G G (ah G G (ab G G (ah G G (eB G G G (ah G G (ab G G ?_)))))))))));refine aO (g:=20) G (λmH=>?_) (λmH=>?_)
   ·refine ah G G (ab G G (ah G G (fM G G G (ah G G (aU G G G (ah G G (ab G G ?_)))))));refine aO (g:=24) G (λzB=>?_) (λzB=>?_)
    ·refine ah G G (ab G G (ah G G (fm G G G (ah G G (aU G G G (ah G G (ab G G ?_)))))));refine aO (g:=28) G (λzC=>?_) (λzC=>?_)
     ·refine ah G G (ab G G (ah G G (fm G G G (ah G G (aU G G G (aB G G G (Rg.aZ G G (aJ ?_))))))));exact aK rfl rfl ⟨by simp only[fO];first|rfl|(congr 1;first|(exact(decide_eq_true q0).symm)|(exact(decide_eq_false q0).symm)|(exact decide_eq_decide.2 q0)),rfl⟩
     ·refine aj G G G G (aj G G G G (ah G G (aB G G G (aB G G G (Rg.aZ G G (aJ ?_))))));exact aK rfl rfl ⟨by simp only[fO];first|rfl|(congr 1;first|(exact(decide_eq_true q0).symm)|(exact(decide_eq_false q0).symm)|(exact decide_eq_decide.2 q0)),rfl⟩
    ·refine aj G G G G (aj G G G G (ah G G (aB G G G (ah G G (ab G G (aj G G G G (aj G G G G (ah G G (aB G G G (aB G G G (aN G G ?_)))))))))));refine ad (aJ ?_);exact aK rfl rfl ⟨by simp only[fO];first|rfl|(congr 1;first|(exact(decide_eq_true q0).symm)|(exact(decide_eq_false q0).symm)|(exact decide_eq_decide.2 q0)),rfl⟩
   ·refine aj G G G G (aj G G G G (ah G G (aB G G G (ah G G (ab G G (aj G G G G (aj G G G G (ah G G (aB G G G (ah G G (ab G G ?_)))))))))));refine aj G G G G (aj G G G G (ah G G (aB G G G (aB G G G (Rg.aZ G G (aJ ?_))))));exact aK rfl rfl ⟨by simp only[fO];first|rfl|(congr 1;first|(exact(decide_eq_true q0).symm)|(exact(decide_eq_false q0).symm)|(exact decide_eq_decide.2 q0)),rfl⟩
theorem HQ (c:Int) (w0:World):
  Spec Tryz.prog 241 #[.int .i64 c] w0 (λv w=>v= .bool (mG c)/\w=w0):=by
 refine bh (args:=[_]) (fn:=Tryz.f241) Tryz.func241 G (n:=9) Tryz.ntmps241 (T.aQ (Rg.aZ G G (T.aQ (ab G G (eB G G G (ab G G ?_))))));refine aO (g:=5) G (λiO=>?_) (λiO=>?_)
 ·refine ah G G (ab G G (ah G G (fM G G G (aU G G G (Rg.aZ G G (aJ ?_))))));exact aK rfl rfl ⟨by simp only[mG];first|rfl|(congr 1;first|(exact(decide_eq_true q0).symm)|(exact(decide_eq_false q0).symm)|(exact decide_eq_decide.2 q0)),rfl⟩
 ·refine aj G G G G (aj G G G G (aB G G G (Rg.aZ G G (aJ ?_))));exact aK rfl rfl ⟨by simp only[mG];first|rfl|(congr 1;first|(exact(decide_eq_true q0).symm)|(exact(decide_eq_false q0).symm)|(exact decide_eq_decide.2 q0)),rfl⟩
theorem Cm (c:Int) (w0:World) (hc:0<=c/\c<=1114111):
  Spec Tryz.prog 242 #[.int .i64 c] w0 (λv w=>v= .int .i64 (ez c)/\w=w0):=by
 refine bh (args:=[_]) (fn:=Tryz.f242) Tryz.func242 G (n:=24) Tryz.ntmps242 (T.aQ (Rg.aZ G G (aL (T.aQ (ab G G (eB G G G (ab G G ?_)))))));refine aO (g:=5) G (λiO=>?_) (λiO=>?_)
 ·refine ah G G (ab G G (ah G G (fM G G G (aU G G G (ab G G ?_)))));refine aO (g:=9) G (λDB=>?_) (λDB=>?_)
  ·refine aj G G G G (aj G G G G (aj G G G G (cp G G G (cp G G G (aj G G G G (aj G G G G (cp G G G (cp G G G (aj G G G G (aU G G G (ad ?_)))))))))));refine kD G (T.aQ (ab G G (bu G G G q0 (Rg.aZ G G (aJ ?_)))));exact a62
  ·refine ah G G (ab G G (ah G G (eB G G G (ah G G (ab G G ?_)))));refine aO (g:=12) G (λtj=>?_) (λtj=>?_)
   ·refine ah G G (ab G G (ah G G (fM G G G (ah G G (aU G G G (ah G G (ab G G ?_)))))));refine aO (g:=16) G (λOJ=>?_) (λOJ=>?_)
    ·refine ah G G (ab G G (ah G G (fm G G G (ah G G (aU G G G (aB G G G (ad ?_)))))));refine bE G (λc1=>?_) (λc1=>?_)
     ·refine T.aQ (ab G G (bu G G G q0 (Rg.aZ G G (aJ ?_))));exact a62
     ·refine aS (T.aQ (ab G G (Rg.aZ G G (aJ ?_))));exact a38
    ·refine aj G G G G (aj G G G G (ah G G (aB G G G (aB G G G (ad (jF G (aS (T.aQ (ab G G (aN G G ?_))))))))));refine ad (aJ ?_);exact a38
   ·refine aj G G G G (aj G G G G (ah G G (aB G G G (ah G G (ab G G (aj G G G G (aj G G G G (ah G G (aB G G G (aB G G G (ad ?_)))))))))));refine jF G (aS (T.aQ (ab G G (Rg.aZ G G (aJ ?_)))));exact a38
 ·refine aj G G G G (aj G G G G (aB G G G (ab G G (ah G G (ab G G (ah G G (eB G G G (ah G G (ab G G ?_)))))))));refine aO (g:=12) G (λtj=>?_) (λtj=>?_)
  ·refine ah G G (ab G G (ah G G (fM G G G (ah G G (aU G G G (ah G G (ab G G ?_)))))));refine aO (g:=16) G (λOJ=>?_) (λOJ=>?_)
   ·refine ah G G (ab G G (ah G G (fm G G G (ah G G (aU G G G (aB G G G (ad ?_)))))));refine bE G (λc1=>?_) (λc1=>?_)
    ·refine T.aQ (ab G G (bu G G G q0 (Rg.aZ G G (aJ ?_))));exact a62
    ·refine aS (T.aQ (ab G G (Rg.aZ G G (aJ ?_))));exact a38
   ·refine aj G G G G (aj G G G G (ah G G (aB G G G (aB G G G (ad (jF G (aS (T.aQ (ab G G (aN G G ?_))))))))));refine ad (aJ ?_);exact a38
  ·refine aj G G G G (aj G G G G (ah G G (aB G G G (ah G G (ab G G (aj G G G G (aj G G G G (ah G G (aB G G G (aB G G G (ad ?_)))))))))));refine jF G (aS (T.aQ (ab G G (Rg.aZ G G (aJ ?_)))));exact a38
end Go.K
namespace Go.Proofs
open Go.Shelf
def Tryz.xK:Go.Shelf.Ren:=⟨fun|169=>282|n=>n,fun|70=>363|9=>9|0=>0|72=>365|37=>293|127=>394|3=>3|5=>5|n=>n,fun|n=>n⟩
theorem Tryz.TU:Go.Proofs.Lays.n169 Tryz.prog Tryz.xK:={
 mixed:=by kernel_rfl
 f169:=Tryz.func282.trans a03
 t0:=By
 a0:=Tryz.isAgg0
 z0:=Tryz.sizeOf0
 v0:=Tryz.zeroValue0
 t3:=al
 a3:=Tryz.isAgg3
 z3:=Tryz.sizeOf3
 v3:=Tryz.zeroValue3
 t9:=aA
 a9:=Tryz.isAgg9
 z9:=Bz
 v9:=nN
 t37:=bZ
 a37:=Tryz.isAgg293
 z37:=Tryz.sizeOf293
 v37:=Tryz.zeroValue293
 t70:=Tryz.underlying363
 a70:=Tryz.isAgg363
 z70:=Tryz.sizeOf363
 v70:=Tryz.zeroValue363
 t72:=Tryz.underlying365
 a72:=Tryz.isAgg365
 z72:=Tryz.sizeOf365
 v72:=Tryz.zeroValue365
 t127:=Tryz.underlying394
 a127:=Tryz.isAgg394
 z127:=Tryz.sizeOf394
 v127:=Tryz.zeroValue394}
def Tryz.Fl:Go.Shelf.Ren:=⟨fun|119=>308|n=>n,fun|21=>21|4=>4|n=>n,fun|n=>n⟩
theorem Tryz.TV:Go.Proofs.Lays.n119 Tryz.prog Tryz.Fl:={
 mixed:=by kernel_rfl
 f119:=Tryz.func308.trans a03
 t4:=gQ
 a4:=Tryz.isAgg4
 z4:=Tryz.sizeOf4
 v4:=Tryz.zeroValue4
 t21:=Tryz.underlying21
 a21:=Tryz.isAgg21
 z21:=Tryz.sizeOf21
 v21:=Tryz.zeroValue21}
def Tryz.Fm:Go.Shelf.Ren:=⟨fun|106=>147|213=>188|265=>254|n=>n,fun|9=>9|3=>3|n=>n,fun|n=>n⟩
theorem Tryz.TW:Go.Proofs.Lays.n106 Tryz.prog Tryz.Fm:={
 mixed:=by kernel_rfl
 f106:=Tryz.func147.trans a03
 f213:=Tryz.func188.trans a03
 f265:=Tryz.func254.trans a03
 t3:=al
 a3:=Tryz.isAgg3
 z3:=Tryz.sizeOf3
 v3:=Tryz.zeroValue3
 t9:=aA
 a9:=Tryz.isAgg9
 z9:=Bz
 v9:=nN}
theorem Tryz.uv:Builder.Extra Tryz.prog Tryz.xK:={
 sizeBuilder:=by kernel_rfl
 liesBuilder:=by kernel_rfl
 t5:=db
 a5:=Tryz.isAgg5
 z5:=Tryz.sizeOf5
 v5:=Tryz.zeroValue5
 infoByte:=by kernel_rfl
 cellsByte:=by kernel_rfl
 sizeByte:=by kernel_rfl
 neB5:=by decide}
def Tryz.xL:Go.Shelf.Ren:=⟨fun|168=>280|240=>306|242=>307|276=>317|278=>318|n=>n,fun|0=>0|3=>3|4=>4|5=>5|9=>9|20=>20|21=>21|37=>293|46=>262|51=>336|70=>363|72=>365|75=>367|80=>371|164=>399|n=>n,fun|n=>n⟩
theorem Tryz.TX:Go.Proofs.Lays.n168 Tryz.prog Tryz.xL:={
 mixed:=by kernel_rfl
 f168:=Tryz.func280.trans a03
 f240:=Tryz.func306.trans a03
 f242:=Tryz.func307.trans a03
 f276:=Tryz.func317.trans a03
 f278:=Tryz.func318.trans a03
 t0:=By
 a0:=Tryz.isAgg0
 z0:=Tryz.sizeOf0
 v0:=Tryz.zeroValue0
 t3:=al
 a3:=Tryz.isAgg3
 z3:=Tryz.sizeOf3
 v3:=Tryz.zeroValue3
 t4:=gQ
 a4:=Tryz.isAgg4
 z4:=Tryz.sizeOf4
 v4:=Tryz.zeroValue4
 t5:=db
 a5:=Tryz.isAgg5
 z5:=Tryz.sizeOf5
 v5:=Tryz.zeroValue5
 t9:=aA
 a9:=Tryz.isAgg9
 z9:=Bz
 v9:=nN
 t20:=Tryz.underlying20
 a20:=Tryz.isAgg20
 z20:=Tryz.sizeOf20
 v20:=Tryz.zeroValue20
 t21:=Tryz.underlying21
 a21:=Tryz.isAgg21
 z21:=Tryz.sizeOf21
 v21:=Tryz.zeroValue21
 t37:=bZ
 a37:=Tryz.isAgg293
 z37:=Tryz.sizeOf293
 v37:=Tryz.zeroValue293
 t46:=Tryz.underlying262
 a46:=Tryz.isAgg262
 z46:=Tryz.sizeOf262
 v46:=Tryz.zeroValue262
 t51:=Tryz.underlying336
 a51:=Tryz.isAgg336
 z51:=Tryz.sizeOf336
 v51:=Tryz.zeroValue336
 t70:=Tryz.underlying363
 a70:=Tryz.isAgg363
 z70:=Tryz.sizeOf363
 v70:=Tryz.zeroValue363
 t72:=Tryz.underlying365
 a72:=Tryz.isAgg365
 z72:=Tryz.sizeOf365
 v72:=Tryz.zeroValue365
 t75:=Tryz.underlying367
 a75:=Tryz.isAgg367
 z75:=Tryz.sizeOf367
 v75:=Tryz.zeroValue367
 t164:=Tryz.underlying399
 a164:=Tryz.isAgg399
 z164:=Tryz.sizeOf399
 v164:=Tryz.zeroValue399}
theorem Tryz.uw:Builder.Extra Tryz.prog Tryz.xL where
 sizeBuilder:=by kernel_rfl
 liesBuilder:=by kernel_rfl
 t5:=db
 a5:=Tryz.isAgg5
 z5:=Tryz.sizeOf5
 v5:=Tryz.zeroValue5
 infoByte:=by kernel_rfl
 cellsByte:=by kernel_rfl
 sizeByte:=by kernel_rfl
 neB5:=by decide
end Go.Proofs
namespace Go.K
open Go.Proofs
set_option maxRecDepth 10000
open Go.RowKit Go.Shelf
theorem HR (r:Int) (w:World):Spec Tryz.prog 308 #[.int .i32 r] w (λv w'=>v= .bool (Lib.validRune r)/\w'=w):=(Any.utf8_ValidRune Tryz.TV r w).mono λe w' ⟨h1,h2⟩=>⟨_,h1,rfl,h2⟩
theorem LC {B b:Nat} {bs:List Value} {r:Int} (w:World) (hr: -2147483648<=r/\r<=2147483647) (h:Lib.IsBuilderF 365 5 B b bs w) (hl:bs.length+4<=140737488355328) (hB:B<=w.heap.size):
  Spec Tryz.prog 280 #[.pointer (some ⟨b,0,none⟩),.int .i32 r] w (λv w'=>Lib.IsBuilderF 365 5 B b (bs++Lib.runeCells r) w'∧Below B w w'):=
 (Any.Builder_WriteRune_k Tryz.TX Tryz.uw B b bs r hr.1 hr.2 w h hl hB).mono λe w' ⟨h1,h2,h3,_⟩=>⟨_,h1,.inr h2,h3⟩
theorem OK {B b:Nat} {l:List UInt8} (w:World) (h:Lib.IsBuilderF 365 5 B b (Lib.byteCells l) w) (hB:B<=w.heap.size):
  Spec Tryz.prog 282 #[.pointer (some ⟨b,0,none⟩)] w (λv w'=>v= .string ⟨l.toArray⟩/\Below B w w'):=
 (Any.Builder_String_any_k Tryz.TU Tryz.uv B b l w h hB).mono λe w' ⟨h1,_,h3,_⟩=>⟨_,h1,rfl,h3⟩
theorem wrap32 {c:Int} (h:0<=c/\c<=1114111):IntKind.i32.wrap c=c:=by
 show(if(true&&decide (c%4294967296>=2147483648))=true then c%4294967296-4294967296 else c%4294967296)=c;rw[if_neg (by simp only[dr,decide_eq_true_eq];omega)];omega
def rB (c:Int):Int:=if c<0\/c>1114111\/Lib.validRune c=false then 65533 else c
theorem J4 (c:Int):0<=rB c/\rB c<=1114111:=by unfold rB;split<;>omega
def ic (l:List Int):List UInt8:=l.flatMap λc=>Lib.encodeRune (rB c)
theorem kO (l:List Int) (c:Int):ic (l++[c])=ic l++Lib.encodeRune (rB c):=by simp[ic]
theorem TY (r:Int):(Lib.encodeRune r).length<=4:=by have:=(Lib.encodeRuneZ_length r).2;simpa[Lib.encodeRune]using this
theorem gE (l:List Int):(ic l).length<=4*l.length:=by
 induction l with
 |nil=>simp[ic]
 |cons c l ih=>
  have:=TY (rB c);simp only[ic,sH,bM,cJ]at ih ⊢;omega
theorem zD (l:List Int) (c:Int):Lib.byteCells (ic l)++Lib.runeCells (rB c)=Lib.byteCells (ic (l++[c])):=by
 rw[kO,<-Lib.byteCells_encodeRune];simp[Lib.byteCells]
theorem OL (c:Int) (w0:World):
  Spec Tryz.prog 281 #[.int .i64 c] w0 (λv w=>v= .int .i32 (rB c)/\w=w0):=by
 refine bh (args:=[_]) (fn:=Tryz.f281) Tryz.func281 G (n:=17) Tryz.ntmps281 (T.aQ (Rg.aZ G G (aL (T.aQ (ab G G (cx G G G (ab G G ?_)))))));refine aO (g:=5) G (λiO=>?_) (λiO=>?_)
 ·refine aj G G G G (aj G G G G (aU G G G (ab G G (aj G G G G (aj G G G G (aj G G G G (aj G G G G (aU G G G (ad (kD G (aL ?_)))))))))));refine aH (Rg.aZ G G (aJ ?_));exact aK rfl rfl ⟨by rw[rB,if_pos af3],G⟩
 ·refine ah G G (ab G G (ah G G (eR G G G (aB G G G (ab G G ?_)))));refine aO (g:=9) G (λDB=>?_) (λDB=>?_)
  ·refine aj G G G G (aj G G G G (aj G G G G (aj G G G G (aU G G G (ad (kD G (T.aQ (Rg.aZ G G (aJ ?_)))))))));exact aK rfl rfl ⟨by rw[rB,if_pos af3],G⟩
  ·refine ah G G (ab G G (ah G G (xD al Tryz.underlying21 G G (bg (v':= .int .i32 c) (congrArg (Value.int .i32) (wrap32 q0)) (ah G G ?_)))));refine aP G G aj9 (HR _ _) (λr wc hc=>?_);obtain⟨rfl,rfl⟩:=hc;refine ah rfl rfl (fV rfl rfl (bg (v':= .bool (decide (Lib.validRune c=false))) (by cases Lib.validRune c<;>rfl) (aB rfl rfl rfl (ad ?_))));refine bE G (λc1=>?_) (λc1=>?_)
   ·refine T.aQ (Rg.aZ G G (aJ ?_));exact aK rfl rfl ⟨by rw[rB,if_pos af3],G⟩
   ·refine aS (T.aQ (ab G G (xD al Tryz.underlying21 G G (bg (v':= .int .i32 c) (congrArg (Value.int .i32) (wrap32 q0)) (Rg.aZ G G (aJ ?_))))));exact aK rfl rfl ⟨by rw[rB,if_neg (by rintro(h|h|h)<;>first|omega|exact absurd h Xf)],rfl⟩
theorem LD {M:aM} {xs:List Int} {v0:Value} (w0:World) (hM:Lt M w0) (hv:((RT.int .i64).sl).V M w0 xs v0) (hl:xs.length<=4000000):
  Spec Tryz.prog 243 #[v0] w0 (λv w=>v= .string ⟨(ic xs).toArray⟩/\Step M w0 M w aC):=by
 refine bh (args:=[_]) (fn:=Tryz.f243) Tryz.func243 G (n:=17) Tryz.ntmps243 (T.aQ (Rg.aZ G G (T.aQ ?_)));refine ew M ajC G (λb w1 p1 q1 g1 s1=>?_);have wK:Lib.IsBuilderF 365 5 w0.heap.size b (Lib.byteCells (ic (xs.take 0))) w1:= .of (.inl ⟨p1,.slice none 0 0,g1,World.ownsRow_nil _ _ _ _,by simp[Value.ownBlock]⟩);have S1:Below w0.heap.size w0 w1:=s1.below;refine ad (aL (T.aQ (ab G G (bC az G hv G (ab G G (ad (aX ?_)))))));refine dd (σ:=Nat) (λk=>[(3,.pointer (some ⟨b,0,none⟩)),(6,v0),(7,.int .i64 (xs.length:Int)),(8,.int .i64 (k:Int))]) (λk w=>Lib.IsBuilderF 365 5 w0.heap.size b (Lib.byteCells (ic (xs.take k))) w/\Below w0.heap.size w0 w/\k<=xs.length) (λk=>xs.length-k) 0 a00 ?_ ?_
 ·exact⟨wK,S1,a8 _⟩
 ·rintro k w ⟨hb,S,hk⟩;refine T.aQ (cx G G G (ad (aL ?_)));refine bE G (λc3=>?_) (λc3=>?_)
  ·refine aS (aL (aX (T.aQ ?_)));refine cC (M:=M) az I3 G G G hv (Step.Dw S M).le q0 (λu4 c HS xM=>?_);refine bV al G G xM bS (λin4=>?_);refine Rg.aZ G G (aH (ab G G ?_));refine aP G G aj6 (OL c _) (λr wc hc=>?_);obtain⟨rfl,rfl⟩:=hc;refine aP G G aj5 (LC _ (by have:=J4 c;omega) hb (by rw[Lib.byteCells_length];have:=gE (xs.take k);rw[a7]at this;omega) S.size) (λr5 w5 hc=>?_);obtain⟨hb5,S5⟩:=hc;have tk:xs.take (k+1)=xs.take k++[c]:=by rw[bY];simp only[ar]at HS;rw[HS];rfl
   rw[zD,<-tk]at hb5;have S6:=S.trans S5;refine ad (aH (bu G G G q0 (ab G G (ad ?_))));refine⟨G,k+1,a00,?_,?_⟩
   ·exact⟨hb5,S6,by omega⟩
   ·omega
  ·refine cN (T.aQ ?_);refine aP G G aj7 (OK _ hb S.size) (λr7 w7 hc=>?_);obtain⟨rfl,S7⟩:=hc;refine Rg.aZ G G (aJ ?_);have e:xs.take k=xs:=bp q0;rw[e];exact aK G G ⟨G,Step.Dw (S.trans S7) M⟩
end Go.K
namespace Go.K
def nO (c:Int):Int:=if 194<=c/\c<224 then 2 else if 224<=c/\c<240 then 3 else if 240<=c/\c<245 then 4 else 0
def im (c:Int):Int:=if 194<=c/\c<224 then 128 else if 224<=c/\c<240 then 2048 else if 240<=c/\c<245 then 65536 else 0
def wL (c:Int):Int:=if 194<=c/\c<224 then c-192 else if 224<=c/\c<240 then c-224 else if 240<=c/\c<245 then c-240 else 0
def vO (l:List UInt8):Nat->Int
 |0=>wL (ke l 0)
 |k+1=>64*vO l k+ke l (k+1)-128
theorem gV {l:List UInt8} {k:Nat}:j8 l k=true↔k<l.length/\128<=ke l k/\ke l k<192:=by
 unfold j8;simp only[cz,decide_eq_true_eq,beq_iff_eq];omega
theorem Cn {n:Nat}:Utf8.valid (n:Int)=true↔(n<55296\/(57344<=n/\n<=1114111)):=by
 simp only[Utf8.valid,yU,cz,decide_eq_true_eq];omega
theorem acJ {l:List UInt8} (h:(ke l 0:Int)<128):dec l=(ke l 0,1):=by
 unfold dec Dx;rw[if_pos q0]
theorem J5 {l:List UInt8} (h0:128<=(ke l 0:Int)) (h:nO (ke l 0)=0\/∃k:Nat,1<=k/\(k:Int)<nO (ke l 0)/\j8 l k=false):dec l=(65533,1):=by
 have hb:=pf l 0;unfold dec Dx;rw[if_neg q0]
 have hk:nO (ke l 0)=0\/(2<=nO (ke l 0)/\j8 l 1=false)\/(3<=nO (ke l 0)/\j8 l 2=false)\/(4<=nO (ke l 0)/\j8 l 3=false):=by
  rcases h with h|⟨k,h1,h2,h3⟩
  ·exact .inl h
  ·have:nO (ke l 0)<=4:=by
    unfold nO
    split
    ·omega
    ·split
     ·omega
     ·split<;>omega
   have hk:k=1\/k=2\/k=3:=by omega
   rcases hk with rfl|rfl|rfl
   ·exact .inr (.inl ⟨by omega,h3⟩)
   ·exact .inr (.inr (.inl ⟨by omega,h3⟩))
   ·exact .inr (.inr (.inr ⟨by omega,h3⟩))
 simp only[beq_iff_eq,cz,decide_eq_true_eq,ge_iff_le,Cn];have hn:nO (ke l 0)=if 194<=(ke l 0:Int)/\(ke l 0:Int)<224 then 2 else if 224<=(ke l 0:Int)/\(ke l 0:Int)<240 then 3 else if 240<=(ke l 0:Int)/\(ke l 0:Int)<245 then 4 else 0:=rfl
 rw[hn]at hk
 split
 ·rename_i hc
  obtain⟨hc1,Nv⟩:=hc
  split
  ·rename_i hv
   exfalso;by_cases auw:194<=(ke l 0:Int)
   ·rw[if_pos q0]at hk;rcases hk with hk|⟨_,hk⟩|⟨hk,_⟩|⟨hk,_⟩
    ·omega
    ·rw[hk]at Nv;cases Nv
    ·omega
    ·omega
   ·omega
  ·rfl
 ·split
  ·rename_i hc
   obtain⟨⟨hc1,Nv⟩,hc3⟩:=hc
   split
   ·exfalso;rw[if_neg q0,if_pos q0]at hk;rcases hk with hk|⟨_,hk⟩|⟨_,hk⟩|⟨hk,_⟩
    ·omega
    ·rw[hk]at Nv;cases Nv
    ·rw[hk]at hc3;cases hc3
    ·omega
   ·rfl
  ·split
   ·rename_i hc
    obtain⟨⟨⟨hc1,Nv⟩,hc3⟩,hc4⟩:=hc
    split
    ·rename_i hv
     exfalso;by_cases auy:(ke l 0:Int)<245
     ·rw[if_neg q0,if_neg q0,if_pos q0]at hk;rcases hk with hk|⟨_,hk⟩|⟨_,hk⟩|⟨_,hk⟩
      ·omega
      ·rw[hk]at Nv;cases Nv
      ·rw[hk]at hc3;cases hc3
      ·rw[hk]at hc4;cases hc4
     ·omega
    ·rfl
   ·rfl
theorem ov {c:Int} (h:nO c≠0):(nO c=2/\im c=128/\wL c=c-192/\194<=c/\c<224)\/(nO c=3/\im c=2048/\wL c=c-224/\224<=c/\c<240)\/(nO c=4/\im c=65536/\wL c=c-240/\240<=c/\c<245):=by
 by_cases h1:194<=c/\c<224
 ·exact .inl ⟨if_pos h1,if_pos h1,if_pos h1,h1.1,h1.2⟩
 ·by_cases h2:224<=c/\c<240
  ·exact .inr (.inl ⟨(if_neg h1).trans (if_pos h2),(if_neg h1).trans (if_pos h2),(if_neg h1).trans (if_pos h2),h2.1,h2.2⟩)
  ·by_cases h3:240<=c/\c<245
   ·exact .inr (.inr ⟨(if_neg h1).trans ((if_neg h2).trans (if_pos h3)),(if_neg h1).trans ((if_neg h2).trans (if_pos h3)),(if_neg h1).trans ((if_neg h2).trans (if_pos h3)),h3.1,h3.2⟩)
   ·exact absurd ((if_neg h1).trans ((if_neg h2).trans (if_neg h3))) h
theorem Fp {l:List UInt8} (hn:nO (ke l 0)≠0) (hc:∀k:Nat,1<=k->(k:Int)<nO (ke l 0)->j8 l k=true) (v:Int) (hv:v=vO l (nO (ke l 0)-1).toNat):
  dec l=if v<im (ke l 0)\/v>1114111\/(55296<=v/\v<=57343)then(65533,1)else(v.toNat,(nO (ke l 0)).toNat):=by
 have hb:=pf l 0;have b1:=pf l 1;have b2:=pf l 2;have b3:=pf l 3;unfold dec Dx;simp only[beq_iff_eq,cz,decide_eq_true_eq,ge_iff_le,Cn];rcases ov hn with⟨e1,e2,e3,e4,e5⟩|⟨e1,e2,e3,e4,e5⟩|⟨e1,e2,e3,e4,e5⟩
 ·have c1:=hc 1 q0 q0;have d1:=gV.1 c1;rw[e1]at hv;have yL:v=64*((ke l 0:Int)-192)+ke l 1-128:=by rw[hv];show 64*wL (ke l 0)+_-_=_;rw[e3]
  rw[if_neg q0,if_pos ⟨by omega,c1⟩,e2,e1];by_cases hx:v<128\/v>1114111\/(55296<=v/\v<=57343)
  ·rw[if_pos hx,if_neg q0]
  ·rw[if_neg hx,if_pos q0];simp only[Prod.mk.injEq];omega
 ·have c1:=hc 1 q0 q0;have c2:=hc 2 q0 q0;have d1:=gV.1 c1;have d2:=gV.1 c2;rw[e1]at hv;have yL:v=64*(64*((ke l 0:Int)-224)+ke l 1-128)+ke l 2-128:=by rw[hv];show 64*(64*wL (ke l 0)+_-_)+_-_=_;rw[e3]
  rw[if_neg q0,if_neg q0,if_pos ⟨⟨by omega,c1⟩,c2⟩,e2,e1];by_cases hx:v<2048\/v>1114111\/(55296<=v/\v<=57343)
  ·rw[if_pos hx,if_neg q0]
  ·rw[if_neg hx,if_pos q0];simp only[Prod.mk.injEq];omega
 ·have c1:=hc 1 q0 q0;have c2:=hc 2 q0 q0;have c3:=hc 3 q0 q0;have d1:=gV.1 c1;have d2:=gV.1 c2;have d3:=gV.1 c3;rw[e1]at hv;have yL:v=64*(64*(64*((ke l 0:Int)-240)+ke l 1-128)+ke l 2-128)+ke l 3-128:=by rw[hv];show 64*(64*(64*wL (ke l 0)+_-_)+_-_)+_-_=_;rw[e3]
  rw[if_neg q0,if_neg q0,if_neg q0,if_pos ⟨⟨⟨by omega,c1⟩,c2⟩,c3⟩,e2,e1];by_cases hx:v<65536\/v>1114111\/(55296<=v/\v<=57343)
  ·rw[if_pos hx,if_neg q0]
  ·rw[if_neg hx,if_pos q0];simp only[Prod.mk.injEq];omega
open Go.Proofs
set_option maxRecDepth 10000
theorem DC (c:Int) (w0:World):
  Spec Tryz.prog 173 #[.int .i64 c] w0 (λv w=>v= .bool (fO c)/\w=w0):=by
 refine bh (args:=[_]) (fn:=Tryz.f173) Tryz.func173 G (n:=31) Tryz.ntmps173 (T.aQ (Rg.aZ G G (aL (T.aQ (ab G G (eB G G G (ab G G ?_)))))));refine aO (g:=5) G (λiO=>?_) (λiO=>?_)
 ·refine ah G G (ab G G (ah G G (fM G G G (aU G G G (ab G G ?_)))));refine aO (g:=9) G (λDB=>?_) (λDB=>?_)
  ·refine aj G G G G (aj G G G G (aj G G G G (cp G G G (cp G G G (aj G G G G (aU G G G (ad (kD G (T.aQ (aN G G ?_))))))))));refine ad (aJ ?_);exact aK rfl rfl ⟨by simp only[fO];first|rfl|(congr 1;first|(exact(decide_eq_true q0).symm)|(exact(decide_eq_false q0).symm)|(exact decide_eq_decide.2 q0)),rfl⟩
  ·refine ah G G (ab G G (ah G G (eB G G G (ah G G (ab G G ?_)))));refine aO (g:=12) G (λtj=>?_) (λtj=>?_)
   ·refine ah G G (ab G G (ah G G (fM G G G (ah G G (aU G G G (aB G G G (ad ?_)))))));refine bE G (λc1=>?_) (λc1=>?_)
    ·refine T.aQ (Rg.aZ G G (aJ ?_));exact aK rfl rfl ⟨by simp only[fO];first|rfl|(congr 1;first|(exact(decide_eq_true q0).symm)|(exact(decide_eq_false q0).symm)|(exact decide_eq_decide.2 q0)),rfl⟩
    ·refine aS (T.aQ (ab G G (eB G G G (ab G G ?_))));refine aO (g:=19) G (λHT=>?_) (λHT=>?_)
     ·refine ah G G (ab G G (ah G G (fM G G G (aU G G G (ab G G ?_)))));refine aO (g:=23) G (λHU=>?_) (λHU=>?_)
      ·refine ah G G (ab G G (ah G G (fm G G G (aU G G G (ab G G ?_)))));refine aO (g:=27) G (λzE=>?_) (λzE=>?_)
       ·refine ah G G (ab G G (ah G G (fm G G G (aU G G G (Rg.aZ G G (aJ ?_))))));exact aK rfl rfl ⟨by simp only[fO];first|rfl|(congr 1;first|(exact(decide_eq_true q0).symm)|(exact(decide_eq_false q0).symm)|(exact decide_eq_decide.2 q0)),rfl⟩
       ·refine aj G G G G (aj G G G G (aB G G G (Rg.aZ G G (aJ ?_))));exact aK rfl rfl ⟨by simp only[fO];first|rfl|(congr 1;first|(exact(decide_eq_true q0).symm)|(exact(decide_eq_false q0).symm)|(exact decide_eq_decide.2 q0)),rfl⟩
      ·refine aj G G G G (aj G G G G (aB G G G (ab G G (aj G G G G (aj G G G G (aB G G G (Rg.aZ G G (aJ ?_))))))));exact aK rfl rfl ⟨by simp only[fO];first|rfl|(congr 1;first|(exact(decide_eq_true q0).symm)|(exact(decide_eq_false q0).symm)|(exact decide_eq_decide.2 q0)),rfl⟩
     ·refine aj G G G G (aj G G G G (aB G G G (ab G G (aj G G G G (aj G G G G (aB G G G (ab G G (aj G G G G (aj G G G G (aB G G G (aN G G ?_)))))))))));refine ad (aJ ?_);exact aK rfl rfl ⟨by simp only[fO];first|rfl|(congr 1;first|(exact(decide_eq_true q0).symm)|(exact(decide_eq_false q0).symm)|(exact decide_eq_decide.2 q0)),rfl⟩
   ·refine aj G G G G (aj G G G G (ah G G (aB G G G (aB G G G (ad (jF G (aS (T.aQ (ab G G (eB G G G ?_))))))))));refine ab G G ?_;refine aO (g:=19) G (λHT=>?_) (λHT=>?_)
    ·refine ah G G (ab G G (ah G G (fM G G G (aU G G G (ab G G ?_)))));refine aO (g:=23) G (λHU=>?_) (λHU=>?_)
     ·refine ah G G (ab G G (ah G G (fm G G G (aU G G G (ab G G ?_)))));refine aO (g:=27) G (λzE=>?_) (λzE=>?_)
      ·refine ah G G (ab G G (ah G G (fm G G G (aU G G G (Rg.aZ G G (aJ ?_))))));exact aK rfl rfl ⟨by simp only[fO];first|rfl|(congr 1;first|(exact(decide_eq_true q0).symm)|(exact(decide_eq_false q0).symm)|(exact decide_eq_decide.2 q0)),rfl⟩
      ·refine aj G G G G (aj G G G G (aB G G G (Rg.aZ G G (aJ ?_))));exact aK rfl rfl ⟨by simp only[fO];first|rfl|(congr 1;first|(exact(decide_eq_true q0).symm)|(exact(decide_eq_false q0).symm)|(exact decide_eq_decide.2 q0)),rfl⟩
     ·refine aj G G G G (aj G G G G (aB G G G (ab G G (aj G G G G (aj G G G G (aB G G G (Rg.aZ G G (aJ ?_))))))));exact aK rfl rfl ⟨by simp only[fO];first|rfl|(congr 1;first|(exact(decide_eq_true q0).symm)|(exact(decide_eq_false q0).symm)|(exact decide_eq_decide.2 q0)),rfl⟩
    ·refine aj G G G G (aj G G G G (aB G G G (ab G G (aj G G G G (aj G G G G (aB G G G (ab G G (aj G G G G (aj G G G G (aB G G G (aN G G ?_)))))))))));refine ad (aJ ?_);exact aK rfl rfl ⟨by simp only[fO];first|rfl|(congr 1;first|(exact(decide_eq_true q0).symm)|(exact(decide_eq_false q0).symm)|(exact decide_eq_decide.2 q0)),rfl⟩
 ·refine aj G G G G (aj G G G G (aB G G G (ab G G (ah G G (ab G G (ah G G (eB G G G (ah G G (ab G G ?_)))))))));refine aO (g:=12) G (λtj=>?_) (λtj=>?_)
  ·refine ah G G (ab G G (ah G G (fM G G G (ah G G (aU G G G (aB G G G (ad ?_)))))));refine bE G (λc1=>?_) (λc1=>?_)
   ·refine T.aQ (Rg.aZ G G (aJ ?_));exact aK rfl rfl ⟨by simp only[fO];first|rfl|(congr 1;first|(exact(decide_eq_true q0).symm)|(exact(decide_eq_false q0).symm)|(exact decide_eq_decide.2 q0)),rfl⟩
   ·refine aS (T.aQ (ab G G (eB G G G (ab G G ?_))));refine aO (g:=19) G (λHT=>?_) (λHT=>?_)
    ·refine ah G G (ab G G (ah G G (fM G G G (aU G G G (ab G G ?_)))));refine aO (g:=23) G (λHU=>?_) (λHU=>?_)
     ·refine ah G G (ab G G (ah G G (fm G G G (aU G G G (ab G G ?_)))));refine aO (g:=27) G (λzE=>?_) (λzE=>?_)
      ·refine ah G G (ab G G (ah G G (fm G G G (aU G G G (Rg.aZ G G (aJ ?_))))));exact aK rfl rfl ⟨by simp only[fO];first|rfl|(congr 1;first|(exact(decide_eq_true q0).symm)|(exact(decide_eq_false q0).symm)|(exact decide_eq_decide.2 q0)),rfl⟩
      ·refine aj G G G G (aj G G G G (aB G G G (Rg.aZ G G (aJ ?_))));exact aK rfl rfl ⟨by simp only[fO];first|rfl|(congr 1;first|(exact(decide_eq_true q0).symm)|(exact(decide_eq_false q0).symm)|(exact decide_eq_decide.2 q0)),rfl⟩
     ·refine aj G G G G (aj G G G G (aB G G G (ab G G (aj G G G G (aj G G G G (aB G G G (Rg.aZ G G (aJ ?_))))))));exact aK rfl rfl ⟨by simp only[fO];first|rfl|(congr 1;first|(exact(decide_eq_true q0).symm)|(exact(decide_eq_false q0).symm)|(exact decide_eq_decide.2 q0)),rfl⟩
    ·refine aj G G G G (aj G G G G (aB G G G (ab G G (aj G G G G (aj G G G G (aB G G G (ab G G (aj G G G G (aj G G G G (aB G G G (aN G G ?_)))))))))));refine ad (aJ ?_);exact aK rfl rfl ⟨by simp only[fO];first|rfl|(congr 1;first|(exact(decide_eq_true q0).symm)|(exact(decide_eq_false q0).symm)|(exact decide_eq_decide.2 q0)),rfl⟩
  ·refine aj G G G G (aj G G G G (ah G G (aB G G G (aB G G G (ad (jF G (aS (T.aQ (ab G G (eB G G G ?_))))))))));refine ab G G ?_;refine aO (g:=19) G (λHT=>?_) (λHT=>?_)
   ·refine ah G G (ab G G (ah G G (fM G G G (aU G G G (ab G G ?_)))));refine aO (g:=23) G (λHU=>?_) (λHU=>?_)
    ·refine ah G G (ab G G (ah G G (fm G G G (aU G G G (ab G G ?_)))));refine aO (g:=27) G (λzE=>?_) (λzE=>?_)
     ·refine ah G G (ab G G (ah G G (fm G G G (aU G G G (Rg.aZ G G (aJ ?_))))));exact aK rfl rfl ⟨by simp only[fO];first|rfl|(congr 1;first|(exact(decide_eq_true q0).symm)|(exact(decide_eq_false q0).symm)|(exact decide_eq_decide.2 q0)),rfl⟩
     ·refine aj G G G G (aj G G G G (aB G G G (Rg.aZ G G (aJ ?_))));exact aK rfl rfl ⟨by simp only[fO];first|rfl|(congr 1;first|(exact(decide_eq_true q0).symm)|(exact(decide_eq_false q0).symm)|(exact decide_eq_decide.2 q0)),rfl⟩
    ·refine aj G G G G (aj G G G G (aB G G G (ab G G (aj G G G G (aj G G G G (aB G G G (Rg.aZ G G (aJ ?_))))))));exact aK rfl rfl ⟨by simp only[fO];first|rfl|(congr 1;first|(exact(decide_eq_true q0).symm)|(exact(decide_eq_false q0).symm)|(exact decide_eq_decide.2 q0)),rfl⟩
   ·refine aj G G G G (aj G G G G (aB G G G (ab G G (aj G G G G (aj G G G G (aB G G G (ab G G (aj G G G G (aj G G G G (aB G G G (aN G G ?_)))))))))));refine ad (aJ ?_);exact aK rfl rfl ⟨by simp only[fO];first|rfl|(congr 1;first|(exact(decide_eq_true q0).symm)|(exact(decide_eq_false q0).symm)|(exact decide_eq_decide.2 q0)),rfl⟩
theorem zF (c:Int) (w0:World) (hc:0<=c/\c<=1114111):
  Spec Tryz.prog 171 #[.int .i64 c] w0 (λv w=>v= .int .i64 (ez c)/\w=w0):=by
 refine bh (args:=[_]) (fn:=Tryz.f171) Tryz.func171 G (n:=28) Tryz.ntmps171 (T.aQ (Rg.aZ G G (aL (T.aQ (ab G G (eB G G G (ab G G ?_)))))));refine aO (g:=5) G (λiO=>?_) (λiO=>?_)
 ·refine ah G G (ab G G (ah G G (fM G G G (aU G G G (ab G G ?_)))));refine aO (g:=9) G (λDB=>?_) (λDB=>?_)
  ·refine aj G G G G (aj G G G G (aj G G G G (cp G G G (cp G G G (aj G G G G (aU G G G (ab G G (aj G G G G (aj G G G G (aj G G G G (cp G G G ?_)))))))))));refine cp G G G (aj G G G G (aU G G G (ad (kD G (T.aQ (ab G G (bu G G G q0 (Rg.aZ G G (aJ ?_)))))))));exact a62
  ·refine ah G G (ab G G (ah G G (eB G G G (ah G G (ab G G ?_)))));refine aO (g:=12) G (λtj=>?_) (λtj=>?_)
   ·refine ah G G (ab G G (ah G G (fM G G G (ah G G (aU G G G (aB G G G (ab G G ?_)))))));refine aO (g:=17) G (λzA=>?_) (λzA=>?_)
    ·refine aj G G G G (aj G G G G (aj G G G G (cp G G G (cp G G G (aj G G G G (aU G G G (ad (kD G (T.aQ (ab G G ?_))))))))));refine bu G G G q0 (Rg.aZ G G (aJ ?_));exact a62
    ·refine ah G G (ab G G (ah G G (eB G G G (ah G G (ab G G ?_)))));refine aO (g:=20) G (λmH=>?_) (λmH=>?_)
     ·refine ah G G (ab G G (ah G G (fM G G G (ah G G (aU G G G (aB G G G (ad ?_)))))));refine bE G (λc1=>?_) (λc1=>?_)
      ·refine T.aQ (ab G G (bu G G G q0 (Rg.aZ G G (aJ ?_))));exact a62
      ·refine aS (T.aQ (ab G G (Rg.aZ G G (aJ ?_))));exact a38
     ·refine aj G G G G (aj G G G G (ah G G (aB G G G (aB G G G (ad (jF G (aS (T.aQ (ab G G (aN G G ?_))))))))));refine ad (aJ ?_);exact a38
   ·refine aj G G G G (aj G G G G (ah G G (aB G G G (aB G G G (ab G G (ah G G (ab G G (ah G G (eB G G G (ah G G (ab G G ?_)))))))))));refine aO (g:=20) G (λmH=>?_) (λmH=>?_)
    ·refine ah G G (ab G G (ah G G (fM G G G (ah G G (aU G G G (aB G G G (ad ?_)))))));refine bE G (λc1=>?_) (λc1=>?_)
     ·refine T.aQ (ab G G (bu G G G q0 (Rg.aZ G G (aJ ?_))));exact a62
     ·refine aS (T.aQ (ab G G (Rg.aZ G G (aJ ?_))));exact a38
    ·refine aj G G G G (aj G G G G (ah G G (aB G G G (aB G G G (ad (jF G (aS (T.aQ (ab G G (aN G G ?_))))))))));refine ad (aJ ?_);exact a38
 ·refine aj G G G G (aj G G G G (aB G G G (ab G G (ah G G (ab G G (ah G G (eB G G G (ah G G (ab G G ?_)))))))));refine aO (g:=12) G (λtj=>?_) (λtj=>?_)
  ·refine ah G G (ab G G (ah G G (fM G G G (ah G G (aU G G G (aB G G G (ab G G ?_)))))));refine aO (g:=17) G (λzA=>?_) (λzA=>?_)
   ·refine aj G G G G (aj G G G G (aj G G G G (cp G G G (cp G G G (aj G G G G (aU G G G (ad (kD G (T.aQ (ab G G ?_))))))))));refine bu G G G q0 (Rg.aZ G G (aJ ?_));exact a62
   ·refine ah G G (ab G G (ah G G (eB G G G (ah G G (ab G G ?_)))));refine aO (g:=20) G (λmH=>?_) (λmH=>?_)
    ·refine ah G G (ab G G (ah G G (fM G G G (ah G G (aU G G G (aB G G G (ad ?_)))))));refine bE G (λc1=>?_) (λc1=>?_)
     ·refine T.aQ (ab G G (bu G G G q0 (Rg.aZ G G (aJ ?_))));exact a62
     ·refine aS (T.aQ (ab G G (Rg.aZ G G (aJ ?_))));exact a38
    ·refine aj G G G G (aj G G G G (ah G G (aB G G G (aB G G G (ad (jF G (aS (T.aQ (ab G G (aN G G ?_))))))))));refine ad (aJ ?_);exact a38
  ·refine aj G G G G (aj G G G G (ah G G (aB G G G (aB G G G (ab G G (ah G G (ab G G (ah G G (eB G G G (ah G G (ab G G ?_)))))))))));refine aO (g:=20) G (λmH=>?_) (λmH=>?_)
   ·refine ah G G (ab G G (ah G G (fM G G G (ah G G (aU G G G (aB G G G (ad ?_)))))));refine bE G (λc1=>?_) (λc1=>?_)
    ·refine T.aQ (ab G G (bu G G G q0 (Rg.aZ G G (aJ ?_))));exact a62
    ·refine aS (T.aQ (ab G G (Rg.aZ G G (aJ ?_))));exact a38
   ·refine aj G G G G (aj G G G G (ah G G (aB G G G (aB G G G (ad (jF G (aS (T.aQ (ab G G (aN G G ?_))))))))));refine ad (aJ ?_);exact a38
def ph (c:Int):Bool:=decide (fO c=true\/mG c=true)
theorem zG (c:Int) (w0:World):
  Spec Tryz.prog 113 #[.int .i64 c] w0 (λv w=>v= .bool (ph c)/\w=w0):=by
 refine bh (args:=[_]) (fn:=Tryz.f113) Tryz.func113 G (n:=13) Tryz.ntmps113 (T.aQ (Rg.aZ G G (T.aQ (ab G G ?_))));refine aP G G ajN (DC _ _) (λr wc hc=>?_);obtain⟨rfl,rfl⟩:=hc;refine bg (v':= .bool (decide (fO c=true))) (by cases fO c<;>rfl) (ab rfl rfl ?_);refine aO (g:=5) G (λiO=>?_) (λiO=>?_)
 ·refine aj G G G G (aj G G G G (aj G G G G (cp G G G (cp G G G (aj G G G G (aU G G G (Rg.aZ G G (aJ ?_))))))));have e:(mG c=true)=(48<=c/\c<=57):=by simp[mG]
  exact aK rfl rfl ⟨by simp only[ph,e];first|(congr 1;first|(exact(decide_eq_true (.inl Xf)).symm)|(exact(decide_eq_true (.inr q0)).symm)|(exact(decide_eq_false ai9).symm)|(exact decide_eq_decide.2 ⟨λh=> .inr q0,λh=>h.elim (λh=>absurd h Xf) (λh=>by omega)⟩)),rfl⟩
 ·refine ah G G (ab G G (ah G G (eB G G G (ah G G (ab G G ?_)))));refine aO (g:=8) G (λlL=>?_) (λlL=>?_)
  ·refine ah G G (ab G G (ah G G (fM G G G (ah G G (aU G G G (aB G G G (Rg.aZ G G (aJ ?_))))))));have e:(mG c=true)=(48<=c/\c<=57):=by simp[mG]
   exact aK rfl rfl ⟨by simp only[ph,e];first|(congr 1;first|(exact(decide_eq_true (.inl Xf)).symm)|(exact(decide_eq_true (.inr q0)).symm)|(exact(decide_eq_false ai9).symm)|(exact decide_eq_decide.2 ⟨λh=> .inr q0,λh=>h.elim (λh=>absurd h Xf) (λh=>by omega)⟩)),rfl⟩
  ·refine aj G G G G (aj G G G G (ah G G (aB G G G (aB G G G (Rg.aZ G G (aJ ?_))))));have e:(mG c=true)=(48<=c/\c<=57):=by simp[mG]
   exact aK rfl rfl ⟨by simp only[ph,e];first|(congr 1;first|(exact(decide_eq_true (.inl Xf)).symm)|(exact(decide_eq_true (.inr q0)).symm)|(exact(decide_eq_false ai9).symm)|(exact decide_eq_decide.2 ⟨λh=> .inr q0,λh=>h.elim (λh=>absurd h Xf) (λh=>by omega)⟩)),rfl⟩
theorem X6 {l:List UInt8} {c:Int} (hc:c=(ke l 0:Int)) (hn:nO c≠0):∀{k:Nat},(∀j:Nat,1<=j->j<k+1->j8 l j=true)->k<=3->0<=vO l k/\vO l k<=100000000:=by
 have key:∀k:Nat,(∀j:Nat,1<=j->j<k+1->j8 l j=true)->0<=vO l k/\vO l k<=33*64^k-1:=by
  intro k
  induction k with
  |zero=>
   intro _;have:=ov hn;show 0<=wL (ke l 0:Int)/\wL (ke l 0:Int)<=33*64^0-1;rw[<-hc];simp only[Int.pow_zero];omega
  |succ k ih=>
   intro h;have h1:=ih λj h2 h3=>h j h2 q0
   have h2:=gV.1 (h (k+1) q0 q0);show 0<=64*vO l k+_-128/\64*vO l k+_-128<=_;rw[Int.pow_succ];omega
 intro k h hk;have:=key k h
 have h3:(64:Int)^k<=262144:=by
  rcases(show k=0\/k=1\/k=2\/k=3 by omega)with rfl|rfl|rfl|rfl<;>decide
 omega
theorem OM {l:List UInt8} (w0:World) (hl:l≠[]) (hlen:l.length<=4000000):
  Spec Tryz.prog 170 #[.string ⟨l.toArray⟩] w0 (λv w=>v= .tuple #[.int .i64 ((dec l).1:Int),.int .i64 ((dec l).2:Int)]/\w=w0):=by
 have yZ:0<l.length:=dC.2 hl;have zH:=pf l 0;obtain⟨c,hc⟩:∃c:Int,c=(ke l 0:Int):=⟨_,rfl⟩;have hcr:0<=c/\c<256:=by omega
 refine bh (args:=[_]) (fn:=Tryz.f170) Tryz.func170 G (n:=85) Tryz.ntmps170 (T.aQ (aN G G (Rg.aZ G G (T.aQ (ab G G ?_)))));refine Rg.J2 (c:=l.getD 0 0) aA G G G Tg (by rw[cg];show l[0]? =_;rw[aq yZ];rfl) ?_;refine bg (v':= .int .u8 c) (by rw[hc];rfl) (Rg.wa db al rfl rfl q0 (Rg.aZ rfl rfl (aL (T.aQ (ab rfl rfl (cx rfl rfl rfl (ad ?_)))))));refine bE G (λc2=>?_) (λc2=>?_)
 ·refine T.aQ (ab G G (aN G G (Rg.aZ G G (aJ ?_))));exact fA rfl rfl rfl ⟨by rw[acJ q0,hc];rfl,rfl⟩
 ·refine aS (T.aQ (Rg.aZ G G (T.aQ (Rg.aZ G G (T.aQ (aN G G ?_))))));refine ad ?_;refine lB [(0,.string ⟨l.toArray⟩),(4,.int .i64 c),(5,.int .i64 (nO c)),(6,.int .i64 (im c)),(7,.int .i64 (wL c))] ?_ ?_
  ·refine T.aQ (ab G G (eB G G G (ab G G ?_)));refine aO (g:=18) G (λakb=>?_) (λakb=>?_)
   ·refine ah G G (ab G G (ah G G (cx G G G (aU G G G (ad ?_)))));refine bE G (λc7=>?_) (λc7=>?_)
    ·refine T.aQ (Rg.aZ G G (T.aQ (Rg.aZ G G (aH (ab G G (jR G G G q0 (aN G G ?_)))))));refine ad ?_;exact⟨G,G,G,.cons G (.cons G (.cons (congrArg (λz=>some (Value.int .i64 z)) a08) (.cons (congrArg (λz=>some (Value.int .i64 z)) a09) (.cons (congrArg (λz=>some (Value.int .i64 z)) a10) (.nil)))))⟩
    ·refine T.aQ (ab G G (eB G G G (ab G G ?_)));refine aO (g:=26) G (λjn=>?_) (λjn=>?_)
     ·refine ah G G (ab G G (ah G G (cx G G G (aU G G G (ad ?_)))));refine bE G (λux=>?_) (λux=>?_)
      ·refine T.aQ (Rg.aZ G G (T.aQ (Rg.aZ G G (aH (ab G G (jR G G G q0 (aN G G ?_)))))));refine ad ?_;exact⟨G,G,G,.cons G (.cons G (.cons (congrArg (λz=>some (Value.int .i64 z)) a08) (.cons (congrArg (λz=>some (Value.int .i64 z)) a09) (.cons (congrArg (λz=>some (Value.int .i64 z)) a10) (.nil)))))⟩
      ·refine T.aQ (ab G G (eB G G G (ab G G ?_)));refine aO (g:=34) G (λzI=>?_) (λzI=>?_)
       ·refine ah G G (ab G G (ah G G (cx G G G (aU G G G (ad ?_)))));refine bE G (λFq=>?_) (λFq=>?_)
        ·refine T.aQ (Rg.aZ G G (T.aQ (Rg.aZ G G (aH (ab G G (jR G G G q0 (aN G G ?_)))))));refine ad ?_;exact⟨G,G,G,.cons G (.cons G (.cons (congrArg (λz=>some (Value.int .i64 z)) a08) (.cons (congrArg (λz=>some (Value.int .i64 z)) a09) (.cons (congrArg (λz=>some (Value.int .i64 z)) a10) (.nil)))))⟩
        ·refine aS ?_;exact⟨G,G,G,.cons G (.cons G (.cons (congrArg (λz=>some (Value.int .i64 z)) a08) (.cons (congrArg (λz=>some (Value.int .i64 z)) a09) (.cons (congrArg (λz=>some (Value.int .i64 z)) a10) (.nil)))))⟩
       ·refine aj G G G G (aj G G G G (aB G G G (ad (jF G (aS ?_)))));exact⟨G,G,G,.cons G (.cons G (.cons (congrArg (λz=>some (Value.int .i64 z)) a08) (.cons (congrArg (λz=>some (Value.int .i64 z)) a09) (.cons (congrArg (λz=>some (Value.int .i64 z)) a10) (.nil)))))⟩
     ·refine aj G G G G (aj G G G G (aB G G G (ad (jF G (T.aQ (ab G G (eB G G G (ab G G ?_))))))));refine aO (g:=34) G (λzI=>?_) (λzI=>?_)
      ·refine ah G G (ab G G (ah G G (cx G G G (aU G G G (ad ?_)))));refine bE G (λFq=>?_) (λFq=>?_)
       ·refine T.aQ (Rg.aZ G G (T.aQ (Rg.aZ G G (aH (ab G G (jR G G G q0 (aN G G ?_)))))));refine ad ?_;exact⟨G,G,G,.cons G (.cons G (.cons (congrArg (λz=>some (Value.int .i64 z)) a08) (.cons (congrArg (λz=>some (Value.int .i64 z)) a09) (.cons (congrArg (λz=>some (Value.int .i64 z)) a10) (.nil)))))⟩
       ·refine aS ?_;exact⟨G,G,G,.cons G (.cons G (.cons (congrArg (λz=>some (Value.int .i64 z)) a08) (.cons (congrArg (λz=>some (Value.int .i64 z)) a09) (.cons (congrArg (λz=>some (Value.int .i64 z)) a10) (.nil)))))⟩
      ·refine aj G G G G (aj G G G G (aB G G G (ad (jF G (aS ?_)))));exact⟨G,G,G,.cons G (.cons G (.cons (congrArg (λz=>some (Value.int .i64 z)) a08) (.cons (congrArg (λz=>some (Value.int .i64 z)) a09) (.cons (congrArg (λz=>some (Value.int .i64 z)) a10) (.nil)))))⟩
   ·refine aj G G G G (aj G G G G (aB G G G (ad (jF G (T.aQ (ab G G (eB G G G (ab G G ?_))))))));refine aO (g:=26) G (λjn=>?_) (λjn=>?_)
    ·refine ah G G (ab G G (ah G G (cx G G G (aU G G G (ad ?_)))));refine bE G (λux=>?_) (λux=>?_)
     ·refine T.aQ (Rg.aZ G G (T.aQ (Rg.aZ G G (aH (ab G G (jR G G G q0 (aN G G ?_)))))));refine ad ?_;exact⟨G,G,G,.cons G (.cons G (.cons (congrArg (λz=>some (Value.int .i64 z)) a08) (.cons (congrArg (λz=>some (Value.int .i64 z)) a09) (.cons (congrArg (λz=>some (Value.int .i64 z)) a10) (.nil)))))⟩
     ·refine T.aQ (ab G G (eB G G G (ab G G ?_)));refine aO (g:=34) G (λzI=>?_) (λzI=>?_)
      ·refine ah G G (ab G G (ah G G (cx G G G (aU G G G (ad ?_)))));refine bE G (λFq=>?_) (λFq=>?_)
       ·refine T.aQ (Rg.aZ G G (T.aQ (Rg.aZ G G (aH (ab G G (jR G G G q0 (aN G G ?_)))))));refine ad ?_;exact⟨G,G,G,.cons G (.cons G (.cons (congrArg (λz=>some (Value.int .i64 z)) a08) (.cons (congrArg (λz=>some (Value.int .i64 z)) a09) (.cons (congrArg (λz=>some (Value.int .i64 z)) a10) (.nil)))))⟩
       ·refine aS ?_;exact⟨G,G,G,.cons G (.cons G (.cons (congrArg (λz=>some (Value.int .i64 z)) a08) (.cons (congrArg (λz=>some (Value.int .i64 z)) a09) (.cons (congrArg (λz=>some (Value.int .i64 z)) a10) (.nil)))))⟩
      ·refine aj G G G G (aj G G G G (aB G G G (ad (jF G (aS ?_)))));exact⟨G,G,G,.cons G (.cons G (.cons (congrArg (λz=>some (Value.int .i64 z)) a08) (.cons (congrArg (λz=>some (Value.int .i64 z)) a09) (.cons (congrArg (λz=>some (Value.int .i64 z)) a10) (.nil)))))⟩
    ·refine aj G G G G (aj G G G G (aB G G G (ad (jF G (T.aQ (ab G G (eB G G G (ab G G ?_))))))));refine aO (g:=34) G (λzI=>?_) (λzI=>?_)
     ·refine ah G G (ab G G (ah G G (cx G G G (aU G G G (ad ?_)))));refine bE G (λFq=>?_) (λFq=>?_)
      ·refine T.aQ (Rg.aZ G G (T.aQ (Rg.aZ G G (aH (ab G G (jR G G G q0 (aN G G ?_)))))));refine ad ?_;exact⟨G,G,G,.cons G (.cons G (.cons (congrArg (λz=>some (Value.int .i64 z)) a08) (.cons (congrArg (λz=>some (Value.int .i64 z)) a09) (.cons (congrArg (λz=>some (Value.int .i64 z)) a10) (.nil)))))⟩
      ·refine aS ?_;exact⟨G,G,G,.cons G (.cons G (.cons (congrArg (λz=>some (Value.int .i64 z)) a08) (.cons (congrArg (λz=>some (Value.int .i64 z)) a09) (.cons (congrArg (λz=>some (Value.int .i64 z)) a10) (.nil)))))⟩
     ·refine aj G G G G (aj G G G G (aB G G G (ad (jF G (aS ?_)))));exact⟨G,G,G,.cons G (.cons G (.cons (congrArg (λz=>some (Value.int .i64 z)) a08) (.cons (congrArg (λz=>some (Value.int .i64 z)) a09) (.cons (congrArg (λz=>some (Value.int .i64 z)) a10) (.nil)))))⟩
  ·refine aL (T.aQ (ab G G (fe G G G (ab G G ?_))));refine aO (g:=42) G (λacL=>?_) (λacL=>?_)
   ·refine aj G G G G (aj G G G G (aj G G G G (aj G G G G (aU G G G (ad (kD G (T.aQ (aN G G (Rg.aZ G G ?_)))))))));refine aJ ?_
    have hx:nO (ke l 0:Int)=0\/∃k:Nat,1<=k/\(k:Int)<nO (ke l 0:Int)/\j8 l k=false:=by
     rw[<-hc];by_cases h0:nO c=0
     ·exact .inl h0
     ·have hnc:=ov h0;exact .inr ⟨(nO c).toNat-1,by omega,by omega,fh.2 λh=>by have:=(gV.1 h).1;omega⟩
    have e:dec l=(65533,1):=J5 q0 hx;exact fA rfl rfl rfl ⟨by rw[e];rfl,rfl⟩
   ·refine ah G G (ab G G (ah G G (sI aA G G (bg (v':= .int .i64 (l.length:Int)) a84 (ah G G (ab G G (ah G G (cx G G G (aB G G G (ad ?_))))))))));refine bE G (λV4=>?_) (λV4=>?_)
    ·refine T.aQ (aN G G (Rg.aZ G G (aJ ?_)))
     have hx:nO (ke l 0:Int)=0\/∃k:Nat,1<=k/\(k:Int)<nO (ke l 0:Int)/\j8 l k=false:=by
      rw[<-hc];by_cases h0:nO c=0
      ·exact .inl h0
      ·have hnc:=ov h0;exact .inr ⟨(nO c).toNat-1,by omega,by omega,fh.2 λh=>by have:=(gV.1 h).1;omega⟩
     have e:dec l=(65533,1):=J5 q0 hx;exact fA rfl rfl rfl ⟨by rw[e];rfl,rfl⟩
    ·refine aS (aL (T.aQ (Rg.aZ G G (aX ?_))));refine dd (σ:=Nat) (λi=>[(0,.string ⟨l.toArray⟩),(5,.int .i64 (nO c)),(6,.int .i64 (im c)),(7,.int .i64 (vO l (i-1))),(8,.int .i64 (i:Int))]) (λi w=>w=w0/\1<=i/\(i:Int)<=nO c/\∀k:Nat,1<=k->k<i->j8 l k=true) (λi=>(nO c).toNat-i) 1 (.cons G (.cons G (.cons G (.cons (congrArg (λz=>some (Value.int .i64 z)) (by show wL c=wL (ke l 0:Int);rw[hc])) (.cons rfl .nil))))) ?_ ?_
     ·exact⟨G,bz _,by have:=ov (c:=c) q0;omega,λk h1 h2=>by omega⟩
     ·rintro i w ⟨rfl,Bt,Ex,fa⟩;have hnc:=ov (c:=c) q0
      have hvr:0<=vO l (i-1)/\vO l (i-1)<=100000000:=by
       exact X6 (l:=l) (c:=c) (k:=i-1) hc q0 (λj h1 h2=>fa j h1 q0) q0
      refine aL (T.aQ (ab G G (ab G G (cx G G G (ad ?_)))));refine bE G (λc22=>?_) (λc22=>?_)
      ·refine aS (aL (aX (T.aQ (ab G G (ab G G ?_)))));have lJ:i<l.length:=by omega
       refine Rg.J2 (c:=l.getD i 0) aA G G G q0 (by rw[cg,ar,aq lJ];rfl) ?_;refine bg (v':= .int .u8 (ke l i:Int)) G ?_;have X7:=pf l i;refine Rg.wa db al G G q0 (Rg.aZ G G (aL (T.aQ (ab G G (cx G G G (ab G G ?_))))));refine aO (g:=59) G (λacM=>?_) (λacM=>?_)
       ·refine aj G G G G (aj G G G G (aU G G G (ad (kD G (T.aQ (aN G G (Rg.aZ G G (aJ ?_))))))))
        have hx:nO (ke l 0:Int)=0\/∃k:Nat,1<=k/\(k:Int)<nO (ke l 0:Int)/\j8 l k=false:=by
         rw[<-hc];exact .inr ⟨i,Bt,by omega,fh.2 λh=>by have:=gV.1 h;omega⟩
        have e:dec l=(65533,1):=J5 q0 hx;exact fA rfl rfl rfl ⟨by rw[e];rfl,rfl⟩
       ·refine ah G G (ab G G (ah G G (eB G G G (aB G G G (ad ?_)))));refine bE G (λX8=>?_) (λX8=>?_)
        ·refine T.aQ (aN G G (Rg.aZ G G (aJ ?_)))
         have hx:nO (ke l 0:Int)=0\/∃k:Nat,1<=k/\(k:Int)<nO (ke l 0:Int)/\j8 l k=false:=by
          rw[<-hc];exact .inr ⟨i,Bt,by omega,fh.2 λh=>by have:=gV.1 h;omega⟩
         have e:dec l=(65533,1):=J5 q0 hx;exact fA rfl rfl rfl ⟨by rw[e];rfl,rfl⟩
        ·refine aS (aH (ab G G (Rg.Xm G G G q0 (ab G G (bu G G G q0 (jR G G G q0 (Rg.aZ G G (aH (ab G G (bu G G G q0 ?_))))))))));refine Rg.aZ G G ?_;refine⟨G,i+1,(.cons G (.cons G (.cons G (.cons (congrArg (λz=>some (Value.int .i64 z)) (by obtain⟨q,rfl⟩:∃q,i=q+1:=⟨i-1,by omega⟩;rfl)) (.cons rfl .nil))))),?_,?_⟩
         ·exact⟨G,by omega,by omega,λk h1 h2=>by
           rcases cH k i with h|h
           ·exact fa k h1 h
           ·obtain rfl:k=i:=by omega
            exact gV.2 q0⟩
         ·omega
      ·refine cN (aL (T.aQ (ab G G (ab G G (cx G G G (ab G G ?_))))));refine aO (g:=71) G (λacN=>?_) (λacN=>?_)
       ·refine aj G G G G (aj G G G G (aU G G G (ab G G (aj G G G G (aj G G G G (aj G G G G (cp G G G (cp G G G (aj G G G G (aU G G G (ad ?_)))))))))));refine kD G (T.aQ (aN G G (Rg.aZ G G (aJ ?_))));have e:=Fp (l:=l) (by rw[<-hc];omega) ac4 (vO l (i-1)) ai3;rw[<-hc,if_pos q0]at e;exact fA rfl rfl rfl ⟨by rw[e];rfl,rfl⟩
       ·refine ah G G (ab G G (ah G G (eR G G G (aB G G G (ab G G ?_)))));refine aO (g:=75) G (λacO=>?_) (λacO=>?_)
        ·refine aj G G G G (aj G G G G (aj G G G G (cp G G G (cp G G G (aj G G G G (aU G G G (ad (kD G (T.aQ (aN G G ?_))))))))));refine Rg.aZ G G (aJ ?_);have e:=Fp (l:=l) (by rw[<-hc];omega) ac4 (vO l (i-1)) ai3;rw[<-hc,if_pos q0]at e;exact fA rfl rfl rfl ⟨by rw[e];rfl,rfl⟩
        ·refine ah G G (ab G G (ah G G (eB G G G (ah G G (ab G G ?_)))));refine aO (g:=78) G (λX9=>?_) (λX9=>?_)
         ·refine ah G G (ab G G (ah G G (fM G G G (ah G G (aU G G G (aB G G G (ad ?_)))))));refine bE G (λc28=>?_) (λc28=>?_)
          ·refine T.aQ (aN G G (Rg.aZ G G (aJ ?_)));have e:=Fp (l:=l) (by rw[<-hc];omega) ac4 (vO l (i-1)) ai3;rw[<-hc,if_pos q0]at e;exact fA rfl rfl rfl ⟨by rw[e];rfl,rfl⟩
          ·refine aS (T.aQ (ab G G (ab G G (aN G G (Rg.aZ G G (aJ ?_))))));have e:=Fp (l:=l) (by rw[<-hc];omega) ac4 (vO l (i-1)) ai3;rw[<-hc,if_neg q0]at e;exact fA rfl rfl rfl ⟨by rw[e];simp only[];rw[Bq hvr.1,Bq q0],rfl⟩
         ·refine aj G G G G (aj G G G G (ah G G (aB G G G (aB G G G (ad (jF G (aS (T.aQ (ab G G (ab G G ?_))))))))));refine aN G G (Rg.aZ G G (aJ ?_));have e:=Fp (l:=l) (by rw[<-hc];omega) ac4 (vO l (i-1)) ai3;rw[<-hc,if_neg q0]at e;exact fA rfl rfl rfl ⟨by rw[e];simp only[];rw[Bq hvr.1,Bq q0],rfl⟩
theorem zJ {M:aM} {l:List UInt8} (w0:World) (hM:Lt M w0) (hl:l.length<=4000000):
  Spec Tryz.prog 111 #[.string ⟨l.toArray⟩] w0 (λv w=>∃M',Lt M' w/\Step M w0 M' w aC/\Own (RT.int .i64) 3 M' w w0.heap.size v (dN l)):=by
 have gv:=hM;refine bh (args:=[_]) (fn:=Tryz.f111) Tryz.func111 G (n:=22) Tryz.ntmps111 ?_;have S:Step M w0 M w0 aC:=aV;refine T.aQ (Rg.aZ G G (T.aQ (Rg.aZ G G (aL (aX ?_)))));refine dd (σ:=Nat×List Int×Value) (λq=>[(0,.string ⟨(l.drop q.1).toArray⟩),(3,q.2.2)]) (λq w=>∃M',Lt M' w/\Step M w0 M' w aC/\Own (RT.int .i64) 3 M' w w0.heap.size q.2.2 q.2.1/\dN l=q.2.1++dN (l.drop q.1)/\q.1<=l.length) (λq=>l.length-q.1) (0,[],.slice none 0 0) a71 ?_ ?_
 ·exact⟨M,hM,S,eL _ _ _ _ _,by simp,by simp⟩
 ·rintro⟨p,xs,u⟩ w ⟨M1,hM,S,ho,DD,hp⟩;dsimp only at ho DD hp ⊢;refine aL (T.aQ (ab G G (sI aA G G (bg (v':= .int .i64 ((l.drop p).length:Int)) a84 (eR G G G (ad ?_))))));refine bE G (λc2=>?_) (λc2=>?_)
  ·refine aS (aX (T.aQ (ab G G ?_)));have fw:l.drop p≠[]:=by intro h;rw[h]at c2;simp at c2
   have yI:p<l.length:=by have:=dC.2 fw;rw[cW]at this;omega
   have hwd:=jJ fw;refine aP rfl rfl ajM (OM (l:=l.drop p) _ fw (by rw[cW];omega)) (λr3 w3 hc=>?_);obtain⟨rfl,rfl⟩:=hc;refine ab G G (cI G G G (cI G G G (aN G G (Rg.aZ G G (T.aQ (ab G G (ab G G ?_)))))));refine fz (A:=RT.int .i64) (hn:=by decide) (M:=M1) az I3 Tg G G hM (hU (by have:=rz (l.drop p);omega)) (.inr ⟨rfl,rfl⟩) (λYa Yb nv pq=>?_);replace ho:=ho.bP pq;replace hM:=pq.lt hM;have:=S.size;replace S:=S.aw pq;refine dJ (M:=M1) (base:=w0.heap.size) az I3 rfl rfl rfl rfl ho nv bS ad1 ad1 (S.size) (λacP akf auz acQ Yc=>?_);replace nv:=nv.le Yc.le;replace hM:=Yc.lt hM;have:=S.size;replace S:=S.dX Yc ho (bz _);replace ho:=acQ;refine Rg.aZ G G (aH (ab G G (ab G G (Rg.TR aA G G G q0 (bg (v':= .string ⟨(l.drop (p+(dec (l.drop p)).2)).toArray⟩) (by rw[List.drop_drop];simp) (Rg.aZ rfl rfl ?_))))));refine⟨G,(p+(dec (l.drop p)).2,xs++[((dec (l.drop p)).1:Int)],acP),a71,?_,?_⟩
   ·refine⟨akf,hM,S,ho,?_,?_⟩
    ·rw[DD,kN fw,List.drop_drop];simp
    ·have:=hwd.2;rw[cW]at this;dsimp only;omega
   ·have:=hwd.1;have:=hwd.2;rw[cW]at this;dsimp only;omega
  ·refine cN (T.aQ (ab G G (Rg.aZ G G (aJ ?_))));have e:dN l=xs:=by rw[DD,jw (by simp at c2;omega),l3];simp
   rw[e];exact aK G G ⟨_,hM,S,ho⟩
theorem xN {M:aM} {l:List UInt8} (w0:World) (hM:Lt M w0) (hl:l.length<=4000000):Spec Tryz.prog 111 #[.string ⟨l.toArray⟩] w0 (λv w=>((RT.int .i64).sl).V M w (dN l) v/\Step M w0 M w aC):=
 (zJ w0 hM hl).mono λ_ w ⟨M',h1,h2,h3⟩=>⟨h3.close hM h2 (by have:=gU l;omega),h2.back⟩
theorem sh {M:aM} {w:World} {x:Int} (h:0<=x/\x<256):RT.u8.V M w x.toNat.toUInt8 (.int .u8 (IntKind.u8.wrap x)):=by
 have e1:IntKind.u8.wrap x=x:=by
  show(if(false&&decide (x%256>=128))=true then x%256-256 else x%256)=x;rw[if_neg (by simp)];omega
 have e2:((x.toNat.toUInt8).toNat:Int)=x:=by
  have:x.toNat.toUInt8.toNat=x.toNat%256:=UInt8.toNat_ofNat' ..;omega
 rw[e1];exact⟨[.int .u8 x],by show _=_;rw[e2],rfl⟩
theorem acR {r:Int} (h:0<=r/\r<128):Lib.encodeRune r=[r.toNat.toUInt8]:=by rw[Lib.encodeRune,Lib.encodeRuneZ_one h.1 q0];rfl
theorem acS {r:Int} (h:128<=r/\r<2048):Lib.encodeRune r=[(192+r/64).toNat.toUInt8,(128+r%64).toNat.toUInt8]:=by rw[Lib.encodeRune,Lib.encodeRuneZ_two h.1 q0];rfl
theorem LF (c:Int):rB c<55296\/57343<rB c:=by
 unfold rB
 split
 ·omega
 ·rename_i h
  have h2:Lib.validRune c=true:=by
   cases hv:Lib.validRune c with
   |true=>rfl
   |false=>exact absurd (.inr (.inr hv)) h
  simp only[Lib.validRune,decide_eq_true_eq]at h2;omega
theorem akg {r:Int} (h:2048<=r/\r<65536) (h2:r<55296\/57343<r):Lib.encodeRune r=[(224+r/4096).toNat.toUInt8,(128+r/64%64).toNat.toUInt8,(128+r%64).toNat.toUInt8]:=by rw[Lib.encodeRune,Lib.encodeRuneZ_three q0];rfl
theorem akh {r:Int} (h:65536<=r/\r<=1114111):Lib.encodeRune r=[(240+r/262144).toNat.toUInt8,(128+r/4096%64).toNat.toUInt8,(128+r/64%64).toNat.toUInt8,(128+r%64).toNat.toUInt8]:=by rw[Lib.encodeRune,Lib.encodeRuneZ_four h.1 h.2];rfl
theorem uy {c:Int} (h:c<0\/c>1114111\/(55296<=c/\c<=57343)):rB c=65533:=by
 rw[rB,if_pos];rcases h with h|h|h
 ·exact .inl h
 ·exact .inr (.inl h)
 ·refine .inr (.inr ?_);simp only[Lib.validRune,decide_eq_false_iff_not];omega
theorem ox {c:Int} (h: ¬(c<0\/c>1114111\/(55296<=c/\c<=57343))):rB c=c:=by
 rw[rB,if_neg];rintro(h1|h1|h1)
 ·omega
 ·omega
 ·simp only[Lib.validRune,decide_eq_false_iff_not]at h1;omega
theorem tn {M:aM} {xs:List Int} {v0:Value} (w0:World) (hM:Lt M w0) (hv:((RT.int .i64).sl).V M w0 xs v0) (hl:xs.length<=4000000):
  Spec Tryz.prog 172 #[v0] w0 (λv w=>v= .string ⟨(ic xs).toArray⟩/\Step M w0 M w aC):=by
 have gv:=hM;refine bh (args:=[_]) (fn:=Tryz.f172) Tryz.func172 G (n:=91) Tryz.ntmps172 ?_;have S:Step M w0 M w0 aC:=aV;refine T.aQ (Rg.aZ G G (T.aQ (Rg.aZ G G (aL (T.aQ (aN G G ?_))))));refine ad (aX ?_);refine dd (σ:=Nat×Value) (λq=>[(0,v0),(3,q.2),(4,.int .i64 (q.1:Int))]) (λq w=>∃M',Lt M' w/\Step M w0 M' w aC/\Own RT.u8 5 M' w w0.heap.size q.2 (ic (xs.take q.1))/\((RT.int .i64).sl).V M' w xs v0/\q.1<=xs.length) (λq=>xs.length-q.1) (0,.slice none 0 0) a07 ?_ ?_
 ·exact⟨M,hM,S,eL _ _ _ _ _,hv,a8 _⟩
 ·rintro⟨k,u⟩ w ⟨M1,hM,S,ho,hv,hk⟩;dsimp only at ho hk ⊢;refine aL (T.aQ (ab G G (ab G G (bC az G hv G (cx G G G (ad ?_))))));refine bE G (λc3=>?_) (λc3=>?_)
  ·refine aS (aL (aX (T.aQ (ab G G (ab G G ?_)))));refine cC az I3 G G G hv bS q0 (λu5 c LG lP=>?_);refine bV al G G lP bS (λin5=>?_);have tk:xs.take (k+1)=xs.take k++[c]:=by rw[bY];simp only[ar]at LG;rw[LG];rfl
   have hsr:=J4 c;have TZ:=LF c;refine Rg.aZ G G ?_;refine lB [(0,v0),(3,u),(4,.int .i64 (k:Int)),(5,.int .i64 (rB c))] ?_ ?_
   ·refine T.aQ (ab G G (cx G G G (ab G G ?_)));refine aO (g:=18) G (λzK=>?_) (λzK=>?_)
    ·refine aj G G G G (aj G G G G (aU G G G (ab G G (aj G G G G (aj G G G G (aj G G G G (cp G G G (cp G G G (aj G G G G (aU G G G (ad ?_)))))))))));refine kD G (aH (Rg.aZ G G ?_));exact⟨G,G,G,.cons G (.cons G (.cons G (.cons (congrArg (λz=>some (Value.int .i64 z)) ab1) (.nil))))⟩
    ·refine ah G G (ab G G (ah G G (eR G G G (aB G G G (ab G G ?_)))));refine aO (g:=22) G (λaki=>?_) (λaki=>?_)
     ·refine aj G G G G (aj G G G G (aj G G G G (cp G G G (cp G G G (aj G G G G (aU G G G (ad (kD G (aH (Rg.aZ G G ?_))))))))));exact⟨G,G,G,.cons G (.cons G (.cons G (.cons (congrArg (λz=>some (Value.int .i64 z)) ab1) (.nil))))⟩
     ·refine ah G G (ab G G (ah G G (eB G G G (ah G G (ab G G ?_)))));refine aO (g:=25) G (λakj=>?_) (λakj=>?_)
      ·refine ah G G (ab G G (ah G G (fM G G G (ah G G (aU G G G (aB G G G (ad ?_)))))));refine bE G (λc6=>?_) (λc6=>?_)
       ·refine aH (Rg.aZ G G ?_);exact⟨G,G,G,.cons G (.cons G (.cons G (.cons (congrArg (λz=>some (Value.int .i64 z)) ab1) (.nil))))⟩
       ·refine aS ?_;exact⟨G,G,G,.cons G (.cons G (.cons G (.cons (congrArg (λz=>some (Value.int .i64 z)) ab1) (.nil))))⟩
      ·refine aj G G G G (aj G G G G (ah G G (aB G G G (aB G G G (ad (jF G (aS ?_)))))));exact⟨G,G,G,.cons G (.cons G (.cons G (.cons (congrArg (λz=>some (Value.int .i64 z)) ab1) (.nil))))⟩
   ·refine T.aQ (ab G G (cx G G G (ad ?_)));refine bE G (λc8=>?_) (λc8=>?_)
    ·refine aH (ab G G (ab G G (xD al db G G ?_)));refine fz (A:=RT.u8) (hn:=by decide) (M:=M1) bZ I5 Tg G G hM (sh q0) (.inr ⟨G,G⟩) (λauA acT ON qO=>?_);replace hv:=hv.le qO.le;replace ho:=ho.bP qO;replace hM:=qO.lt hM;have:=S.size;replace S:=S.aw qO;refine dJ (M:=M1) (base:=w0.heap.size) bZ I5 G G G G ho ON bS a48 a48 (S.size) (λacU akk akl acV BJ=>?_);replace hv:=hv.le BJ.le;replace ON:=ON.le BJ.le;replace hM:=BJ.lt hM;have:=S.size;replace S:=S.dX BJ ho (bz _);replace ho:=acV;refine Rg.aZ G G (aH (ab G G (bu G G G q0 (Rg.aZ G G ?_))));refine⟨G,(k+1,acU),a07,?_,?_⟩
     ·exact⟨akk,hM,S,by rw[tk,kO,acR q0];exact ho,hv,by dsimp only;omega⟩
     ·dsimp only;omega
    ·refine T.aQ (ab G G (cx G G G (ad ?_)));refine bE G (λLH=>?_) (λLH=>?_)
     ·refine aH (ab G G (ab G G (Rg.yq G G G q0 (bu G G G q0 (xD al db G G (ab G G (Rg.vZ G G G q0 (bu G G G q0 (xD al db G G ?_)))))))));refine Rg.NW (A:=RT.u8) (hn:=by decide) (M:=M1) (xs:=[(192+rB c/64).toNat.toUInt8,(128+rB c%64).toNat.toUInt8]) bZ I5 G Tg G ⟨_,_,_,G,G,G,sh q0,_,_,_,G,G,G,sh q0,G⟩ G hM (.inr ⟨G,G⟩) Tg (λacW aqu zL J6=>?_);replace hv:=hv.le J6.le;replace ho:=ho.bP J6;replace hM:=J6.lt hM;have:=S.size;replace S:=S.aw J6;refine dJ (M:=M1) (base:=w0.heap.size) bZ I5 G G G G ho zL bS a48 a48 (S.size) (λYd Ye akm T0 DE=>?_);replace hv:=hv.le DE.le;replace zL:=zL.le DE.le;replace hM:=DE.lt hM;have:=S.size;replace S:=S.dX DE ho (bz _);replace ho:=T0;refine Rg.aZ G G (aH (ab G G (bu G G G q0 (Rg.aZ G G ?_))));refine⟨G,(k+1,Yd),a07,?_,?_⟩
      ·exact⟨Ye,hM,S,by rw[tk,kO,acS q0];exact ho,hv,by dsimp only;omega⟩
      ·dsimp only;omega
     ·refine T.aQ (ab G G (cx G G G (ad ?_)));refine bE G (λFs=>?_) (λFs=>?_)
      ·refine aH (ab G G (ab G G (Rg.yq G G G q0 (bu G G G q0 (xD al db G G (ab G G (Rg.yq G G G q0 (Rg.vZ G G G q0 (bu G G G q0 (xD al db G G (ab G G ?_)))))))))));refine Rg.vZ G G G q0 (bu G G G q0 (xD al db G G ?_));refine Rg.NW (A:=RT.u8) (hn:=by decide) (M:=M1) (xs:=[(224+rB c/4096).toNat.toUInt8,(128+rB c/64%64).toNat.toUInt8,(128+rB c%64).toNat.toUInt8]) bZ I5 G Tg G ⟨_,_,_,G,G,G,sh q0,_,_,_,G,G,G,sh q0,_,_,_,G,G,G,sh q0,G⟩ G hM (.inr ⟨G,G⟩) Tg (λakn ako DF DG=>?_);replace hv:=hv.le DG.le;replace ho:=ho.bP DG;replace hM:=DG.lt hM;have:=S.size;replace S:=S.aw DG;refine dJ (M:=M1) (base:=w0.heap.size) bZ I5 G G G G ho DF bS a48 a48 (S.size) (λYf Yg akp T1 DH=>?_);replace hv:=hv.le DH.le;replace DF:=DF.le DH.le;replace hM:=DH.lt hM;have:=S.size;replace S:=S.dX DH ho (bz _);replace ho:=T1;refine Rg.aZ G G (aH (ab G G (bu G G G q0 (Rg.aZ G G ?_))));refine⟨G,(k+1,Yf),a07,?_,?_⟩
       ·exact⟨Yg,hM,S,by rw[tk,kO,akg q0 TZ];exact ho,hv,by dsimp only;omega⟩
       ·dsimp only;omega
      ·refine aH (ab G G (ab G G (Rg.yq G G G q0 (bu G G G q0 (xD al db G G (ab G G (Rg.yq G G G q0 (Rg.vZ G G G q0 (bu G G G q0 (xD al db G G (ab G G ?_)))))))))));refine Rg.yq G G G q0 (Rg.vZ G G G q0 (bu G G G q0 (xD al db G G (ab G G (Rg.vZ G G G q0 (bu G G G q0 (xD al db G G ?_)))))));refine Rg.NW (A:=RT.u8) (hn:=by decide) (M:=M1) (xs:=[(240+rB c/262144).toNat.toUInt8,(128+rB c/4096%64).toNat.toUInt8,(128+rB c/64%64).toNat.toUInt8,(128+rB c%64).toNat.toUInt8]) bZ I5 G Tg G ⟨_,_,_,G,G,G,sh q0,_,_,_,G,G,G,sh q0,_,_,_,G,G,G,sh q0,_,_,_,G,G,G,sh q0,G⟩ G hM (.inr ⟨G,G⟩) Tg (λakq akr DI DJ=>?_);replace hv:=hv.le DJ.le;replace ho:=ho.bP DJ;replace hM:=DJ.lt hM;have:=S.size;replace S:=S.aw DJ;refine dJ (M:=M1) (base:=w0.heap.size) bZ I5 G G G G ho DI bS a48 a48 (S.size) (λYh Yi aks T2 DK=>?_);replace hv:=hv.le DK.le;replace DI:=DI.le DK.le;replace hM:=DK.lt hM;have:=S.size;replace S:=S.dX DK ho (bz _);replace ho:=T2;refine Rg.aZ G G (aH (ab G G (bu G G G q0 (Rg.aZ G G ?_))));refine⟨G,(k+1,Yh),a07,?_,?_⟩
       ·exact⟨Yi,hM,S,by rw[tk,kO,akh q0];exact ho,hv,by dsimp only;omega⟩
       ·dsimp only;omega
  ·refine cN (T.aQ (ab G G (Rg.b2s (hn:=by decide) (M:=M) bZ db aA G G (ho.close gv S (by have:=gE (xs.take k);rw[a7]at this;omega)) bS (Rg.aZ rfl rfl (aJ ?_)))));have e:xs.take k=xs:=bp q0;rw[e];exact aK G G ⟨G,S.back⟩
theorem HV {M:aM} {l:List UInt8} (w0:World) (hM:Lt M w0) (hl:l.length<=4000000):
  Spec Tryz.prog 244 #[.string ⟨l.toArray⟩] w0 (λv w=>((RT.int .i64).sl).V M w (dN l) v/\Step M w0 M w aC):=by
 have gv:=hM;refine bh (args:=[_]) (fn:=Tryz.f244) Tryz.func244 G (n:=17) Tryz.ntmps244 ?_;have S:Step M w0 M w0 aC:=aV;refine T.aQ (Rg.aZ G G (T.aQ (Rg.aZ G G (aL (T.aQ (ab G G ?_))))));refine Rg.Oz M aA G G (λOO auB auC auD akt Yj=>?_);obtain⟨V5,OP⟩:∃M',M'=ins M OO:=⟨_,rfl⟩;rw[<-OP]at Yj;have Yk:V5 OO:=by rw[OP];exact .inl G
 replace hM:=Yj.lt hM;have:=S.size;replace S:=S.aw Yj;refine ad (aX ?_);refine dd (σ:=Nat×List Int×Value) (λq=>[(3,q.2.2),(7,.pointer (some ⟨OO,0,none⟩))]) (λq w=>∃M',Lt M' w/\Step M w0 M' w aC/\w.heap[OO]? =some (.stringIter ⟨l.toArray⟩ q.1)/\M' OO/\Own (RT.int .i64) 3 M' w w0.heap.size q.2.2 q.2.1/\dN l=q.2.1++dN (l.drop q.1)/\q.1<=l.length) (λq=>l.length-q.1) (0,[],.slice none 0 0) a71 ?_ ?_
 ·exact⟨V5,hM,S,akt,Yk,eL _ _ _ _ _,by simp,by simp⟩
 ·rintro⟨p,xs,u⟩ w ⟨M1,hM,S,g,Co,ho,DD,hp⟩;dsimp only at g ho DD hp ⊢;refine T.aQ ?_;refine Rg.TQ (M:=M1) G g Co G (λaku auE akv OQ=>?_) (λaku=>?_)
  ·have:=ae g;replace Co:=(OQ.mem _ this).2 Co;replace ho:=ho.step OQ (λb hb hk=>ho.eS g (hk▸hb));replace hM:=OQ.lt hM;have:=S.size;replace S:=S.trans OQ (λk hk h=>by have h:_=_:=h;subst h;first|(exfalso;omega)|(show _<=_;omega)|exact⟨by first|omega|assumption,(S.mem _ hk).1 ((OQ.mem _ (ae g)).1 Co)⟩|exact .inl rfl|exact .inr rfl|exact .inr (.inl rfl)|exact .inr (.inr rfl)|exact .inr (.inr (.inl rfl))|exact rfl);have g_:=akv;clear g;have g:=g_;clear g_;refine cI G G G (ad (aL (kD G (aS (aX (T.aQ (cI G G G (Rg.aZ G G (aH ?_)))))))));refine ab G G (ab G G (Rg.wa Tryz.underlying21 al G G (by have:=rz (l.drop p);omega) ?_));refine fz (A:=RT.int .i64) (hn:=by decide) (M:=M1) az I3 Tg G G hM (hU (by have:=rz (l.drop p);omega)) (.inr ⟨rfl,rfl⟩) (λakw acX J7 yu=>?_);have:=ae g;replace Co:=(yu.mem _ this).2 Co;replace g:=yu.aF g;replace ho:=ho.bP yu;replace hM:=yu.lt hM;have:=S.size;replace S:=S.aw yu;refine dJ (M:=M1) (base:=w0.heap.size) az I3 rfl rfl rfl rfl ho J7 bS ad1 ad1 (S.size) (λacY akx auF acZ OR=>?_);have:=ae g;replace Co:=(OR.mem _ this).2 Co;replace g:=OR.bU g (λh=>by first|exact ho.eS g h|exact ho.fK g Tg h|(have:=(ho.base _ h).1;omega));replace J7:=J7.le OR.le;replace hM:=OR.lt hM;have:=S.size;replace S:=S.dX OR ho (bz _);replace ho:=acZ;refine Rg.aZ G G ?_;have fw:l.drop p≠[]:=by intro h;have:=congrArg List.length h;simp at this;omega
   refine⟨G,(p+(dec (l.drop p)).2,xs++[((dec (l.drop p)).1:Int)],acY),a71,?_,?_⟩
   ·refine⟨akx,hM,S,g,Co,ho,?_,?_⟩
    ·rw[DD,kN fw,List.drop_drop];simp
    ·have:=(jJ fw).2;rw[cW]at this;dsimp only;omega
   ·have:=(jJ fw).1;have:=(jJ fw).2;rw[cW]at this;dsimp only;omega
  ·refine cI G G G (ad (aL (jF G (cN (T.aQ (ab G G (Rg.aZ G G (aJ ?_))))))));have e:dN l=xs:=by rw[DD,jw q0,l3];simp
   rw[e];have:=gU l;rw[e]at this;exact aK G G ⟨ho.close gv S q0,S.back⟩
def eU (p:List Int×List (List UInt8)) (c:Int):List Int×List (List UInt8):=
 if fO c=true\/mG c=true then(p.1++[ez c],p.2)else if 0<p.1.length then([],p.2++[ic p.1])else([],p.2)
structure OS (M:aM) (w:World) (B bo bs:Nat) (p:List Int×List (List UInt8)):Prop where
 a:∃u,w.heap[bo]? =some (.cells #[u] 61 (0,0))/\Own (RT.int .i64) 3 M w B u p.1
 b:∃u,w.heap[bs]? =some (.cells #[u] 25 (0,0))/\Own RT.str 9 M w B u p.2
 m:M bo/\M bs/\B<=bo/\B<=bs
theorem qP {c:Int} (h:fO c=true\/mG c=true):0<=c/\c<=1114111:=by
 simp only[fO,mG,decide_eq_true_eq]at h;omega
theorem zM {M:aM} {B bo bs:Nat} {p:List Int×List (List UInt8)} (w0:World) (hM:Lt M w0) (c:Int) (ht:OS M w0 B bo bs p) (hl:p.1.length<=4000000/\p.2.length<=4000000):
  Spec Tryz.prog 239 #[.int .i64 c,.pointer (some ⟨bo,0,none⟩),.pointer (some ⟨bs,0,none⟩)] w0 (λv w=>∃M',Lt M' w/\OS M' w B bo bs (eU p c)/\Step M w0 M' w (lS M B)):=by
 obtain⟨⟨uo,go,ho⟩,⟨us,gs,hs⟩,ie,iZ,hBo,hBs⟩:=ht;obtain⟨own,out⟩:=p;dsimp only at ho hs hl ⊢;have fw:bo≠bs:=λe=>by subst e;rw[go]at gs;cases gs
 refine bh (args:=[_,_,_]) (fn:=Tryz.f239) Tryz.func239 G (n:=23) Tryz.ntmps239 ?_;have S:Step M w0 M w0 (lS M B):=(aV).eI a30 (λ_ h=>h.2);refine aL (T.aQ (ab G G ?_));refine aP G G ajX (Fk _ _) (λr wc hc=>?_);obtain⟨rfl,rfl⟩:=hc;refine bg (v':= .bool (decide (fO c=true))) (by cases fO c<;>rfl) (ab rfl rfl ?_);refine aO (g:=6) G (λaky=>?_) (λaky=>?_)
 ·refine aj G G G G (aj G G G G (aU G G G (ad (kD G (aL ?_)))));apply T.n4 2 [0] 2 aC mixed rfl rfl rfl rfl;intro LI OT;have mI:=OT M;have:=ae go;replace ie:=(mI.mem _ this).2 ie;replace go:=mI.aF go;have:=ae gs;replace iZ:=(mI.mem _ this).2 iZ;replace gs:=mI.aF gs;replace ho:=ho.bP mI;replace hs:=hs.bP mI;replace hM:=mI.lt hM;have:=S.size;replace S:=S.aw mI;refine aR az G G G (by first|assumption|exact ch mI Xf) G (Rg.dh (ab G G (Rg.dh (fL (⟨jo ⟨gR G Xf a98,trivial⟩,?_⟩)))));have kp:=kn aC LI;have HW:fO c=true\/mG c=true:=by first|exact .inl Xf|exact .inr Xf
  refine aP G G acF (Cm c _ (qP HW)) (λr wc hc=>?_);obtain⟨rfl,rfl⟩:=hc;refine(fun(kp:fG _ _ _)=>ad ⟨G,G,λ_=>kp,?_⟩) a02;refine fz (A:=RT.int .i64) (hn:=by decide) (M:=M) az I3 Tg G G hM (hU (by have:=qP HW;unfold ez;split<;>omega)) (.inr ⟨rfl,rfl⟩) (λT3 LJ ky s1_3=>?_);have:=ae go;replace ie:=(s1_3.mem _ this).2 ie;replace go:=s1_3.aF go;have:=ae gs;replace iZ:=(s1_3.mem _ this).2 iZ;replace gs:=s1_3.aF gs;replace ho:=ho.bP s1_3;replace hs:=hs.bP s1_3;replace hM:=s1_3.lt hM;have:=S.size;replace S:=S.aw s1_3;refine(fun(kp:fG _ _ _)=>ad ⟨G,G,λ_=>kp,?_⟩) a02;refine dJ (M:=M) (base:=B) az I3 rfl rfl rfl rfl ho ky bS a11 a11 (by have:=ae go;omega) (λT4 OU Yl OV mJ=>?_);have:=ae go;replace ie:=(mJ.mem _ this).2 ie;replace go:=mJ.bU go (λh=>by first|exact ho.eS go h|exact ho.fK go Tg h|(have:=(ho.base _ h).1;omega));have:=ae gs;replace iZ:=(mJ.mem _ this).2 iZ;replace gs:=mJ.bU gs (λh=>by first|exact ho.eS gs h|exact ho.fK gs Tg h|(have:=(ho.base _ h).1;omega));replace ky:=ky.le mJ.le;replace hs:=hs.step mJ (λb h1 h2=>hs.jy ho Tg h1 h2);replace hM:=mJ.lt hM;have:=S.size;replace S:=S.trans mJ (λb hb h=>⟨(ho.base b h).1,(S.mem b hb).1 (ho.mut_ b h)⟩);replace ho:=OV;refine ad ⟨G,G,λh=>absurd G h,?_⟩;refine cv (M:=OU) qc rfl rfl go rfl (aa2) ie (λYm lL pv=>?_);change Ym.heap[_]? =some (Obj.cells #[T4] _ _)at lL
  have:=ae go;replace ie:=(pv.mem _ this).2 ie;have:=ae gs;replace iZ:=(pv.mem _ this).2 iZ;replace gs:=pv.bU gs a04;replace ky:=ky.le pv.le;replace ho:=ho.step pv (λb hb hk=>by have hk:b=_:=hk;subst hk;first|exact absurd hb (ho.fK go Tg)|exact absurd hb (ho.fK gs Tg));replace hs:=hs.step pv (λb hb hk=>by have hk:b=_:=hk;subst hk;first|exact absurd hb (hs.fK go Tg)|exact absurd hb (hs.fK gs Tg));replace hM:=pv.lt hM;have:=S.size;replace S:=S.trans pv (λk hk h=>by have h:_=_:=h;subst h;first|(exfalso;omega)|(show _<=_;omega)|exact⟨by first|omega|assumption,(S.mem _ hk).1 ((pv.mem _ (ae go)).1 ie)⟩|exact .inl rfl|exact .inr rfl|exact .inr (.inl rfl)|exact .inr (.inr rfl)|exact .inr (.inr (.inl rfl))|exact rfl);have OW:=lL;clear go;have go:=OW;clear OW;refine ad ⟨G,G,λh=>absurd G h,nT (aJ ?_)⟩;rw[show eU (own,out) c=(own++[ez c],out)from if_pos HW];exact EK G ⟨OU,hM,⟨⟨_,go,ho⟩,⟨_,gs,hs⟩,ie,iZ,hBo,hBs⟩,S⟩
 ·refine ah G G (ab G G (ah G G ?_));refine aP G G ajY (HQ _ _) (λr wc hc=>?_);obtain⟨rfl,rfl⟩:=hc;refine bg (v':= .bool (decide (mG c=true))) (by cases mG c<;>rfl) (aB rfl rfl rfl (ad ?_));refine bE G (λc0=>?_) (λc0=>?_)
  ·refine aL ?_;apply T.n4 2 [0] 2 aC mixed rfl rfl rfl rfl;intro LI OT;have mI:=OT M;have:=ae go;replace ie:=(mI.mem _ this).2 ie;replace go:=mI.aF go;have:=ae gs;replace iZ:=(mI.mem _ this).2 iZ;replace gs:=mI.aF gs;replace ho:=ho.bP mI;replace hs:=hs.bP mI;replace hM:=mI.lt hM;have:=S.size;replace S:=S.aw mI;refine aR az G G G (by first|assumption|exact ch mI Xf) G (Rg.dh (ab G G (Rg.dh (fL (⟨jo ⟨gR G Xf a98,trivial⟩,?_⟩)))));have kp:=kn aC LI;have HW:fO c=true\/mG c=true:=by first|exact .inl Xf|exact .inr Xf
   refine aP G G acF (Cm c _ (qP HW)) (λr wc hc=>?_);obtain⟨rfl,rfl⟩:=hc;refine(fun(kp:fG _ _ _)=>ad ⟨G,G,λ_=>kp,?_⟩) a02;refine fz (A:=RT.int .i64) (hn:=by decide) (M:=M) az I3 Tg G G hM (hU (by have:=qP HW;unfold ez;split<;>omega)) (.inr ⟨rfl,rfl⟩) (λT3 LJ ky s1_3=>?_);have:=ae go;replace ie:=(s1_3.mem _ this).2 ie;replace go:=s1_3.aF go;have:=ae gs;replace iZ:=(s1_3.mem _ this).2 iZ;replace gs:=s1_3.aF gs;replace ho:=ho.bP s1_3;replace hs:=hs.bP s1_3;replace hM:=s1_3.lt hM;have:=S.size;replace S:=S.aw s1_3;refine(fun(kp:fG _ _ _)=>ad ⟨G,G,λ_=>kp,?_⟩) a02;refine dJ (M:=M) (base:=B) az I3 rfl rfl rfl rfl ho ky bS a11 a11 (by have:=ae go;omega) (λT4 OU Yl OV mJ=>?_);have:=ae go;replace ie:=(mJ.mem _ this).2 ie;replace go:=mJ.bU go (λh=>by first|exact ho.eS go h|exact ho.fK go Tg h|(have:=(ho.base _ h).1;omega));have:=ae gs;replace iZ:=(mJ.mem _ this).2 iZ;replace gs:=mJ.bU gs (λh=>by first|exact ho.eS gs h|exact ho.fK gs Tg h|(have:=(ho.base _ h).1;omega));replace ky:=ky.le mJ.le;replace hs:=hs.step mJ (λb h1 h2=>hs.jy ho Tg h1 h2);replace hM:=mJ.lt hM;have:=S.size;replace S:=S.trans mJ (λb hb h=>⟨(ho.base b h).1,(S.mem b hb).1 (ho.mut_ b h)⟩);replace ho:=OV;refine ad ⟨G,G,λh=>absurd G h,?_⟩;refine cv (M:=OU) qc rfl rfl go rfl (aa2) ie (λYm lL pv=>?_);change Ym.heap[_]? =some (Obj.cells #[T4] _ _)at lL
   have:=ae go;replace ie:=(pv.mem _ this).2 ie;have:=ae gs;replace iZ:=(pv.mem _ this).2 iZ;replace gs:=pv.bU gs a04;replace ky:=ky.le pv.le;replace ho:=ho.step pv (λb hb hk=>by have hk:b=_:=hk;subst hk;first|exact absurd hb (ho.fK go Tg)|exact absurd hb (ho.fK gs Tg));replace hs:=hs.step pv (λb hb hk=>by have hk:b=_:=hk;subst hk;first|exact absurd hb (hs.fK go Tg)|exact absurd hb (hs.fK gs Tg));replace hM:=pv.lt hM;have:=S.size;replace S:=S.trans pv (λk hk h=>by have h:_=_:=h;subst h;first|(exfalso;omega)|(show _<=_;omega)|exact⟨by first|omega|assumption,(S.mem _ hk).1 ((pv.mem _ (ae go)).1 ie)⟩|exact .inl rfl|exact .inr rfl|exact .inr (.inl rfl)|exact .inr (.inr rfl)|exact .inr (.inr (.inl rfl))|exact rfl);have OW:=lL;clear go;have go:=OW;clear OW;refine ad ⟨G,G,λh=>absurd G h,nT (aJ ?_)⟩;rw[show eU (own,out) c=(own++[ez c],out)from if_pos HW];exact EK G ⟨OU,hM,⟨⟨_,go,ho⟩,⟨_,gs,hs⟩,ie,iZ,hBo,hBs⟩,S⟩
  ·refine aS (aL (T.aQ (aR az G G G Xf G (jq az G ho G (eR G G G (ad ?_))))));refine bE G (λc2=>?_) (λc2=>?_)
   ·apply T.n4 2 [0] 2 aC mixed rfl rfl rfl rfl;intro wD3 sA3;have oy:=sA3 M;have:=ae go;replace ie:=(oy.mem _ this).2 ie;replace go:=oy.aF go;have:=ae gs;replace iZ:=(oy.mem _ this).2 iZ;replace gs:=oy.aF gs;replace ho:=ho.bP oy;replace hs:=hs.bP oy;replace hM:=oy.lt hM;have:=S.size;replace S:=S.aw oy;refine aR ax G G G (by first|assumption|exact ch oy Xf) G (Rg.dh (aR az G G G (by first|assumption|exact ch oy Xf) G (Rg.dh (fL (⟨jo ⟨gR G Xf a98,trivial⟩,?_⟩)))));have kp:=kn aC wD3;refine aP G G ajZ (LD (M:=rm M uo) _ (λb hb=>hM b hb.1) (ho.view q0) q0) (λr3 w3 hc=>?_);obtain⟨rfl,s3⟩:=hc;replace s3:=s3.any M;have:=ae go;replace ie:=(s3.mem _ this).2 ie;replace go:=s3.aF go;have:=ae gs;replace iZ:=(s3.mem _ this).2 iZ;replace gs:=s3.aF gs;replace ho:=ho.bP s3;replace hs:=hs.bP s3;replace hM:=s3.lt hM;have:=S.size;replace S:=S.aw s3;refine(fun(kp:fG _ _ _)=>ad ⟨G,G,λ_=>kp,?_⟩) a02;refine fz (A:=RT.str) (hn:=by decide) (M:=M) ax I9 Tg G G hM (mc.2 ⟨G,by have:=gE own;omega⟩) (.inr ⟨rfl,rfl⟩) (λauG auH zN Ft=>?_);have:=ae go;replace ie:=(Ft.mem _ this).2 ie;replace go:=Ft.aF go;have:=ae gs;replace iZ:=(Ft.mem _ this).2 iZ;replace gs:=Ft.aF gs;replace ho:=ho.bP Ft;replace hs:=hs.bP Ft;replace hM:=Ft.lt hM;have:=S.size;replace S:=S.aw Ft;refine(fun(kp:fG _ _ _)=>ad ⟨G,G,λ_=>kp,?_⟩) a02
    refine dJ (M:=M) (base:=B) ax I9 rfl rfl rfl rfl hs zN bS a11 a11 (by have:=ae go;omega) (λYn ac1 auI ac2 Fu=>?_);have:=ae go;replace ie:=(Fu.mem _ this).2 ie;replace go:=Fu.bU go (λh=>by first|exact hs.eS go h|exact hs.fK go Tg h|(have:=(hs.base _ h).1;omega));have:=ae gs;replace iZ:=(Fu.mem _ this).2 iZ;replace gs:=Fu.bU gs (λh=>by first|exact hs.eS gs h|exact hs.fK gs Tg h|(have:=(hs.base _ h).1;omega));replace zN:=zN.le Fu.le;replace ho:=ho.step Fu (λb h1 h2=>ho.jy hs Tg h1 h2);replace hM:=Fu.lt hM;have:=S.size;replace S:=S.trans Fu (λb hb h=>⟨(hs.base b h).1,(S.mem b hb).1 (hs.mut_ b h)⟩);replace hs:=ac2;refine ad ⟨G,G,λh=>absurd G h,?_⟩;refine cv (M:=ac1) rA rfl rfl gs rfl ((by obtain⟨_,_,he,_⟩:=hs.isSlice;rw[he];rfl)) iZ (λakz ac3 DL=>?_);change akz.heap[_]? =some (Obj.cells #[Yn] _ _)at ac3;have:=ae go;replace ie:=(DL.mem _ this).2 ie;replace go:=DL.bU go a04;have:=ae gs;replace iZ:=(DL.mem _ this).2 iZ;replace zN:=zN.le DL.le;replace ho:=ho.step DL (λb hb hk=>by have hk:b=_:=hk;subst hk;first|exact absurd hb (ho.fK go Tg)|exact absurd hb (ho.fK gs Tg));replace hs:=hs.step DL (λb hb hk=>by have hk:b=_:=hk;subst hk;first|exact absurd hb (hs.fK go Tg)|exact absurd hb (hs.fK gs Tg));replace hM:=DL.lt hM;have:=S.size;replace S:=S.trans DL (λk hk h=>by have h:_=_:=h;subst h;first|(exfalso;omega)|(show _<=_;omega)|exact⟨by first|omega|assumption,(S.mem _ hk).1 ((DL.mem _ (ae gs)).1 iZ)⟩|exact .inl rfl|exact .inr rfl|exact .inr (.inl rfl)|exact .inr (.inr rfl)|exact .inr (.inr (.inl rfl))|exact rfl);have gs_:=ac3;clear gs;have gs:=gs_;clear gs_;refine ad ⟨G,G,λh=>absurd G h,nT (aH ?_)⟩;refine cv (M:=ac1) qc G G go G (G) ie (λOX Fv lM=>?_)
    change OX.heap[_]? =some (Obj.cells #[.slice none 0 0] _ _)at Fv;have:=ae go;replace ie:=(lM.mem _ this).2 ie;have:=ae gs;replace iZ:=(lM.mem _ this).2 iZ;replace gs:=lM.bU gs a04;replace zN:=zN.le lM.le;replace ho:=ho.step lM (λb hb hk=>by have hk:b=_:=hk;subst hk;first|exact absurd hb (ho.fK go Tg)|exact absurd hb (ho.fK gs Tg));replace hs:=hs.step lM (λb hb hk=>by have hk:b=_:=hk;subst hk;first|exact absurd hb (hs.fK go Tg)|exact absurd hb (hs.fK gs Tg));replace hM:=lM.lt hM;have:=S.size;replace S:=S.trans lM (λk hk h=>by have h:_=_:=h;subst h;first|(exfalso;omega)|(show _<=_;omega)|exact⟨by first|omega|assumption,(S.mem _ hk).1 ((lM.mem _ (ae go)).1 ie)⟩|exact .inl rfl|exact .inr rfl|exact .inr (.inl rfl)|exact .inr (.inr rfl)|exact .inr (.inr (.inl rfl))|exact rfl);have OW:=Fv;clear go;have go:=OW;clear OW;refine ad ?_
    first|refine iH.nil ?_|simp+decide only[Db,qz,if_true,if_false]|skip
    have hnl: ¬(fO c=true\/mG c=true):=by rintro(h|h)<;>exact absurd h Xf
    first
    |rw[show eU (own,out) c=([],out++[ic own])from(if_neg hnl).trans (if_pos (by show 0<own.length;omega))]
     exact a95
    |rw[show eU (own,out) c=([],out)from(if_neg hnl).trans (if_neg (by show¬0<own.length;omega))]
     exact a95
   ·refine aS (aH ?_);refine cv (M:=M) qc G G go G (G) ie (λOX Fv lM=>?_);change OX.heap[_]? =some (Obj.cells #[.slice none 0 0] _ _)at Fv;have:=ae go;replace ie:=(lM.mem _ this).2 ie;have:=ae gs;replace iZ:=(lM.mem _ this).2 iZ;replace gs:=lM.bU gs a04;replace ho:=ho.step lM (λb hb hk=>by have hk:b=_:=hk;subst hk;first|exact absurd hb (ho.fK go Tg)|exact absurd hb (ho.fK gs Tg));replace hs:=hs.step lM (λb hb hk=>by have hk:b=_:=hk;subst hk;first|exact absurd hb (hs.fK go Tg)|exact absurd hb (hs.fK gs Tg));replace hM:=lM.lt hM;have:=S.size;replace S:=S.trans lM (λk hk h=>by have h:_=_:=h;subst h;first|(exfalso;omega)|(show _<=_;omega)|exact⟨by first|omega|assumption,(S.mem _ hk).1 ((lM.mem _ (ae go)).1 ie)⟩|exact .inl rfl|exact .inr rfl|exact .inr (.inl rfl)|exact .inr (.inr rfl)|exact .inr (.inr (.inl rfl))|exact rfl);have OW:=Fv;clear go;have go:=OW;clear OW;refine ad ?_
    first|refine iH.nil ?_|simp+decide only[Db,qz,if_true,if_false]|skip
    have hnl: ¬(fO c=true\/mG c=true):=by rintro(h|h)<;>exact absurd h Xf
    first
    |rw[show eU (own,out) c=([],out++[ic own])from(if_neg hnl).trans (if_pos (by show 0<own.length;omega))]
     exact a95
    |rw[show eU (own,out) c=([],out)from(if_neg hnl).trans (if_neg (by show¬0<own.length;omega))]
     exact a95
theorem oz (l:List Int):∀p,(l.foldl eU p).1.length<=p.1.length+l.length/\(l.foldl eU p).2.length<=p.2.length+l.length:=by
 induction l with
 |nil=>intro p;simp
 |cons c l ih=>
  intro p;have:=ih (eU p c)
  have h1:(eU p c).1.length<=p.1.length+1/\(eU p c).2.length<=p.2.length+1:=by
   unfold eU
   split
   ·simp
   ·split<;>simp
  simp only[qq,cJ];omega
def words (l:List UInt8):List (List UInt8):=((dN l++[32]).foldl eU ([],[])).2
theorem l4 (l:List UInt8):(words l).length<=l.length+1:=by
 have h:=(oz (dN l++[32]) ([],[])).2;have h2:=gU l;rw[bM]at h;have h3:([]:List (List UInt8)).length=0:=rfl;have h4: [(32:Int)].length=1:=rfl;unfold words;simp only[h3,h4]at h;omega
theorem xO {M:aM} {l:List UInt8} (w0:World) (hM:Lt M w0) (hl:l.length<=3900000):
  Spec Tryz.prog 182 #[.string ⟨l.toArray⟩] w0 (λv w=>(RT.str.sl).V M w (words l) v/\Step M w0 M w aC):=by
 have gv:=hM;refine bh (args:=[_]) (fn:=Tryz.f182) Tryz.func182 G (n:=23) Tryz.ntmps182 ?_;have S:Step M w0 M w0 aC:=aV;refine T.aQ (Rg.aZ G G (T.aQ ?_));refine ew M rA G (λwM T5 akA akB pw yv=>?_);obtain⟨Cp,zO⟩:∃M',M'=ins M wM:=⟨_,rfl⟩;rw[<-zO]at yv;have mK:Cp wM:=by rw[zO];exact .inl G
 change T5.heap[wM]? =some (.cells #[.slice none 0 0] _ _)at pw;replace hM:=yv.lt hM;have:=S.size;replace S:=S.aw yv;refine ad (T.aQ ?_);refine ew Cp qc G (λgN Yo akC akD Fw zP=>?_);obtain⟨OY,zQ⟩:∃M',M'=ins Cp gN:=⟨_,rfl⟩;rw[<-zQ]at zP;have zR:OY gN:=by rw[zQ];exact .inl G
 change Yo.heap[gN]? =some (.cells #[.slice none 0 0] _ _)at Fw;have:=ae pw;replace mK:=(zP.mem _ this).2 mK;replace pw:=zP.aF pw;replace hM:=zP.lt hM;have:=S.size;replace S:=S.aw zP;refine ad (T.aQ (iS (xs:=[]) (ys:=[.tmp 4,.tmp 3]) G G G (Rg.aZ G G (aL (T.aQ (ab G G ?_))))));refine aP G G aj0 (HV _ hM q0) (λv4 w4 hc=>?_);obtain⟨DD,s4⟩:=hc;have:=ae pw;replace mK:=(s4.mem _ this).2 mK;replace pw:=s4.aF pw;have:=ae Fw;replace zR:=(s4.mem _ this).2 zR;replace Fw:=s4.aF Fw;replace hM:=s4.lt hM;have:=S.size;replace S:=S.aw s4;refine bC az G DD G (ab G G (ad (aX ?_)));refine dd (σ:=Nat) (λk=>[(3,.pointer (some ⟨wM,0,none⟩)),(5,.func (.func 239) #[] #[.pointer (some ⟨gN,0,none⟩),.pointer (some ⟨wM,0,none⟩)]),(10,v4),(11,.int .i64 ((dN l).length:Int)),(12,.int .i64 (k:Int))]) (λk w=>∃M',Lt M' w/\Step M w0 M' w aC/\OS M' w w0.heap.size gN wM (((dN l).take k).foldl eU ([],[]))/\((RT.int .i64).sl).V M' w (dN l) v4/\k<=(dN l).length) (λk=>(dN l).length-k) 0 a56 ?_ ?_
 ·exact⟨_,hM,S,⟨⟨_,Fw,eL _ _ _ _ _⟩,⟨_,pw,eL _ _ _ _ _⟩,zR,mK,by omega,by omega⟩,DD,a8 _⟩
 ·rintro k w ⟨M1,hM,S,ht,DD,hk⟩;refine T.aQ (cx G G G (ad (aL ?_)));refine bE G (λc5=>?_) (λc5=>?_)
  ·refine aS (aL (aX (T.aQ ?_)));refine cC az I3 G G G DD bS q0 (λu6 c Nw uz=>?_);refine bV al G G uz bS (λin6=>?_);refine Rg.aZ G G (aH (ab G G (ab G G ?_)));have rK:=gU l;have Ht:=oz ((dN l).take k) ([],[]);rw[a7]at Ht;refine oS (first:=[]) (captured:=[.pointer (some ⟨gN,0,none⟩),.pointer (some ⟨wM,0,none⟩)]) rfl rfl rfl acE (zM (B:=w0.heap.size) _ hM c ht (by simp at Ht;omega)) (λr7 w7 hc=>?_);obtain⟨M2,J8,T6,s7⟩:=hc;have tk:(dN l).take (k+1)=(dN l).take k++[c]:=by rw[bY];simp only[ar]at Nw;rw[Nw];rfl
   refine ad (aH (bu G G G q0 (ab G G (ad ?_))));refine⟨G,k+1,a56,?_,?_⟩
   ·exact⟨M2,J8,S.mi s7 (bz _),by rw[tk,jb];exact T6,DD.le s7.le,by omega⟩
   ·omega
  ·refine cN (T.aQ (ab G G ?_));have rK:=gU l;have Ht:=oz ((dN l).take k) ([],[]);rw[a7]at Ht;refine oS (first:=[]) (captured:=[.pointer (some ⟨gN,0,none⟩),.pointer (some ⟨wM,0,none⟩)]) rfl rfl rfl acE (zM (B:=w0.heap.size) _ hM 32 ht (by simp at Ht;omega)) (λr9 w9 hc=>?_);obtain⟨M2,J8,T6,s9⟩:=hc;have e9:eU (((dN l).take k).foldl eU ([],[])) 32=(dN l++[32]).foldl eU ([],[]):=by rw[jb,bp q0];rfl
   rw[e9]at T6;obtain⟨_,⟨us,gs,hs⟩,_⟩:=T6;replace S:=S.mi s9 (bz _);refine ad (T.aQ (aR ax G G G gs G (Rg.aZ G G (aJ ?_))));exact aK G G ⟨yF gv S hs (by have:=l4 l;omega),S.back⟩
theorem zS {M:aM} {l:List UInt8} (w0:World) (hM:Lt M w0) (hl:l.length<=900000):Spec Tryz.prog 182 #[.string ⟨l.toArray⟩] w0 (λv w=>(RT.str.sl).V M w (words l) v/\Step M w0 M w aC):=xO w0 hM q0
theorem zT {p:List Int×List (List UInt8)} {c:Int} (h:ph c=true):eU p c=(p.1++[ez c],p.2):=if_pos (by simpa[ph]using h)
theorem kP {p:List Int×List (List UInt8)} {c:Int} (h:ph c=false):eU p c=if 0<p.1.length then([],p.2++[ic p.1])else([],p.2):=if_neg (by simpa[ph]using h)
def Nx (sg:List Int) (i:Nat) (ws:List (List UInt8)):Prop:=(i<=sg.length/\(sg.take i).foldl eU ([],[])=([],ws))\/(i=sg.length+1/\((sg++[32]).foldl eU ([],[])).2=ws)
theorem OZ {c:Int} (h:ph c=true):0<=c/\c<=1114111:=qP (by simpa[ph]using h)
theorem O0:ph 32=false:=by decide
theorem wN {sg:List Int} {i:Nat} {c:Int} (h:sg[i]? =some c) (p:List Int×List (List UInt8)):(sg.take (i+1)).foldl eU p=eU ((sg.take i).foldl eU p) c:=by
 rw[bY,h,dp,jb];rfl
theorem Nx.skip {sg:List Int} {i:Nat} {ws:List (List UInt8)} {c:Int} (h:Nx sg i ws) (hc:sg[i]? =some c) (hi:ph c=false):Nx sg (i+1) ws:=by
 have eZ:=(an.1 hc).1;rcases h with⟨_,h⟩|⟨h,_⟩
 ·exact .inl ⟨eZ,by rw[wN hc,h,kP hi];rfl⟩
 ·omega
theorem Nx.word {sg:List Int} {j:Nat} {own:List Int} {ws:List (List UInt8)} (h:(sg.take j).foldl eU ([],[])=(own,ws)) (ho:0<own.length) (hj:j<=sg.length) (hn:∀c,sg[j]? =some c->ph c=false):Nx sg (j+1) (ws++[ic own]):=by
 rcases qx hj with e|eZ
 ·refine .inr ⟨by omega,?_⟩;rw[e,vU]at h;rw[jb,h];show(eU (own,ws) 32).2=_;rw[kP O0,if_pos ho]
 ·have hc:sg[j]? =some sg[j]:=aq eZ;exact .inl ⟨eZ,by rw[wN hc,h,kP (hn _ hc),if_pos ho]⟩
theorem Nx.done {sg:List Int} {i:Nat} {ws:List (List UInt8)} (h:Nx sg i ws) (hi:sg.length<=i):((sg++[32]).foldl eU ([],[])).2=ws:=by
 rcases h with⟨h1,h⟩|⟨_,h⟩
 ·rw[bp q0]at h;rw[jb,h];show(eU ([],ws) 32).2=_;rw[kP O0];rfl
 ·exact h
theorem Nx.len {sg:List Int} {i:Nat} {ws:List (List UInt8)} (h:Nx sg i ws):ws.length<=sg.length+1:=by
 rcases h with⟨_,h⟩|⟨_,h⟩
 ·have:=(oz (sg.take i) ([],[])).2;rw[h,a7]at this;simp only[j5]at this;have e:(([]:List Int),([]:List (List UInt8))).2.length=0:=rfl;omega
 ·have:=(oz (sg++[32]) ([],[])).2;rw[h,bM]at this;have e:(([]:List Int),([]:List (List UInt8))).2.length=0:=rfl;have e2: [(32:Int)].length=1:=rfl;omega
theorem gX {sg:List Int} {j:Nat} {own:List Int} {ws:List (List UInt8)} (h:(sg.take j).foldl eU ([],[])=(own,ws)):own.length<=sg.length/\ws.length<=sg.length:=by
 have:=oz (sg.take j) ([],[]);rw[h,a7]at this;simp only[j5]at this;have e:(([]:List Int),([]:List (List UInt8))).1.length=0:=rfl;have e2:(([]:List Int),([]:List (List UInt8))).2.length=0:=rfl;omega
theorem xQ {M:aM} {l:List UInt8} (w0:World) (hM:Lt M w0) (hl:l.length<=900000):
  Spec Tryz.prog 122 #[.string ⟨l.toArray⟩] w0 (λv w=>(RT.str.sl).V M w (words l) v/\Step M w0 M w aC):=by
 have gv:=hM;have rK:=gU l;refine bh (args:=[_]) (fn:=Tryz.f122) Tryz.func122 G (n:=50) Tryz.ntmps122 ?_;have S:Step M w0 M w0 aC:=aV;refine T.aQ (Rg.aZ G G (T.aQ (ab G G ?_)));refine aP G G X0 (xN _ hM q0) (λv1 w1 hc=>?_);obtain⟨hv,s1⟩:=hc;replace hM:=s1.lt hM;have:=S.size;replace S:=S.aw s1;refine Rg.aZ G G (T.aQ (Rg.aZ G G (aL (T.aQ (Rg.aZ G G (aX ?_))))));refine dd (σ:=Nat×Value) (λq=>[(3,v1),(4,q.2),(5,.int .i64 (q.1:Int))]) (λq w=>∃M' ws,Lt M' w/\Step M w0 M' w aC/\Own RT.str 9 M' w w0.heap.size q.2 ws/\((RT.int .i64).sl).V M' w (dN l) v1/\Nx (dN l) q.1 ws) (λq=>(dN l).length+1-q.1) (0,.slice none 0 0) a07 ?_ ?_
 ·exact⟨M,[],hM,S,eL _ _ _ _ _,hv,.inl ⟨a8 _,G⟩⟩
 ·rintro⟨i,u4⟩ w ⟨M1,ws,hM,S,uA,hv,hwa⟩;dsimp only at uA hwa ⊢;refine aL (T.aQ (ab G G (ab G G (bC az G hv G (cx G G G (ad ?_))))));refine bE G (λc4=>?_) (λc4=>?_)
  ·refine aS (aL (aX (T.aQ (ab G G (ab G G ?_)))));refine cC az I3 G G G hv bS q0 (λac5 c hgc huc=>?_);refine bV al G G huc bS (λinc=>?_);rw[ar]at hgc;refine aP G G X1 (zG c _) (λr wc hc=>?_);obtain⟨rfl,rfl⟩:=hc;refine bg (v':= .bool (decide (ph c=true))) (by cases ph c<;>rfl) (Rg.aZ rfl rfl (aL (T.aQ (ab rfl rfl (fV rfl rfl (bg (v':= .bool (decide (ph c=false))) (by cases ph c<;>rfl) (ad ?_)))))));refine bE G (λc7=>?_) (λc7=>?_)
   ·refine cN (aH (ab G G (bu G G G q0 (Rg.aZ G G ?_))));refine⟨G,(i+1,u4),a07,?_,?_⟩
    ·exact⟨M1,ws,hM,S,uA,hv,hwa.skip hgc Xf⟩
    ·dsimp only;omega
   ·refine aS (T.aQ (Rg.aZ G G (aL (aX ?_))));refine dd (σ:=Nat×List Int×Value) (λq=>[(3,v1),(4,u4),(5,.int .i64 (q.1:Int)),(7,q.2.2)]) (λq w=>∃M',Lt M' w/\Step M w0 M' w aC/\Own RT.str 9 M' w w0.heap.size u4 ws/\Own (RT.int .i64) 3 M' w w0.heap.size q.2.2 q.2.1/\((RT.int .i64).sl).V M' w (dN l) v1/\((dN l).take q.1).foldl eU ([],[])=(q.2.1,ws)/\i<=q.1/\q.1<=(dN l).length/\(i<q.1->0<q.2.1.length)) (λq=>(dN l).length-q.1) (i,[],.slice none 0 0) a00 ?_ ?_
    ·have akE:((dN l).take i).foldl eU ([],[])=([],ws):=by
      rcases hwa with⟨_,h⟩|⟨h,_⟩
      ·exact h
      ·omega
     exact⟨M1,hM,S,uA,eL _ _ _ _ _,hv,akE,bz _,by dsimp only;omega,λh=>absurd h (jC _)⟩
    ·rintro⟨j,own,u7⟩ w ⟨M2,hM,S,uA,tP,hv,hf,XO,wu,sV⟩;dsimp only at tP hf XO wu sV ⊢;refine aL (T.aQ (ab G G (ab G G (bC az G hv G (cx G G G (ab G G ?_))))));refine aO (g:=27) G (λakF=>?_) (λakF=>?_)
     ·refine ah G G (ab G G (ah G G (ab G G (ah G G ?_))));refine cC az I3 G G G hv bS q0 (λauK d xR hud=>?_);refine ah G G ?_;refine bV al G G hud bS (λind=>?_);rw[ar]at xR;refine ah G G ?_;refine aP G G X1 (zG d _) (λr wc hc=>?_);obtain⟨rfl,rfl⟩:=hc;refine bg (v':= .bool (decide (ph d=true))) (by cases ph d<;>rfl) (aU rfl rfl rfl (ad ?_));refine bE G (λc9=>?_) (λc9=>?_)
      ·refine aS (aX (T.aQ (ab G G (ab G G (ab G G ?_)))));refine cC az I3 G G G hv bS q0 (λac6 e tS hue=>?_);refine bV al G G hue bS (λnc=>?_);rw[ar]at tS;have Yp:ph e=true:=by rw[xR]at tS;cases tS;assumption
       refine aP G G acD (zF e _ (OZ Yp)) (λr wc hc=>?_);obtain⟨rfl,rfl⟩:=hc;refine fz (A:=RT.int .i64) (hn:=by decide) (M:=M2) az I3 Tg G G hM (hU (by have:=OZ Yp;unfold ez;split<;>omega)) (.inr ⟨rfl,rfl⟩) (λaqw aqx HX Fx=>?_);replace hv:=hv.le Fx.le;replace uA:=uA.bP Fx;replace tP:=tP.bP Fx;replace hM:=Fx.lt hM;have:=S.size;replace S:=S.aw Fx;refine dJ (M:=M2) (base:=w0.heap.size) az I3 G G G G tP HX bS ah1 ah1 (S.size) (λV6 ac7 ac8 Yq pY=>?_);replace hv:=hv.le pY.le;replace HX:=HX.le pY.le;replace uA:=uA.step pY (λb h1 h2=>uA.jy tP Tg h1 h2);replace hM:=pY.lt hM;have:=S.size;replace S:=S.dX pY tP (bz _);replace tP:=Yq;refine Rg.aZ G G (aH (ab G G (bu G G G q0 (Rg.aZ G G ?_))));refine⟨G,(j+1,own++[ez e],V6),a00,?_,?_⟩
       ·exact⟨ac7,hM,S,uA,tP,hv,by rw[wN tS,hf,zT Yp],by dsimp only;omega,by dsimp only;omega,λ_=>by simp⟩
       ·dsimp only;omega
      ·refine cN (aH (ab G G (ab G G ?_)));refine aP G G X3 (tn (M:=rm M2 u7) _ (λb hb=>hM b hb.1) (tP.view (by have:=gX hf;omega)) (by have:=gX hf;omega)) (λr12 LK O1=>?_);obtain⟨rfl,lW⟩:=O1;replace lW:=lW.any M2;replace hv:=hv.le lW.le;replace uA:=uA.bP lW;replace tP:=tP.bP lW;replace hM:=lW.lt hM;have:=S.size;replace S:=S.aw lW;refine fz (A:=RT.str) (hn:=by decide) (M:=M2) ax I9 Tg G G hM (mc.2 ⟨G,by have:=gE own;have:=gX hf;omega⟩) (.inr ⟨rfl,rfl⟩) (λac9 ada tp qQ=>?_);replace hv:=hv.le qQ.le;replace uA:=uA.bP qQ;replace tP:=tP.bP qQ;replace hM:=qQ.lt hM;have:=S.size;replace S:=S.aw qQ;refine dJ (M:=M2) (base:=w0.heap.size) ax I9 G G G G uA tp bS ah1 ah1 (S.size) (λzU qR O2 tq fE=>?_);replace hv:=hv.le fE.le;replace tp:=tp.le fE.le;replace tP:=tP.step fE (λb h1 h2=>tP.jy uA Tg h1 h2);replace hM:=fE.lt hM;have:=S.size;replace S:=S.dX fE uA (bz _);replace uA:=tq;refine Rg.aZ G G (aH (ab G G (bu G G G q0 (Rg.aZ G G ?_))))
       have sV:0<own.length:=by
        rcases qx XO with e|h
        ·exfalso;subst e
         first|omega|(rw[hgc]at xR;cases xR;exact c9 (by cases hq:ph c with|true=>rfl|false=>exact absurd hq Xf))
        ·exact sV h
       have LL:∀c,(dN l)[j]? =some c->ph c=false:=λc hc=>by
        first|(rw[cM q0]at hc;cases hc)|(rw[xR]at hc;cases hc;exact fh.2 c9)
       refine⟨G,(j+1,zU),a07,?_,?_⟩
       ·exact⟨qR,_,hM,S,uA,hv,Nx.word hf sV wu LL⟩
       ·dsimp only;omega
     ·refine aj G G G G (aj G G G G (aj G G G G (aj G G G G (aj G G G G (aB G G G (ad (jF G (cN (aH (ab G G (ab G G ?_)))))))))));refine aP G G X3 (tn (M:=rm M2 u7) _ (λb hb=>hM b hb.1) (tP.view (by have:=gX hf;omega)) (by have:=gX hf;omega)) (λr12 LK O1=>?_);obtain⟨rfl,lW⟩:=O1;replace lW:=lW.any M2;replace hv:=hv.le lW.le;replace uA:=uA.bP lW;replace tP:=tP.bP lW;replace hM:=lW.lt hM;have:=S.size;replace S:=S.aw lW;refine fz (A:=RT.str) (hn:=by decide) (M:=M2) ax I9 Tg G G hM (mc.2 ⟨G,by have:=gE own;have:=gX hf;omega⟩) (.inr ⟨rfl,rfl⟩) (λac9 ada tp qQ=>?_);replace hv:=hv.le qQ.le;replace uA:=uA.bP qQ;replace tP:=tP.bP qQ;replace hM:=qQ.lt hM;have:=S.size;replace S:=S.aw qQ;refine dJ (M:=M2) (base:=w0.heap.size) ax I9 G G G G uA tp bS ah1 ah1 (S.size) (λzU qR O2 tq fE=>?_);replace hv:=hv.le fE.le;replace tp:=tp.le fE.le;replace tP:=tP.step fE (λb h1 h2=>tP.jy uA Tg h1 h2);replace hM:=fE.lt hM;have:=S.size;replace S:=S.dX fE uA (bz _);replace uA:=tq;refine Rg.aZ G G (aH (ab G G (bu G G G q0 (Rg.aZ G G ?_))))
      have sV:0<own.length:=by
       rcases qx XO with e|h
       ·exfalso;subst e
        first|omega|(rw[hgc]at xR;cases xR;exact c9 (by cases hq:ph c with|true=>rfl|false=>exact absurd hq Xf))
       ·exact sV h
      have LL:∀c,(dN l)[j]? =some c->ph c=false:=λc hc=>by
       first|(rw[cM q0]at hc;cases hc)|(rw[xR]at hc;cases hc;exact fh.2 c9)
      refine⟨G,(j+1,zU),a07,?_,?_⟩
      ·exact⟨qR,_,hM,S,uA,hv,Nx.word hf sV wu LL⟩
      ·dsimp only;omega
  ·refine cN (T.aQ (ab G G (Rg.aZ G G (aJ ?_))));have e:=hwa.done q0;have e2:words l=ws:=e;rw[e2];exact aK G G ⟨uA.close gv S (by have:=hwa.len;omega),S.back⟩
def mL:Nat->List (List UInt8)->Int
 |_,[]=>0
 |i,w::ws=>if 30<w.length then 3 else if 500<=i then 7 else mL (i+1) ws
theorem J9 {i k:Nat} {ws:List (List UInt8)} {x:List UInt8} (h:ws[k]? =some x):mL i (ws.drop k)=if 30<x.length then 3 else if 500<=i then 7 else mL (i+1) (ws.drop (k+1)):=by
 have eZ:=(an.1 h).1;rw[fp eZ,(an.1 h).2];rfl
theorem dS {M:aM} {w:World} {x:List UInt8} {v:Value} (h:RT.str.V M w x v):v= .string ⟨x.toArray⟩:=(mc.1 h).1
theorem LM {M:aM} {l:List UInt8} (w0:World) (hM:Lt M w0) (hl:l.length<=900000):
  Spec Tryz.prog 138 #[.string ⟨l.toArray⟩] w0 (λv w=>(∃u,v= .tuple #[u,.int .i64 (mL 0 (words l))]/\(mL 0 (words l)=0->∃a cap,u= .slice a (words l).length cap))/\Step M w0 M w aC):=by
 have gv:=hM;refine bh (args:=[_]) (fn:=Tryz.f138) Tryz.func138 G (n:=30) Tryz.ntmps138 ?_;have S:Step M w0 M w0 aC:=aV;refine T.aQ (aN G G (Rg.aZ G G (T.aQ (Rg.aZ G G (aL (T.aQ ?_))))));refine ab G G ?_;refine aP G G X4 (zS _ hM hl) (λv1 w1 hc=>?_);obtain⟨hv,s1⟩:=hc;replace hM:=s1.lt hM;have:=S.size;replace S:=S.aw s1;refine bC ax G hv G (ab G G (ad (aX ?_)));refine dd (σ:=Nat×Value) (λq=>[(8,v1),(4,q.2),(9,.int .i64 ((words l).length:Int)),(10,.int .i64 (q.1:Int))]) (λq w=>(∃M' xs,Lt M' w/\Step M w0 M' w aC/\Own (RT.pair RT.str (RT.int .i64)) 218 M' w w0.heap.size q.2 xs/\xs.length=q.1/\(RT.str.sl).V M' w (words l) v1)/\mL 0 (words l)=mL q.1 ((words l).drop q.1)/\q.1<=(words l).length/\q.1<=500) (λq=>(words l).length-q.1) (0,.slice none 0 0) a00 ?_ ?_
 ·exact⟨⟨M,[],hM,S,eL _ _ _ _ _,G,hv⟩,G,a8 _,a8 _⟩
 ·rintro⟨i,u⟩ w ⟨⟨M1,xs,hM,S,ho,xF,hv⟩,Ln,hi,hi5⟩;dsimp only at ho xF Ln hi hi5 ⊢;refine T.aQ (cx G G G (ad (aL ?_)));refine bE G (λc3=>?_) (λc3=>?_)
  ·refine aS (aL (aX (T.aQ (ab G G ?_))));refine cC ax I9 G G G hv bS q0 (λadb x Ka hux=>?_);refine bB aA G G G G G hux bS (λvx zV=>?_);rw[ar]at Ka;obtain rfl:=dS zV;have ht:=J9 (i:=i) Ka;refine aN G G (Rg.aZ G G (aL (aX (T.aQ (ab G G (sI aA G G (bg (v':= .int .i64 (x.length:Int)) a84 (eR G G G (aN G G ?_)))))))));refine ad ?_;refine bE G (λc5=>?_) (λc5=>?_)
   ·refine T.aQ (aN G G (Rg.aZ G G (aJ ?_)));rw[Ln,ht,if_pos q0];exact ad5
   ·refine T.aQ (ab G G (fe G G G (Rg.aZ G G ?_)));refine bE G (λc7=>?_) (λc7=>?_)
    ·refine T.aQ (aN G G (Rg.aZ G G (aJ ?_)));rw[Ln,ht,if_neg q0,if_pos q0];exact ad5
    ·refine aS (aH (ab rfl rfl (ab rfl rfl (ab rfl rfl (dw (places:=[(0,1),(1,1)]) Tryz.underlying218 LB acA rfl ⟨_,_,rfl,rfl,_,_,rfl,rfl,rfl⟩ (out:=[_,_]) ⟨0,[_],rfl,rfl,by simp[Value.cells],1,[_],rfl,rfl,by simp[Value.cells],rfl⟩ ?_)))));refine fz (A:=(RT.pair RT.str (RT.int .i64))) (hn:=by decide) (M:=M1) Tryz.underlying154 LB Tg G G hM (fJ zV (hU (x:=(i:Int)) q0) G G G G) (.inl G) (λacU akl O3 BJ=>?_);replace hv:=hv.le BJ.le;replace zV:=zV.le BJ.le;replace ho:=ho.bP BJ;replace hM:=BJ.lt hM;have:=S.size;replace S:=S.aw BJ;refine dJ (M:=M1) (base:=w0.heap.size) Tryz.underlying154 LB rfl rfl rfl rfl ho O3 bS a11 a11 (S.size) (λakI akJ ade adf qS=>?_);replace hv:=hv.le qS.le;replace zV:=zV.le qS.le;replace O3:=O3.le qS.le;replace hM:=qS.lt hM;have:=S.size;replace S:=S.dX qS ho (bz _);replace ho:=adf;refine Rg.aZ G G (aH (bu G G G q0 (ab G G (ad ?_))));refine⟨G,(i+1,akI),a00,?_,?_⟩
     ·exact⟨⟨akJ,_,hM,S,ho,by simp[xF],hv⟩,by rw[Ln,ht,if_neg q0,if_neg q0],by dsimp only;omega,by dsimp only;omega⟩
     ·dsimp only;omega
  ·refine cN (T.aQ (ab G G (aN G G (Rg.aZ G G (aJ ?_)))));have e:mL 0 (words l)=0:=by rw[Ln,jw q0];rfl
   rw[e];obtain⟨a,cap,he,_⟩:=ho.isSlice;exact fA rfl rfl rfl ⟨⟨u,rfl,λ_=>⟨a,cap,by rw[he,xF];congr 1;omega⟩⟩,S.back⟩
theorem HY {M:aM} {l:List UInt8} (w0:World) (hM:Lt M w0) (hl:l.length<=900000):
  Spec Tryz.prog 74 #[.string ⟨l.toArray⟩] w0 (λv w=>(∃u,v= .tuple #[u,.int .i64 (mL 0 (words l))]/\(mL 0 (words l)=0->∃a cap,u= .slice a (words l).length cap))/\Step M w0 M w aC):=by
 have gv:=hM;refine bh (args:=[_]) (fn:=Tryz.f74) Tryz.func74 G (n:=33) Tryz.ntmps74 ?_;have S:Step M w0 M w0 aC:=aV;refine T.aQ (aN G G (Rg.aZ G G (T.aQ (ab G G ?_))));refine aP G G acB (xQ _ hM hl) (λv1 w1 hc=>?_);obtain⟨hv,s1⟩:=hc;replace hM:=s1.lt hM;have:=S.size;replace S:=S.aw s1;refine Rg.aZ G G (T.aQ (Rg.aZ G G (aL (T.aQ (Rg.aZ G G (aX ?_))))));refine dd (σ:=Nat×Value) (λq=>[(4,v1),(5,q.2),(6,.int .i64 (q.1:Int))]) (λq w=>(∃M' xs,Lt M' w/\Step M w0 M' w aC/\Own (RT.pair RT.str (RT.int .i64)) 218 M' w w0.heap.size q.2 xs/\xs.length=q.1/\(RT.str.sl).V M' w (words l) v1)/\mL 0 (words l)=mL q.1 ((words l).drop q.1)/\q.1<=(words l).length/\q.1<=500) (λq=>(words l).length-q.1) (0,.slice none 0 0) a07 ?_ ?_
 ·exact⟨⟨M,[],hM,S,eL _ _ _ _ _,G,hv⟩,G,a8 _,a8 _⟩
 ·rintro⟨i,u⟩ w ⟨⟨M1,xs,hM,S,ho,xF,hv⟩,Ln,hi,hi5⟩;dsimp only at ho xF Ln hi hi5 ⊢;refine aL (T.aQ (ab G G (ab G G (bC ax G hv G (cx G G G (ad ?_))))));refine bE G (λc4=>?_) (λc4=>?_)
  ·refine aS (aL (aX (aL (T.aQ (ab G G (ab G G ?_))))));refine cC ax I9 G G G hv bS q0 (λac5 x Ka hux=>?_);refine bB aA G G G G G hux bS (λvx zV=>?_);rw[ar]at Ka;obtain rfl:=dS zV;have ht:=J9 (i:=i) Ka;refine sI aA G G (bg (v':= .int .i64 (x.length:Int)) a84 (eR G G G (ad ?_)));refine bE G (λc6=>?_) (λc6=>?_)
   ·refine T.aQ (aN G G (Rg.aZ G G (aJ ?_)));rw[Ln,ht,if_pos q0];exact ad5
   ·refine aS (aL (T.aQ (ab G G (eB G G G (ad ?_)))));refine bE G (λc8=>?_) (λc8=>?_)
    ·refine T.aQ (aN G G (Rg.aZ G G (aJ ?_)));rw[Ln,ht,if_neg q0,if_pos q0];exact ad5
    ·refine aS (aH (ab G G (ab G G (ab G G ?_))));refine cC ax I9 G G G hv bS q0 (λac6 y LN huy=>?_);refine bB aA G G G G G huy bS (λvy hvy=>?_);rw[ar]at LN;obtain rfl:=dS hvy;obtain rfl:x=y:=by rw[Ka]at LN;exact aI LN
     refine ab rfl rfl (dw (places:=[(0,1),(1,1)]) Tryz.underlying218 LB acA rfl ⟨_,_,rfl,rfl,_,_,rfl,rfl,rfl⟩ (out:=[_,_]) ⟨0,[_],rfl,rfl,by simp[Value.cells],1,[_],rfl,rfl,by simp[Value.cells],rfl⟩ ?_);refine fz (A:=(RT.pair RT.str (RT.int .i64))) (hn:=by decide) (M:=M1) Tryz.underlying154 LB Tg G G hM (fJ hvy (hU (x:=(i:Int)) q0) G G G G) (.inl G) (λV6 ac8 HZ pY=>?_);replace hv:=hv.le pY.le;replace zV:=zV.le pY.le;replace hvy:=hvy.le pY.le;replace ho:=ho.bP pY;replace hM:=pY.lt hM;have:=S.size;replace S:=S.aw pY;refine dJ (M:=M1) (base:=w0.heap.size) Tryz.underlying154 LB rfl rfl rfl rfl ho HZ bS a11 a11 (S.size) (λadg adh Kb Yr gO=>?_);replace hv:=hv.le gO.le;replace zV:=zV.le gO.le;replace hvy:=hvy.le gO.le;replace HZ:=HZ.le gO.le;replace hM:=gO.lt hM;have:=S.size;replace S:=S.dX gO ho (bz _);replace ho:=Yr;refine Rg.aZ G G (aH (ab G G (bu G G G q0 (Rg.aZ G G ?_))));refine⟨G,(i+1,adg),a07,?_,?_⟩
     ·exact⟨⟨adh,_,hM,S,ho,by simp[xF],hv⟩,by rw[Ln,ht,if_neg q0,if_neg q0],by dsimp only;omega,by dsimp only;omega⟩
     ·dsimp only;omega
  ·refine cN (T.aQ (ab G G (aN G G (Rg.aZ G G (aJ ?_)))));have e:mL 0 (words l)=0:=by rw[Ln,jw q0];rfl
   rw[e];obtain⟨a,cap,he,_⟩:=ho.isSlice;exact fA rfl rfl rfl ⟨⟨u,rfl,λ_=>⟨a,cap,by rw[he,xF];congr 1;omega⟩⟩,S.back⟩
end Go.K
namespace Go.Proofs
open Go.Shelf
def Tryz.Fy:Go.Shelf.Ren:=⟨fun|160=>183|232=>246|231=>245|227=>247|234=>249|233=>248|236=>251|235=>250|228=>283|271=>286|151=>285|197=>284|120=>311|152=>310|260=>309|137=>319|119=>308|224=>320|225=>321|217=>323|266=>324|n=>n,fun|9=>9|4=>4|3=>3|5=>5|117=>340|116=>339|0=>0|124=>343|21=>21|105=>373|46=>262|119=>401|139=>404|138=>403|n=>n,fun|3=>2|4=>3|n=>n⟩
theorem Tryz.T7:Go.Proofs.Lays.n160 Tryz.prog Tryz.Fy:={
 mixed:=by kernel_rfl
 f119:=Tryz.func308.trans a03
 f120:=Tryz.func311.trans a03
 f137:=Tryz.func319.trans a03
 f151:=Tryz.func285.trans a03
 f152:=Tryz.func310.trans a03
 f160:=Tryz.func183.trans a03
 f197:=Tryz.func284.trans a03
 f217:=Tryz.func323.trans a03
 f224:=Tryz.func320.trans a03
 f225:=Tryz.func321.trans a03
 f227:=Tryz.func247.trans a03
 f228:=Tryz.func283.trans a03
 f231:=Tryz.func245.trans a03
 f232:=Tryz.func246.trans a03
 f233:=Tryz.func248.trans a03
 f234:=Tryz.func249.trans a03
 f235:=Tryz.func250.trans a03
 f236:=Tryz.func251.trans a03
 f260:=Tryz.func309.trans a03
 f266:=Tryz.func324.trans a03
 f271:=Tryz.func286.trans a03
 t0:=By
 a0:=Tryz.isAgg0
 z0:=Tryz.sizeOf0
 v0:=Tryz.zeroValue0
 t3:=al
 a3:=Tryz.isAgg3
 z3:=Tryz.sizeOf3
 v3:=Tryz.zeroValue3
 t4:=gQ
 a4:=Tryz.isAgg4
 z4:=Tryz.sizeOf4
 v4:=Tryz.zeroValue4
 t5:=db
 a5:=Tryz.isAgg5
 z5:=Tryz.sizeOf5
 v5:=Tryz.zeroValue5
 t9:=aA
 a9:=Tryz.isAgg9
 z9:=Bz
 v9:=nN
 t21:=Tryz.underlying21
 a21:=Tryz.isAgg21
 z21:=Tryz.sizeOf21
 v21:=Tryz.zeroValue21
 t46:=Tryz.underlying262
 a46:=Tryz.isAgg262
 z46:=Tryz.sizeOf262
 v46:=Tryz.zeroValue262
 t105:=Tryz.underlying373
 a105:=Tryz.isAgg373
 z105:=Tryz.sizeOf373
 v105:=Tryz.zeroValue373
 t116:=Tryz.underlying339
 a116:=Tryz.isAgg339
 z116:=Tryz.sizeOf339
 t117:=Tryz.underlying340
 a117:=Tryz.isAgg340
 z117:=Tryz.sizeOf340
 v117:=Tryz.zeroValue340
 t119:=Tryz.underlying401
 a119:=Tryz.isAgg401
 z119:=Tryz.sizeOf401
 t124:=Tryz.underlying343
 a124:=Tryz.isAgg343
 z124:=Tryz.sizeOf343
 v124:=Tryz.zeroValue343
 t138:=Tryz.underlying403
 a138:=Tryz.isAgg403
 z138:=Tryz.sizeOf403
 v138:=Tryz.zeroValue403
 t139:=Tryz.underlying404
 a139:=Tryz.isAgg404
 z139:=Tryz.sizeOf404
 v139:=Tryz.zeroValue404
 g3:=by kernel_rfl
 g4:=by kernel_rfl}
end Go.Proofs
namespace Go.K
open Go.Proofs
set_option maxRecDepth 10000
open Go.RowKit Go.Shelf
def lX:List UInt8:=[97,98,99,100,101,102,103,104,105,106,107,108,109,110,111,112,113,114,115,116,117,118,119,120,121,122]
def iF (b:UInt8):Bool:=decide (97<=b.toNat/\b.toNat<=122)
def eA (s:List UInt8):Bool:=decide (1<=s.length/\s.length<=12)&&s.all iF
theorem Fz (b:UInt8):lX.contains b=iF b:=by
 have key:∀n:Fin 256,lX.contains (UInt8.ofNat n)=iF (UInt8.ofNat n):=by decide
 have:=key ⟨b.toNat,UInt8.toNat_lt b⟩;simpa using this
theorem drop_nil {α:Type} (p:α->Bool):∀l:List α,l.dropWhile p=[]↔∀x∈l,p x=true
 |[]=>by simp
 |x::l=>by
  rw[List.dropWhile_cons];by_cases h:p x=true
  ·rw[if_pos h,drop_nil p l];simp[h]
  ·rw[if_neg h];simp[h]
theorem zW (s:List UInt8):Lib.trimS s lX=[]↔s.all iF=true:=by
 have e:(λb=>lX.contains b)=iF:=funext Fz;unfold Lib.trimS Lib.trimLeftS Lib.trimRightS;rw[e,drop_nil,dZ];constructor
 ·intro h
  have h2:s.reverse.dropWhile iF=[]:=by
   cases hd:s.reverse.dropWhile iF with
   |nil=>rfl
   |cons x r=>
    have h3:=h x (by rw[hd];simp);have h4:=List.head?_dropWhile_not iF s.reverse;rw[hd]at h4;simp[h3]at h4
  intro x hx;exact(drop_nil _ _).1 h2 x (List.mem_reverse.2 hx)
 ·intro h x hx;rw[(drop_nil iF s.reverse).2 (λy hy=>h y (List.mem_reverse.1 hy))]at hx
  cases hx
theorem LO (s:List UInt8) (hs:s.length<=140737488355328) (w:World):Spec Tryz.prog 183 #[.string ⟨s.toArray⟩,.string ⟨lX.toArray⟩] w (λv w'=>v= .string ⟨(Lib.trimS s lX).toArray⟩/\∀M,Step M w M w' aC):=
 (Any.strings_Trim_ascii Tryz.T7 Tryz.zeroValue339 ai6 ⟨s.toArray⟩ ⟨lX.toArray⟩ w (by simp[ByteArray.size];omega) Tg (λj b hj=>by
  have hm:b∈lX:=av hj;have:=Fz b;rw[gj.2 hm]at this;have h2:97<=b.toNat/\b.toNat<=122:=by simpa[iF]using this.symm
  omega)).mono λe w' ⟨h1,h2⟩=>⟨_,h1,rfl,λM=> .Dw h2 M⟩
theorem wO (s:List UInt8) (hs:s.length<=140737488355328) (w0:World):
  Spec Tryz.prog 139 #[.string ⟨s.toArray⟩] w0 (λv w=>v= .bool (eA s)/\∀M,Step M w0 M w aC):=by
 refine bh (args:=[_]) (fn:=Tryz.f139) Tryz.func139 G (n:=15) Tryz.ntmps139 (T.aQ (Rg.aZ G G (T.aQ (ab G G (Rg.EM (p:=s) (q:=[]) G G G (ab G G ?_))))));refine aO (g:=5) G (λiO=>?_) (λiO=>?_)
 ·refine ah G G (ab G G (ah G G (sI aA G G (bg (v':= .int .i64 (s.length:Int)) a84 (ah G G (fM G G G (aU G G G (ab G G ?_))))))));refine aO (g:=10) G (λakK=>?_) (λakK=>?_)
  ·refine ah G G (ab G G (ah G G ?_));refine aP G G ajO (LO s hs _) (λr w9 hc=>?_);obtain⟨rfl,s9⟩:=hc;refine ah G G (Rg.tT (p:=Lib.trimS s lX) (q:=[]) G G G (aU G G G (Rg.aZ G G (aJ ?_))))
   first
   |exact aK rfl rfl ⟨by rw[eA,decide_eq_true (p:=1<=s.length/\s.length<=12) ⟨dC.2 iO,by omega⟩,dr];exact congrArg Value.bool (by rw[j6,decide_eq_true_eq];exact zW s),s9⟩
   |exact ab4
   |(have Ys:s=[]:=Classical.not_not.1 iO
     subst Ys;exact aK G G ⟨G,λM=>aV⟩)
  ·refine aj G G G G (aj G G G G (aj G G G G (aB G G G (Rg.aZ G G (aJ ?_)))))
   first
   |exact aK rfl rfl ⟨by rw[eA,decide_eq_true (p:=1<=s.length/\s.length<=12) ⟨dC.2 iO,by omega⟩,dr];exact congrArg Value.bool (by rw[j6,decide_eq_true_eq];exact zW s),s9⟩
   |exact ab4
   |(have Ys:s=[]:=Classical.not_not.1 iO
     subst Ys;exact aK G G ⟨G,λM=>aV⟩)
 ·refine aj G G G G (aj G G G G (aj G G G G (aB G G G (ab G G (aj G G G G (aj G G G G (aj G G G G (aB G G G (Rg.aZ G G (aJ ?_))))))))))
  first
  |exact aK rfl rfl ⟨by rw[eA,decide_eq_true (p:=1<=s.length/\s.length<=12) ⟨dC.2 iO,by omega⟩,dr];exact congrArg Value.bool (by rw[j6,decide_eq_true_eq];exact zW s),s9⟩
  |exact ab4
  |(have Ys:s=[]:=Classical.not_not.1 iO
    subst Ys;exact aK G G ⟨G,λM=>aV⟩)
theorem O4 {s:List UInt8} (h:∀(k:Nat) c,s[k]? =some c->iF c=true):s.all iF=true:=dZ.2 λc hc=>by
 obtain⟨k,hk⟩:=bK.1 hc;exact h k c hk
theorem uB {s:List UInt8} {i:Nat} (h:i<s.length):s[i]? =some (s.getD i 0):=by rw[cg,aq h];rfl
theorem kQ {M:aM} {w:World} {p:Fd} {v:Value} (h:RT.fd.V M w p v):v= .agg #[.string ⟨p.1.toArray⟩,.string ⟨p.2.toArray⟩]:=by
 obtain⟨vs,⟨va,vb,rfl,⟨rfl,_⟩,⟨rfl,_⟩⟩,rfl⟩:=h;rfl
theorem O5 {M:aM} {w:World} {p:Fd} {v:Value} (h:RT.fd.V M w p v):p.1.length<=140737488355328/\p.2.length<=140737488355328:=by
 obtain⟨vs,⟨va,vb,rfl,⟨rfl,h1⟩,⟨rfl,h2⟩⟩,_⟩:=h;exact⟨h1,h2⟩
def BK:List Fd->List Fd->Nat->Int
 |_,[],n=>if 500<n then 7 else 0
 |seen,f::fs,n=>if eA f.1=false then 4 else if(seen.any λg=>decide (g.1=f.1))=true then 5 else if mL 0 (words f.2)≠0 then mL 0 (words f.2)else BK (seen++[f]) fs (n+(words f.2).length)
def oA (d:Dc):Int:=if 8<d.2.length then 7 else BK [] d.2 0
theorem Kc {fs:List Fd} {i n:Nat} {x:Fd} (h:fs[i]? =some x):BK (fs.take i) (fs.drop i) n=if eA x.1=false then 4 else if((fs.take i).any λg=>decide (g.1=x.1))=true then 5 else if mL 0 (words x.2)≠0 then mL 0 (words x.2)else BK (fs.take (i+1)) (fs.drop (i+1)) (n+(words x.2).length):=by
 have eZ:=(an.1 h).1;rw[fp eZ,(an.1 h).2,bY,h];rfl
theorem uC {fs:List Fd} {i n:Nat} (h:fs.length<=i):BK (fs.take i) (fs.drop i) n=if 500<n then 7 else 0:=by
 rw[jw h];rfl
theorem px (s:List UInt8) (hs:s.length<=140737488355328) (w0:World):
  Spec Tryz.prog 58 #[.string ⟨s.toArray⟩] w0 (λv w=>v= .bool (eA s)/\w=w0):=by
 refine bh (args:=[_]) (fn:=Tryz.f58) Tryz.func58 G (n:=28) Tryz.ntmps58 (T.aQ (Rg.aZ G G (aL (T.aQ (Rg.aZ G G (aX ?_))))));refine dd (σ:=Nat) (λi=>[(0,.string ⟨s.toArray⟩),(3,.int .i64 (i:Int))]) (λi w=>w=w0/\i<=s.length/\∀k c,k<i->s[k]? =some c->iF c=true) (λi=>s.length-i) 0 a71 ?_ ?_
 ·exact⟨G,a8 _,λk c h=>absurd h (ec k)⟩
 ·rintro i w ⟨rfl,hi,fa⟩;refine aL (T.aQ (ab G G (ab G G (sI aA G G (bg (v':= .int .i64 (s.length:Int)) a84 (cx G G G (ad ?_)))))));refine bE G (λc2=>?_) (λc2=>?_)
  ·refine aS (aL (aX (T.aQ (ab G G (ab G G (Rg.J2 (c:=s.getD i 0) aA G G G q0 (by rw[ar];exact uB q0) (cx G G G (ab G G ?_))))))));refine aO (g:=14) G (λakL=>?_) (λakL=>?_)
   ·refine aj G G G G (aj G G G G (aj G G G G (aj G G G G (aU G G G (ad (kD G (T.aQ (Rg.aZ G G (aJ ?_)))))))))
    have hx:s.all iF=false:=fh.2 λh=>by
     have h2:=dZ.1 h _ (av (uB (s:=s) (i:=i) q0));simp only[iF,decide_eq_true_eq]at h2;omega
    exact aK rfl rfl ⟨by rw[eA,hx,kI],rfl⟩
   ·refine ah G G (ab G G (ah G G (ab G G (ah G G (Rg.J2 (c:=s.getD i 0) aA G G G q0 (by rw[ar];exact uB q0) (ah G G (eR G G G (aB G G G (ad ?_)))))))));refine bE G (λc4=>?_) (λc4=>?_)
    ·refine T.aQ (Rg.aZ G G (aJ ?_))
     have hx:s.all iF=false:=fh.2 λh=>by
      have h2:=dZ.1 h _ (av (uB (s:=s) (i:=i) q0));simp only[iF,decide_eq_true_eq]at h2;omega
     exact aK rfl rfl ⟨by rw[eA,hx,kI],rfl⟩
    ·refine aS (aH (ab G G (bu G G G q0 (Rg.aZ G G ?_))));refine⟨G,i+1,a71,?_,?_⟩
     ·exact⟨G,by omega,λk c h hc=>by
       rcases cH k i with h2|h2
       ·exact fa k c h2 hc
       ·obtain rfl:k=i:=by omega
        rw[uB q0]at hc;cases hc;simp only[iF,decide_eq_true_eq];omega⟩
     ·omega
  ·refine cN (T.aQ (ab G G (sI aA G G (bg (v':= .int .i64 (s.length:Int)) a84 (eB G G G (ab G G ?_))))));refine aO (g:=23) G (λqd=>?_) (λqd=>?_)
   ·refine ah G G (ab G G (ah G G (sI aA G G (bg (v':= .int .i64 (s.length:Int)) a84 (ah G G (fM G G G (aU G G G (Rg.aZ G G (aJ ?_)))))))));have ha:s.all iF=true:=O4 λk c hc=>fa k c (by have:=(an.1 hc).1;omega) hc
    first
    |exact aK rfl rfl ⟨by rw[eA,ha,l1];exact congrArg Value.bool (decide_eq_decide.2 q0),G⟩
    |exact aK rfl rfl ⟨by rw[eA,ha,l1];exact congrArg Value.bool (decide_eq_false q0).symm,G⟩
   ·refine aj G G G G (aj G G G G (aj G G G G (aB G G G (Rg.aZ G G (aJ ?_)))));have ha:s.all iF=true:=O4 λk c hc=>fa k c (by have:=(an.1 hc).1;omega) hc
    first
    |exact aK rfl rfl ⟨by rw[eA,ha,l1];exact congrArg Value.bool (decide_eq_decide.2 q0),G⟩
    |exact aK rfl rfl ⟨by rw[eA,ha,l1];exact congrArg Value.bool (decide_eq_false q0).symm,G⟩
theorem LP {M:aM} {o:Fd} {v0:Value} (w0:World) (hM:Lt M w0) (hv:RT.fd.V M w0 o v0) {nm:List UInt8} {t:Value} {bf:Nat} (g:w0.heap[bf]? =some (.cells #[.string ⟨nm.toArray⟩,t] 153 (0,0))) (Co:M bf):
  Spec Tryz.prog 141 #[v0,.pointer (some ⟨bf,0,none⟩)] w0 (λv w=>v= .bool (decide (o.1=nm))/\Step M w0 M w aC):=by
 refine bh (args:=[_,_]) (fn:=Tryz.f141) Tryz.func141 G (n:=9) Tryz.ntmps141 ?_;have S:Step M w0 M w0 aC:=aV;refine T.aQ ?_;refine Rg.gw (A:=RT.fd) G G hM hv G (λu0 w1 dG s0 _=>?_);have:=ae g;replace Co:=(s0.mem _ this).2 Co;replace g:=s0.aF g;replace hM:=s0.lt hM;have:=S.size;replace S:=S.aw s0;refine Rg.aZ G G (T.aQ ?_);refine ao (M:=M) (A:=RT.fd) (B:=RT.str) cK G G I9 Tg (EF) G G Tg Xf (by repeat (first|exact bQ _ _|refine bA (bR Xf) ?_)) (λzX kG=>?_);refine bB aA G G G G G kG bS (λv1 kg=>?_);obtain rfl:=dS kg;refine aY (o':=0) cK G G I9 Tg G G (aR aA G G G Xf G (Rg.tT (p:=o.1) (q:=nm) G G G (Rg.aZ G G (aJ ?_))));exact aK G G ⟨G,S⟩
theorem H0 {M:aM} {fs:List Fd} {v0:Value} (w0:World) (hM:Lt M w0) (hv:(RT.fd.sl).V M w0 fs v0) {nm:List UInt8} {t:Value} {bf:Nat} (g:w0.heap[bf]? =some (.cells #[.string ⟨nm.toArray⟩,t] 153 (0,0))) (Co:M bf):
  Spec Tryz.prog 184 #[v0,.func (.func 141) #[] #[.pointer (some ⟨bf,0,none⟩)]] w0 (λv w=>(∃k:Int,v= .int .i64 k/\(0<=k↔(fs.any λg=>decide (g.1=nm))=true)/\ -1<=k/\k<=9223372036854775807)/\Step M w0 M w aC):=by
 have yH:=cU hv;refine bh (args:=[_,_]) (fn:=Tryz.f184) Tryz.func184 G (n:=19) Tryz.ntmps184 ?_;have S:Step M w0 M w0 aC:=aV;refine T.aQ (Rg.aZ G G (aL (T.aQ (ab G G (bC bG G hv G (ab G G (ad (aX ?_))))))));refine dd (σ:=Nat) (λi=>[(0,v0),(1,.func (.func 141) #[] #[.pointer (some ⟨bf,0,none⟩)]),(6,v0),(7,.int .i64 (fs.length:Int)),(8,.int .i64 (i:Int))]) (λi w=>Lt M w/\Step M w0 M w aC/\(w.heap[bf]? =some (.cells #[.string ⟨nm.toArray⟩,t] 153 (0,0)))/\(RT.fd.sl).V M w fs v0/\i<=fs.length/\∀k o,k<i->fs[k]? =some o->o.1≠nm) (λi=>fs.length-i) 0 a56 ?_ ?_
 ·exact⟨hM,S,g,hv,a8 _,λk c h=>absurd h (ec k)⟩
 ·rintro i w ⟨hM,S,g,hv,hi,fa⟩;refine T.aQ (cx G G G (ad (aL ?_)));refine bE G (λc2=>?_) (λc2=>?_)
  ·refine aS (aL (aX (T.aQ (ab G G (Rg.aZ G G (T.aQ (ab G G (ab G G ?_))))))));refine ab G G ?_;refine cC bG kf G G G hv bS q0 (λu4 o HS xM=>?_);refine bN (A:=RT.fd) cK G kf Tg G G G xM bS (λv4 qu=>?_);rw[ar]at HS;refine oS (first:=[]) (captured:=[.pointer (some ⟨bf,0,none⟩)]) G G G ajH (LP _ hM qu g Co) (λr5 w5 hc=>?_);obtain⟨rfl,s5⟩:=hc;have:=ae g;replace Co:=(s5.mem _ this).2 Co;replace g:=s5.aF g;replace hv:=hv.le s5.le;replace hM:=s5.lt hM;have:=S.size;replace S:=S.aw s5;refine ad ?_;refine bE G (λc4=>?_) (λc4=>?_)
   ·refine T.aQ (ab G G (Rg.aZ G G (aJ ?_)));exact aK rfl rfl ⟨⟨_,rfl,⟨λ_=>jG.2 ⟨o,av HS,by simpa using Xf⟩,λ_=>by omega⟩,by omega,by omega⟩,S.back⟩
   ·refine aS (aH (bu G G G q0 (ab G G (ad ?_))));refine⟨G,i+1,a56,?_,?_⟩
    ·exact⟨hM,S,g,hv,by omega,λk o' h hc=>by
      rcases cH k i with h2|h2
      ·exact fa k o' h2 hc
      ·obtain rfl:k=i:=by omega
       rw[HS]at hc;cases hc;assumption⟩
    ·omega
  ·refine cN (T.aQ (Rg.aZ G G (aJ ?_)))
   exact aK G G ⟨⟨-1,G,⟨λh=>by omega,λh=>by
    obtain⟨o,ho,he⟩:=jG.1 h;obtain⟨k,hk⟩:=bK.1 ho;exact absurd (by simpa using he) (fa k o (by have:=(an.1 hk).1;omega) hk)⟩,by omega,by omega⟩,S.back⟩
theorem FA {M:aM} {fs:List Fd} {v0:Value} (w0:World) (hM:Lt M w0) (hv:(RT.fd.sl).V M w0 fs v0) {nm:List UInt8} {t:Value} {bf:Nat} (g:w0.heap[bf]? =some (.cells #[.string ⟨nm.toArray⟩,t] 153 (0,0))) (Co:M bf):
  Spec Tryz.prog 140 #[v0,.func (.func 141) #[] #[.pointer (some ⟨bf,0,none⟩)]] w0 (λv w=>v= .bool (fs.any λg=>decide (g.1=nm))/\Step M w0 M w aC):=by
 refine bh (args:=[_,_]) (fn:=Tryz.f140) Tryz.func140 G (n:=9) Tryz.ntmps140 ?_;have S:Step M w0 M w0 aC:=aV;refine T.aQ (Rg.aZ G G (T.aQ (ab G G (ab G G ?_))));refine aP G G ajP (H0 _ hM hv g Co) (λr1 w1 hc=>?_);obtain⟨⟨k,rfl,hk,_⟩,s1⟩:=hc;have:=ae g;replace Co:=(s1.mem _ this).2 Co;replace g:=s1.aF g;replace hv:=hv.le s1.le;replace hM:=s1.lt hM;have:=S.size;replace S:=S.aw s1;refine eB G G G (Rg.aZ G G (aJ ?_));exact aK rfl rfl ⟨congrArg Value.bool (by rw[j6,decide_eq_true_eq];exact hk),S⟩
theorem O6 {M:aM} {d:Dc} {v0:Value} (w0:World) (hM:Lt M w0) (hv:RT.dc.V M w0 d v0) (hl:∀f∈d.2,f.1.length<=900000/\f.2.length<=900000):
  Spec Tryz.prog 93 #[v0] w0 (λv w=>v= .int .i64 (oA d)/\Step M w0 M w aC):=by
 have gv:=hM;refine bh (args:=[_]) (fn:=Tryz.f93) Tryz.func93 G (n:=49) Tryz.ntmps93 ?_;have S:Step M w0 M w0 aC:=aV;refine T.aQ ?_;refine Rg.gw (A:=RT.dc) G G hM hv G (λu0 w1 dG s0 _=>?_);replace hM:=s0.lt hM;have:=S.size;replace S:=S.aw s0;refine Rg.aZ G G (aL (T.aQ ?_));refine ao (M:=M) (A:=RT.dc) (B:=(RT.fd).sl) aW G G tO Tg (Hw) G G Tg Xf (by repeat (first|exact bQ _ _|refine bA (bR Xf) ?_)) (λzX kG=>?_);refine bB (M:=M) bG G G G G G Xf (by repeat (first|exact bQ _ _|refine bA (bR Xf) ?_)) (λyx lx=>?_);refine bC bG G lx G (eR G G G (ad ?_));refine bE G (λc1=>?_) (λc1=>?_)
 ·refine T.aQ (Rg.aZ G G (aJ ?_));exact aK rfl rfl ⟨by rw[oA,if_pos q0],S.back⟩
 ·refine aS (T.aQ (Rg.aZ G G (aL (T.aQ ?_))));refine ao (M:=M) (A:=RT.dc) (B:=(RT.fd).sl) aW G G tO Tg (Hw) G G Tg Xf (by repeat (first|exact bQ _ _|refine bA (bR Xf) ?_)) (λLQ si=>?_);refine bB (M:=M) bG G G G G G Xf (by repeat (first|exact bQ _ _|refine bA (bR Xf) ?_)) (λH2 oB=>?_);refine bC bG G oB G (ab G G (ad (aX ?_)));refine dd (σ:=Nat×Nat) (λq=>[(1,u0),(3,.int .i64 (q.2:Int)),(13,H2),(14,.int .i64 (d.2.length:Int)),(15,.int .i64 (q.1:Int))]) (λq w=>∃M',Lt M' w/\Step M w0 M' w aC/\cO RT.dc M' w u0 d/\(RT.fd.sl).V M' w d.2 H2/\oA d=BK (d.2.take q.1) (d.2.drop q.1) q.2/\q.1<=d.2.length/\q.2<=900001*q.1) (λq=>d.2.length-q.1) (0,0) a56 ?_ ?_
  ·exact⟨M,hM,S,dG,oB,by rw[oA,if_neg q0];rfl,a8 _,bz _⟩
  ·rintro⟨i,n⟩ w ⟨M1,hM,S,dG,lN,H3,hi,hn⟩;dsimp only at H3 hi hn ⊢;refine T.aQ (cx G G G (ad (aL ?_)));refine bE G (λc5=>?_) (λc5=>?_)
   ·refine aS (aL (aX (T.aQ (ab G G ?_))));refine cC bG kf G G G lN bS q0 (λu6 x Nw uz=>?_);refine bN (A:=RT.fd) cK G kf Tg G G G uz bS (λv6 oC=>?_);rw[ar]at Nw;obtain rfl:=kQ oC;have jT:=Kc (n:=n) Nw;have xF:=hl _ (av Nw);refine ew M1 kf G (λYt akM auO auP qd O7=>?_);obtain⟨FB,O8⟩:∃M',M'=ins M1 Yt:=⟨_,rfl⟩;rw[<-O8]at O7;have mM:FB Yt:=by rw[O8];exact .inl G
    change akM.heap[Yt]? =some (.cells #[.string ⟨#[]⟩,.string ⟨#[]⟩] _ _)at qd;replace dG:=dG.le Tg O7.le;replace lN:=lN.le O7.le;replace hM:=O7.lt hM;have:=S.size;replace S:=S.aw O7;refine aN G G ?_;refine cY (M:=FB) (vs:=[.string ⟨x.1.toArray⟩,.string ⟨x.2.toArray⟩]) kf G G ai0 rfl rfl qd mM (λw6 g6 s6=>?_);have:=ae qd;replace mM:=(s6.mem _ this).2 mM;replace dG:=dG.le Tg s6.le;replace lN:=lN.le s6.le;replace hM:=s6.lt hM;have:=S.size;replace S:=S.trans s6 (λk hk h=>by have h:_=_:=h;subst h;first|(exfalso;omega)|(show _<=_;omega)|exact⟨by first|omega|assumption,(S.mem _ hk).1 ((s6.mem _ (ae qd)).1 mM)⟩|exact .inl rfl|exact .inr rfl|exact .inr (.inl rfl)|exact .inr (.inr rfl)|exact .inr (.inr (.inl rfl))|exact rfl);have V7:=g6;clear qd;have qd:=V7;clear V7;refine ad (T.aQ (aY (o':=1) cK G G I9 Tg G G (aR aA G G G Xf G ?_)));refine aP G G ajF (LM _ hM xF.2) (λr7 w7 hc=>?_);obtain⟨⟨u7,rfl,hu7⟩,s7⟩:=hc;have:=ae qd;replace mM:=(s7.mem _ this).2 mM;replace qd:=s7.aF qd;replace dG:=dG.le Tg s7.le;replace lN:=lN.le s7.le;replace hM:=s7.lt hM;have:=S.size;replace S:=S.aw s7;refine ab G G (cI G G G (cI G G G (aN G G (Rg.aZ G G (aL (aX (T.aQ (aY (o':=0) cK G G I9 Tg G G (aR aA G G G Xf G ?_)))))))));refine aP G G X2 (wO x.1 q0 _) (λr8 w8 hc=>?_);obtain⟨rfl,s8_⟩:=hc;have s8:=s8_ FB;have:=ae qd;replace mM:=(s8.mem _ this).2 mM;replace qd:=s8.aF qd;replace dG:=dG.le Tg s8.le;replace lN:=lN.le s8.le;replace hM:=s8.lt hM;have:=S.size;replace S:=S.aw s8
    refine fV rfl rfl (bg (v':= .bool (decide (eA x.1=false))) (by cases eA x.1<;>rfl) (Rg.aZ rfl rfl ?_));refine bE G (λc8=>?_) (λc8=>?_)
    ·refine T.aQ (Rg.aZ G G (aJ ?_));exact aK rfl rfl ⟨by rw[H3,jT,if_pos Xf],S.back⟩
    ·refine T.aQ ?_;refine ao (M:=FB) (A:=RT.dc) (B:=(RT.fd).sl) aW G G tO Tg (Hw) G G Tg Xf (by repeat (first|exact bQ _ _|refine bA (bR Xf) ?_)) (λO9 zY=>?_);refine bB (M:=FB) bG G G G G G Xf (by repeat (first|exact bQ _ _|refine bA (bR Xf) ?_)) (λadi Pb=>?_);refine ab G G ?_;refine Rg.Tk bG kf G G G Pb q0 (λH4 lY=>?_);rw[ar]at lY;refine iS (xs:=[]) (ys:=[.tmp 5]) G G G ?_;refine aP G G ajG (FA _ hM lY qd mM) (λr10 w10 hc=>?_);obtain⟨rfl,qv⟩:=hc;have:=ae qd;replace mM:=(qv.mem _ this).2 mM;replace qd:=qv.aF qd;replace dG:=dG.le Tg qv.le;replace lN:=lN.le qv.le;replace hM:=qv.lt hM;have:=S.size;replace S:=S.aw qv;refine aN rfl rfl (bg (v':= .bool (decide (((d.2.take i).any λg=>decide (g.1=x.1))=true))) (by cases((d.2.take i).any λg=>decide (g.1=x.1))<;>rfl) (ad ?_));refine bE G (λLH=>?_) (λLH=>?_)
     ·refine T.aQ (Rg.aZ G G (aJ ?_));exact aK rfl rfl ⟨by rw[H3,jT,if_neg Xf,if_pos Xf],S.back⟩
     ·refine T.aQ (ab G G (fm G G G (Rg.aZ G G ?_)));refine bE G (λFs=>?_) (λFs=>?_)
      ·refine T.aQ (ab G G (Rg.aZ G G (aJ ?_)));exact aK rfl rfl ⟨by rw[H3,jT,if_neg Xf,if_neg Xf,if_pos Xf];rfl,S.back⟩
      ·refine aS (aH (ab G G ?_));have htk:mL 0 (words x.2)=0:=Classical.not_not.1 Fs;obtain⟨a,cap,rfl⟩:=hu7 htk;have H5:=l4 x.2;refine ab G G (Rg.tg Tryz.underlying154 G G (bu G G G q0 (Rg.aZ G G (aH (bu G G G q0 (ab G G (ad ?_)))))));refine⟨G,(i+1,n+(words x.2).length),a56,?_,?_⟩
       ·exact⟨_,hM,S,dG,lN,by rw[H3,jT,if_neg Xf,if_neg Xf,if_neg Fs],by dsimp only;omega,by dsimp only;omega⟩
       ·dsimp only;omega
   ·refine cN (aL (T.aQ (ab G G (eR G G G (ad ?_)))));refine bE G (λHy=>?_) (λHy=>?_)
    ·refine T.aQ (Rg.aZ G G (aJ ?_));exact aK rfl rfl ⟨by rw[H3,uC q0,if_pos q0],S.back⟩
    ·refine aS (T.aQ (Rg.aZ G G (aJ ?_)));exact aK rfl rfl ⟨by rw[H3,uC q0,if_neg q0],S.back⟩
end Go.K
