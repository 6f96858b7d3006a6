/- What the law 'MatchRefuses' needs of walks and plain Lean, part 2: nothing is assumed beyond the texts that it imports. -/
import Derived.ChangeKeysEq
import Derived.Ground.Names2Prog
import Derived.KernelRfl
import Derived.Laws.IdiomCopy
import Derived.Laws.MakeOwn
import Derived.Laws.StructEq
import Derived.Lib.RuneBytes
import Derived.Lib.SliceRun
import Derived.Maps.OwnSet
import Derived.Shelf.SlGeneric
import Derived.Shelf.Slices.SearchI
import Derived.Shelf.Small.Strs
import Derived.Shelf.Small.Utf8
import Derived.Shelf.Strings.Builder1
import Derived.Shelf.Strings.BuilderRune
import Derived.Shelf.Strings.SlTrimAscii
import Derived.Test.YtaobajlebdchhaaGreatDoorProg
import Derived.Test.YtaobajlebdchhaaGreatDoorZMatchRefuses1
set_option linter.unusedVariables false
set_option linter.unusedSimpArgs false
theorem ab:type_of% @Go.K.Rg.move:=@Go.K.Rg.move
theorem ad:type_of% @Go.K.Rg.nil:=@Go.K.Rg.nil
theorem ae:type_of% @Go.K.Rg.aC:=@Go.K.Rg.aC
theorem aj:type_of% @Go.K.Rg.bH:=@Go.K.Rg.bH
theorem ak:type_of% @Go.Proofs.Tryz.underlying3:=@Go.Proofs.Tryz.underlying3
theorem al:type_of% @List.getElem?_eq_some_iff:=@List.getElem?_eq_some_iff
theorem an:type_of% @List.getElem?_eq_getElem:=@List.getElem?_eq_getElem
theorem ao:type_of% @Go.K.Rg.fieldAddr:=@Go.K.Rg.fieldAddr
theorem aq:type_of% @Go.Proofs.Tryz.underlying28:=@Go.Proofs.Tryz.underlying28
theorem ar:type_of% @Int.toNat_natCast:=@Int.toNat_natCast
theorem au:type_of% @List.mem_of_getElem?:=@List.mem_of_getElem?
theorem ax:type_of% @Go.Proofs.Tryz.underlying61:=@Go.Proofs.Tryz.underlying61
theorem ay:type_of% @Go.K.bL.cons:=@Go.K.bL.cons
theorem az:type_of% @Go.Proofs.Tryz.underlying9:=@Go.Proofs.Tryz.underlying9
theorem aA:type_of% @Go.K.Rg.bE:=@Go.K.Rg.bE
theorem aB:type_of% @Go.Proofs.Tryz.underlying25:=@Go.Proofs.Tryz.underlying25
theorem aG:type_of% @Go.K.Rg.assign:=@Go.K.Rg.assign
theorem aH:type_of% @Go.K.cq.cons:=@Go.K.cq.cons
theorem aI:type_of% @Go.K.T.ret:=@Go.K.T.ret
theorem aJ:type_of% @Option.some.inj:=@Option.some.inj
theorem aK:type_of% @Go.K.T.seq:=@Go.K.T.seq
theorem aM:type_of% @Go.K.T.region:=@Go.K.T.region
theorem aN:type_of% @Go.K.Rg.bS:=@Go.K.Rg.bS
theorem aO:type_of% @Go.K.Rg.bB:=@Go.K.Rg.bB
theorem aQ:type_of% @Go.K.Rg.call:=@Go.K.Rg.call
theorem aR:type_of% @Go.K.T.skip:=@Go.K.T.skip
theorem aT:type_of% @Go.Proofs.Tryz.underlying72:=@Go.Proofs.Tryz.underlying72
theorem aU:type_of% @Go.K.Rg.bZ:=@Go.K.Rg.bZ
theorem aV:type_of% @Go.Proofs.Tryz.underlying36:=@Go.Proofs.Tryz.underlying36
theorem aX:type_of% @Go.K.T.block:=@Go.K.T.block
theorem aY:type_of% @Go.K.Rg.bV:=@Go.K.Rg.bV
theorem a8:type_of% @Go.K.Rg.nilCheck:=@Go.K.Rg.nilCheck
theorem bg:type_of% @Go.K.Le.trans:=@Go.K.Le.trans
theorem bh:type_of% @Go.Proofs.Tryz.underlying26:=@Go.Proofs.Tryz.underlying26
theorem bm:type_of% @List.take_of_length_le:=@List.take_of_length_le
theorem bp:type_of% @Nat.zero_le:=@Nat.zero_le
theorem br:type_of% @Go.K.Rg.eqv:=@Go.K.Rg.eqv
theorem bu:type_of% @Nat.le_refl:=@Nat.le_refl
theorem bz:type_of% @Go.K.Rg.cu:=@Go.K.Rg.cu
theorem bA:type_of% @Go.Proofs.Tryz.underlying70:=@Go.Proofs.Tryz.underlying70
theorem bC:type_of% @Go.K.Rg.cR:=@Go.K.Rg.cR
theorem bD:type_of% @Go.K.Rg.load:=@Go.K.Rg.load
theorem bF:type_of% @Go.K.T.dx:=@Go.K.T.dx
theorem bG:type_of% @Go.Proofs.Tryz.underlying117:=@Go.Proofs.Tryz.underlying117
theorem bI:type_of% @Go.Proofs.Tryz.underlying24:=@Go.Proofs.Tryz.underlying24
theorem bJ:type_of% @List.length_take:=@List.length_take
theorem bK:type_of% @List.mem_iff_getElem?:=@List.mem_iff_getElem?
theorem bM:type_of% @List.length_append:=@List.length_append
theorem bN:type_of% @Go.K.Le.refl:=@Go.K.Le.refl
theorem bO:type_of% @Go.K.Step.le:=@Go.K.Step.le
theorem bP:type_of% @List.mem_cons_self:=@List.mem_cons_self
theorem bR:type_of% @Go.K.Rg.cw:=@Go.K.Rg.cw
theorem bT:type_of% @Go.K.Rg.cC:=@Go.K.Rg.cC
theorem bX:type_of% @Go.Proofs.Tryz.underlying293:=@Go.Proofs.Tryz.underlying293
theorem bY:type_of% @Go.Proofs.Tryz.underlying323:=@Go.Proofs.Tryz.underlying323
theorem b4:type_of% @List.getD_eq_getElem?_getD:=@List.getD_eq_getElem?_getD
theorem b7:type_of% @List.take_add_one:=@List.take_add_one
theorem b9:type_of% @List.length_map:=@List.length_map
theorem cf:type_of% @Go.K.Rg.dT:=@Go.K.Rg.dT
theorem cg:type_of% @Go.K.Step.aE:=@Go.K.Step.aE
theorem ch:type_of% @Go.Proofs.Tryz.underlying188:=@Go.Proofs.Tryz.underlying188
theorem cj:type_of% @Go.Sem.run_bind:=@Go.Sem.run_bind
theorem cn:type_of% @Go.K.Rg.dd:=@Go.K.Rg.dd
theorem cr:type_of% @Bool.and_eq_true:=@Bool.and_eq_true
theorem cv:type_of% @List.mem_cons_of_mem:=@List.mem_cons_of_mem
theorem cx:type_of% @List.mem_map:=@List.mem_map
theorem cy:type_of% @Go.K.Rg.fU:=@Go.K.Rg.fU
theorem cz:type_of% @Eq.symm:=@Eq.symm
theorem cA:type_of% @Go.Result.andThen_ok:=@Go.Result.andThen_ok
theorem cB:type_of% @Go.K.Rg.idx:=@Go.K.Rg.idx
theorem cD:type_of% @Go.K.Rg.extract:=@Go.K.Rg.extract
theorem cE:type_of% @Go.Proofs.Tryz.underlying153:=@Go.Proofs.Tryz.underlying153
theorem cG:type_of% @Decidable.not_not:=@Decidable.not_not
theorem cH:type_of% @List.length_cons:=@List.length_cons
theorem cI:type_of% @Nat.lt_or_ge:=@Nat.lt_or_ge
theorem cJ:type_of% @List.getElem?_eq_none:=@List.getElem?_eq_none
theorem cL:type_of% @List.length_eq_zero_iff:=@List.length_eq_zero_iff
theorem cN:type_of% @Go.K.T.exit:=@Go.K.T.exit
theorem cP:type_of% @List.length_drop:=@List.length_drop
theorem cU:type_of% @Go.Proofs.Tryz.underlying5:=@Go.Proofs.Tryz.underlying5
theorem cW:type_of% @List.mem_singleton:=@List.mem_singleton
theorem cY:type_of% @Go.K.T.loop:=@Go.K.T.loop
theorem db:type_of% @Go.Proofs.Tryz.underlying261:=@Go.Proofs.Tryz.underlying261
theorem dm:type_of% @Nat.le_trans:=@Nat.le_trans
theorem dp:type_of% @Go.Proofs.Tryz.underlying114:=@Go.Proofs.Tryz.underlying114
theorem dq:type_of% @Go.Proofs.Tryz.underlying45:=@Go.Proofs.Tryz.underlying45
theorem dr:type_of% @Bool.true_and:=@Bool.true_and
theorem dv:type_of% @Array.getElem?_setIfInBounds:=@Array.getElem?_setIfInBounds
theorem dw:type_of% @List.mem_append:=@List.mem_append
theorem dz:type_of% @List.mem_cons:=@List.mem_cons
theorem dF:type_of% @Go.K.Rg.append:=@Go.K.Rg.append
theorem dG:type_of% @List.getElem?_take:=@List.getElem?_take
theorem dH:type_of% @Option.toList_some:=@Option.toList_some
theorem dI:type_of% @List.length_pos_iff:=@List.length_pos_iff
theorem dJ:type_of% @Go.Proofs.Tryz.underlying250:=@Go.Proofs.Tryz.underlying250
theorem dK:type_of% @Go.Proofs.Tryz.underlying126:=@Go.Proofs.Tryz.underlying126
theorem dM:type_of% @List.map_append:=@List.map_append
theorem dN:type_of% @Go.K.Rg.build:=@Go.K.Rg.build
theorem dP:type_of% @Go.K.Rg.dR:=@Go.K.Rg.dR
theorem dQ:type_of% @Go.Proofs.Tryz.underlying74:=@Go.Proofs.Tryz.underlying74
theorem dZ:type_of% @List.pairwise_map:=@List.pairwise_map
theorem ec:type_of% @List.all_eq_true:=@List.all_eq_true
theorem eg:type_of% @Go.Proofs.Tryz.underlying182:=@Go.Proofs.Tryz.underlying182
theorem ei:type_of% @List.getElem?_map:=@List.getElem?_map
theorem ek:type_of% @Go.K.Rg.kG:=@Go.K.Rg.kG
theorem eo:type_of% @Go.Proofs.Tryz.underlying296:=@Go.Proofs.Tryz.underlying296
theorem eB:type_of% @Go.K.Rg.alloc:=@Go.K.Rg.alloc
theorem eC:type_of% @Nat.not_lt_zero:=@Nat.not_lt_zero
theorem eE:type_of% @List.take_succ_eq_append_getElem:=@List.take_succ_eq_append_getElem
theorem eI:type_of% @List.map_cons:=@List.map_cons
theorem eJ:type_of% @Go.K.Own.nil:=@Go.K.Own.nil
theorem eM:type_of% @List.length_singleton:=@List.length_singleton
theorem eN:type_of% @Go.K.Rg.lJ:=@Go.K.Rg.lJ
theorem eP:type_of% @Bool.false_and:=@Bool.false_and
theorem eS:type_of% @List.getElem?_set:=@List.getElem?_set
theorem eV:type_of% @Go.K.Rg.mu:=@Go.K.Rg.mu
theorem eW:type_of% @List.drop_eq_getElem_cons:=@List.drop_eq_getElem_cons
theorem eX:type_of% @Go.K.Rg.eZ:=@Go.K.Rg.eZ
theorem fa:type_of% @Go.K.Part.snd:=@Go.K.Part.snd
theorem fe:type_of% @Option.map_some:=@Option.map_some
theorem ff:type_of% @Go.Proofs.Tryz.underlying249:=@Go.Proofs.Tryz.underlying249
theorem fg:type_of% @Go.Proofs.Tryz.underlying294:=@Go.Proofs.Tryz.underlying294
theorem fi:type_of% @Go.K.Rg.mU:=@Go.K.Rg.mU
theorem fq:type_of% @Nat.lt_trichotomy:=@Nat.lt_trichotomy
theorem fu:type_of% @Bool.eq_false_iff:=@Bool.eq_false_iff
theorem fw:type_of% @Go.K.Rg.ni:=@Go.K.Rg.ni
theorem fB:type_of% @Go.Proofs.Tryz.underlying29:=@Go.Proofs.Tryz.underlying29
theorem fC:type_of% @List.filter_append:=@List.filter_append
theorem fF:type_of% @Go.K.lj.nil:=@Go.K.lj.nil
theorem fG:type_of% @List.drop_eq_nil_of_le:=@List.drop_eq_nil_of_le
theorem fH:type_of% @Go.Proofs.Tryz.underlying128:=@Go.Proofs.Tryz.underlying128
theorem fN:type_of% @Go.K.Rg.n4:=@Go.K.Rg.n4
theorem fO:type_of% @List.mem_map_of_mem:=@List.mem_map_of_mem
theorem fS:type_of% @List.contains_iff_mem:=@List.contains_iff_mem
theorem fV:type_of% @List.append_nil:=@List.append_nil
theorem fW:type_of% @List.mem_filter:=@List.mem_filter
theorem gp:type_of% @Go.Proofs.Tryz.underlying122:=@Go.Proofs.Tryz.underlying122
theorem gT:type_of% @List.take_append_drop:=@List.take_append_drop
theorem gU:type_of% @List.length_filter_le:=@List.length_filter_le
theorem gV:type_of% @List.getElem?_toArray:=@List.getElem?_toArray
theorem gY:type_of% @List.getElem?_drop:=@List.getElem?_drop
theorem ib:type_of% @Go.K.Rg.not:=@Go.K.Rg.not
theorem ic:type_of% @Go.K.cK.load:=@Go.K.cK.load
theorem ie:type_of% @Go.K.cK.move:=@Go.K.cK.move
theorem iq:type_of% @Go.Proofs.Tryz.underlying180:=@Go.Proofs.Tryz.underlying180
theorem ir:type_of% @Go.Proofs.Tryz.underlying274:=@Go.Proofs.Tryz.underlying274
theorem iG:type_of% @List.ext_getElem?:=@List.ext_getElem?
theorem iH:type_of% @List.foldl_append:=@List.foldl_append
theorem iJ:type_of% @List.nil_append:=@List.nil_append
theorem iV:type_of% @Go.K.Rg.iK:=@Go.K.Rg.iK
theorem ja:type_of% @List.drop_of_length_le:=@List.drop_of_length_le
theorem ji:type_of% @Nat.lt_irrefl:=@Nat.lt_irrefl
theorem jj:type_of% @Go.K.Rg.makeFunc:=@Go.K.Rg.makeFunc
theorem jk:type_of% @List.any_eq_true:=@List.any_eq_true
theorem jx:type_of% @List.pairwise_cons:=@List.pairwise_cons
theorem jB:type_of% @Go.K.Rg.lI:=@Go.K.Rg.lI
theorem jC:type_of% @Go.K.iv.all:=@Go.K.iv.all
theorem jI:type_of% @Go.K.Part.fst:=@Go.K.Part.fst
theorem jJ:type_of% @Go.K.T.iff:=@Go.K.T.iff
theorem jK:type_of% @Go.Proofs.Tryz.underlying4:=@Go.Proofs.Tryz.underlying4
theorem jL:type_of% @Go.Proofs.Tryz.underlying183:=@Go.Proofs.Tryz.underlying183
theorem jQ:type_of% @List.length_nil:=@List.length_nil
theorem jR:type_of% @Bool.eq_iff_iff:=@Bool.eq_iff_iff
theorem jU:type_of% @Go.IntWalk.i64_in:=@Go.IntWalk.i64_in
theorem jV:type_of% @List.mem_append_left:=@List.mem_append_left
theorem j0:type_of% @Go.K.bL.nil:=@Go.K.bL.nil
theorem kA:type_of% @Go.K.T.qJ:=@Go.K.T.qJ
theorem kT:type_of% @Go.K.fy.refl:=@Go.K.fy.refl
theorem k9:type_of% @Option.map_none:=@Option.map_none
theorem ly:type_of% @Bool.and_true:=@Bool.and_true
theorem lF:type_of% @Go.Proofs.Tryz.underlying238:=@Go.Proofs.Tryz.underlying238
theorem lG:type_of% @Go.Proofs.Tryz.underlying301:=@Go.Proofs.Tryz.underlying301
theorem my:type_of% @Go.Sem.run_pure:=@Go.Sem.run_pure
theorem mz:type_of% @Go.DataW.weights_mem_each:=@Go.DataW.weights_mem_each
theorem mT:type_of% @List.getElem?_append_right:=@List.getElem?_append_right
theorem nh:type_of% @Go.Proofs.Tryz.zeroValue9:=@Go.Proofs.Tryz.zeroValue9
theorem nk:type_of% @List.map_toArray:=@List.map_toArray
theorem np:type_of% @Go.K.Rg.box:=@Go.K.Rg.box
theorem nY:type_of% @Go.K.Le.close:=@Go.K.Le.close
theorem nZ:type_of% @List.getD_cons_zero:=@List.getD_cons_zero
theorem n0:type_of% @List.getD_cons_succ:=@List.getD_cons_succ
theorem oW:type_of% @Go.K.cK.field:=@Go.K.cK.field
theorem pG:type_of% @List.range_succ:=@List.range_succ
theorem pH:type_of% @Go.K.uF.nil:=@Go.K.uF.nil
theorem pI:type_of% @List.foldl_cons:=@List.foldl_cons
theorem pM:type_of% @BitVec.toNat_ofInt:=@BitVec.toNat_ofInt
theorem pN:type_of% @Nat.eq_or_lt_of_le:=@Nat.eq_or_lt_of_le
theorem qt:type_of% @Int.le_refl:=@Int.le_refl
theorem qH:type_of% @Go.K.qL.none:=@Go.K.qL.none
theorem rC:type_of% @Nat.zero_add:=@Nat.zero_add
theorem rD:type_of% @List.append_assoc:=@List.append_assoc
theorem rE:type_of% @List.map_nil:=@List.map_nil
theorem rF:type_of% @Go.K.Rg.kV:=@Go.K.Rg.kV
theorem rG:type_of% @Go.K.Rg.kW:=@Go.K.Rg.kW
theorem rH:type_of% @Bool.not_eq_true':=@Bool.not_eq_true'
theorem rI:type_of% @Go.Proofs.Tryz.underlying205:=@Go.Proofs.Tryz.underlying205
theorem rJ:type_of% @Go.Proofs.Tryz.underlying269:=@Go.Proofs.Tryz.underlying269
theorem rK:type_of% @Go.Proofs.Tryz.underlying267:=@Go.Proofs.Tryz.underlying267
theorem uE:type_of% @Array.getElem?_modify:=@Array.getElem?_modify
theorem uI:type_of% @Go.K.Rg.nr:=@Go.K.Rg.nr
theorem uJ:type_of% @Go.K.T.ke:=@Go.K.T.ke
theorem uK:type_of% @List.cons_append:=@List.cons_append
theorem uL:type_of% @Go.K.cq.nil:=@Go.K.cq.nil
theorem wh:type_of% @Go.K.Rg.conv:=@Go.K.Rg.conv
theorem wo:type_of% @Go.Proofs.Tryz.underlying32:=@Go.Proofs.Tryz.underlying32
theorem wu:type_of% @Go.Proofs.Tryz.underlying40:=@Go.Proofs.Tryz.underlying40
theorem xh:type_of% @Nat.pow_le_pow_right:=@Nat.pow_le_pow_right
theorem xi:type_of% @List.mem_of_mem_take:=@List.mem_of_mem_take
theorem xR:type_of% @Nat.min_eq_left:=@Nat.min_eq_left
theorem xS:type_of% @List.cons.injEq:=@List.cons.injEq
theorem xT:type_of% @List.idxOf_cons:=@List.idxOf_cons
theorem An:type_of% @Int.toNat_of_nonneg:=@Int.toNat_of_nonneg
theorem As:type_of% @Go.Proofs.Tryz.underlying0:=@Go.Proofs.Tryz.underlying0
theorem Au:type_of% @Go.Proofs.Tryz.sizeOf9:=@Go.Proofs.Tryz.sizeOf9
namespace Go.K
abbrev Po:=Int×List Int
abbrev Bl:=Int×Int×Int×Int
abbrev Li:=List UInt8×List Bl×Int
abbrev RT.po:RT Po:=RT.pair (RT.int .i64) ((RT.int .i64).sl)
abbrev RT.bl:RT Bl:=RT.pair (RT.int .i64) (RT.pair (RT.int .i64) (RT.pair (RT.int .i64) (RT.int .i64)))
abbrev RT.li:RT Li:=RT.pair (RT.u8.sl) (RT.pair ((RT.bl).sl) (RT.int .i64))
theorem QM:Part RT.po (RT.int .i64) (λp=>p.1) 0:=jI _ _
theorem VC:Part RT.po ((RT.int .i64).sl) (λp=>p.2) 1:=fa _ _
theorem bl0:Part RT.bl (RT.int .i64) (λb=>b.1) 0:=jI _ _
theorem bl1:Part RT.bl (RT.int .i64) (λb=>b.2.1) 1:=(fa _ _).trans (jI _ _)
theorem bl2:Part RT.bl (RT.int .i64) (λb=>b.2.2.1) 2:=(fa _ _).trans ((fa _ _).trans (jI _ _))
theorem bl3:Part RT.bl (RT.int .i64) (λb=>b.2.2.2) 3:=(fa _ _).trans ((fa _ _).trans (fa _ _))
theorem li0:Part RT.li (RT.u8.sl) (λx=>x.1) 0:=jI _ _
theorem li1:Part RT.li ((RT.bl).sl) (λx=>x.2.1) 1:=(fa _ _).trans (jI _ _)
def Mi (n:Nat) (k:Int):Bool:=decide (0<=k/\k<n)
def DJ (bs:List Bl) (k:Int):Int:=if Mi bs.length k then(bs.getD k.toNat (0,0,0,0)).2.2.1 else-1
def ep:Int->List Po->List UInt8
 |_,[]=>[]
 |last,(d,ps)::l=>put (d-last-1).toNat++eR ps++ep d l
def cO:Int->List Po->Int
 |last,[]=>last
 |_,(d,_)::l=>cO d l
def jd (l:List Po):Int:=(l.map λp=>(p.2.length:Int)).sum
theorem tu (l l':List Po) (last:Int):ep last (l++l')=ep last l++ep (cO last l) l':=by
 induction l generalizing last with
 |nil=>rfl
 |cons p l ih=>obtain⟨d,ps⟩:=p;simp[ep,cO,ih]
theorem AA (l l':List Po) (last:Int):cO last (l++l')=cO (cO last l) l':=by
 induction l generalizing last with
 |nil=>rfl
 |cons p l ih=>obtain⟨d,ps⟩:=p;simp[cO,ih]
theorem tv (l l':List Po):jd (l++l')=jd l+jd l':=by simp[jd]
def tw (l:List Po) (k:Nat):Bl:=((ep (-1) (l.take (8*k))).length,cO (-1) (l.take (8*k)),cO (-1) (l.take (8*k+8)),((l.drop (8*k)).take 8).length)
def pg (l:List Po) (m:Nat):List Bl:=(List.range m).map (tw l)
def kM (l:List Po):Li:=(ep (-1) l,pg l ((l.length+7)/8),jd l)
def ov (l:List Int):Bool:=fT (-1) l&&l.all (λn=>decide (n<2147483648))
def eD:Int->List Po->Bool
 |_,[]=>true
 |last,(d,ps)::l=>decide (last<d)&&decide (d<2147483648)&& !ps.isEmpty&&ov ps&&eD d l
theorem pT:∀{l:List Po} {i:Nat} {last d:Int} {ps:List Int},eD last l=true->l[i]? =some (d,ps)->
  cO last (l.take i)<d/\d<2147483648/\ps≠[]/\ov ps=true/\cO last (l.take (i+1))=d/\last<=cO last (l.take i)
 |[],i,_,_,_,_,h=>by simp at h
 |(d0,p0)::l,0,last,d,ps,hm,h=>by
  simp only[List.getElem?_cons_zero,Option.some.injEq,Prod.mk.injEq]at h;obtain⟨rfl,rfl⟩:=h;simp only[eD,cr,decide_eq_true_eq]at hm;obtain⟨⟨⟨⟨h1,h2⟩,h3⟩,h4⟩,h5⟩:=hm;refine⟨h1,h2,?_,h4,by simp[cO],by simp[cO]⟩;rintro rfl;simp at h3
 |(d0,p0)::l,i+1,last,d,ps,hm,h=>by
  simp only[eD,cr,decide_eq_true_eq]at hm;obtain⟨⟨⟨⟨h1,h2⟩,h3⟩,h4⟩,h5⟩:=hm;obtain⟨a1,a2,a3,a4,a5,a6⟩:=pT (i:=i) h5 a84;refine ⟨by simpa[cO]using a1,a2,a3,a4,by simpa[cO]using a5,?_⟩;simp only[List.take_succ_cons,cO];omega
theorem yo {l:List Po} {i:Nat} {d:Int} {ps:List Int} (last:Int) (h:l[i]? =some (d,ps)):
  ep last (l.take (i+1))=ep last (l.take i)++put (d-cO last (l.take i)-1).toNat++eR ps:=by
 obtain⟨h1,h2⟩:=al.1 h;rw[eE h1,h2,tu];simp[ep]
theorem pU {l:List Po} {i:Nat} (last:Int):ep last l=ep last (l.take i)++ep (cO last (l.take i)) (l.drop i):=by
 conv=>lhs;rw[<-gT i l]
 exact tu _ _ _
theorem ox {l:List Int}:ov l=true↔fT (-1) l=true/\∀x∈l,x<2147483648:=by
 simp[ov]
def re (b:List UInt8) (at_ ahead:Int):Po×Int×Int:=
 if(get b at_).2.2≠0 then((0,[]),0,(get b at_).2.2)
 else((IntKind.i64.wrap (IntKind.i64.wrap (ahead+1)+(get b at_).1),(gE b (get b at_).2.1).2.1),(gE b (get b at_).2.1).2.2,(gE b (get b at_).2.1).1)
theorem Ml {l:List Po} {i:Nat} {d:Int} {ps:List Int} (hm:eD (-1) l=true) (h:l[i]? =some (d,ps)) (hl:ps.length<=1099511627776):
  re (ep (-1) l) (((ep (-1) (l.take i)).length:Nat):Int) (cO (-1) (l.take i))=((d,ps),(((ep (-1) (l.take (i+1))).length:Nat):Int),0):=by
 obtain⟨h1,h2,h3,h4,h5,h6⟩:=pT hm h;obtain⟨h7,h8⟩:=ox.1 h4;have e1:=pU (l:=l) (i:=i+1) (-1);have e2:=yo (-1) h;generalize hla:cO (-1) (l.take i)=last at h1 h6 e2 ⊢;generalize JG:ep (-1) (l.take i)=pre at e2 ⊢;generalize ep (cO (-1) (l.take (i+1))) (l.drop (i+1))=post at e1;rw[e2]at e1 ⊢;have g1:=Ci pre (eR ps++post) (n:=(d-last-1).toNat) q0;have g2:=Az (pre++put (d-last-1).toNat) post h7 (λx hx=>by have:=h8 x hx;omega) q0;rw[show pre++put (d-last-1).toNat++(eR ps++post)=ep (-1) l from by rw[e1];simp]at g1;rw[<-e1]at g2;unfold re;rw[g1];simp only[ne_eq,not_true_eq_false,if_false];have xG:((pre.length+(put (d-last-1).toNat).length:Nat):Int)=((pre++put (d-last-1).toNat).length:Int):=by simp
 rw[xG,g2];refine Prod.ext (Prod.ext ?_ G) (Prod.ext ?_ G)
 ·simp only;rw[jU (last+1) q0,jU _ q0];omega
 ·simp;omega
theorem pV {l:List Int} {k:Nat} {x:Int} (p:Int->Bool) (h:l[k]? =some x):(l.drop k).all p=(p x&&(l.drop (k+1)).all p):=by
 obtain⟨h1,h2⟩:=al.1 h;rw[eW h1,h2,List.all_cons]
theorem lX {l:List Po} {k:Nat} {d:Int} {ps:List Int} (h:l[k]? =some (d,ps)) (last:Int):
  eD last (l.drop k)=(decide (last<d)&&decide (d<2147483648)&& !ps.isEmpty&&ov ps&&eD d (l.drop (k+1))):=by
 obtain⟨h1,h2⟩:=al.1 h;rw[eW h1,h2,eD]
theorem yp {l:List Po} {i:Nat} {d:Int} {ps:List Int} (h:l[i]? =some (d,ps)):jd (l.take (i+1))=jd (l.take i)+ps.length:=by
 obtain⟨h1,h2⟩:=al.1 h;rw[eE h1,h2,tv];simp[jd]
theorem oy (l:List Po):0<=jd l:=by
 induction l with
 |nil=>simp[jd]
 |cons p l ih=>simp only[jd,eI,List.sum_cons]at ih ⊢;omega
theorem DK (l:List Po) (i:Nat):0<=jd (l.take i)/\jd (l.take i)<=jd l:=by
 refine ⟨oy _,?_⟩
 conv=>rhs;rw[<-gT i l,tv]
 have:=oy (l.drop i);omega
theorem mX (l:List Po) (i:Nat):(ep (-1) (l.take i)).length<=(ep (-1) l).length:=by
 rw[pU (l:=l) (i:=i) (-1)];simp
theorem JQ (l:List Po) (k:Nat):pg l (k+1)=pg l k++[tw l k]:=by simp[pg,pG]
theorem kf:∀(l:List Po) (last:Int),eD last l=true->last<2147483648->∀n:Nat,last<=cO last (l.take n)/\cO last (l.take n)<2147483648
 |[],last,_,h,n=>by simp[cO];exact h
 |(d,ps)::l,last,hm,h,0=>by simp[cO];exact h
 |(d,ps)::l,last,hm,h,n+1=>by
  simp only[eD,cr,decide_eq_true_eq]at hm;obtain⟨⟨⟨⟨h1,h2⟩,h3⟩,h4⟩,h5⟩:=hm;have:=kf l d h5 h2 n;simp only[List.take_succ_cons,cO];omega
theorem agi {M:aL} {w:World} {a b c d:Int} (ha: -9223372036854775808<=a/\a<=9223372036854775807) (hb: -9223372036854775808<=b/\b<=9223372036854775807) (hc: -9223372036854775808<=c/\c<=9223372036854775807) (hd: -9223372036854775808<=d/\d<=9223372036854775807):
  RT.bl.V M w (a,b,c,d) (.agg [.int .i64 a,.int .i64 b,.int .i64 c,.int .i64 d].toArray):=
 ⟨_,⟨[.int .i64 a],[.int .i64 b,.int .i64 c,.int .i64 d],rfl,⟨rfl,ha⟩,[.int .i64 b],[.int .i64 c,.int .i64 d],rfl,⟨rfl,hb⟩,[.int .i64 c],[.int .i64 d],rfl,⟨rfl,hc⟩,⟨rfl,hd⟩⟩,rfl⟩
theorem ZZ {M:aL} {w:World} {bx:Nat} {b:List UInt8} {ks:List Bl} {vm:Int} {vb vk:Value} {e:TypeId} {fr:Nat×Nat} (hx:w.heap[bx]? =some (.cells #[vb,vk,.int .i64 vm] e fr)) (hm: ¬M bx) (hb:(RT.u8.sl).V M w b vb) (hk:((RT.bl).sl).V M w ks vk) (ht: -9223372036854775808<=vm/\vm<=9223372036854775807):
  cM RT.li M w (.pointer (some ⟨bx,0,none⟩)) (b,ks,vm):=
 ⟨bx,0,[vb,vk,.int .i64 vm],rfl,hm,⟨[vb],[vk,.int .i64 vm],rfl,lW hb rfl rfl,[vk],[.int .i64 vm],rfl,lW hk rfl rfl,⟨rfl,ht⟩⟩,λj v hj=>iS hx a94⟩
theorem Mm {l:List Po} {i:Nat} (h8:i%8=0) (hi:i<l.length):pg l ((i+7)/8)++[(((ep (-1) (l.take i)).length:Int),cO (-1) (l.take i),cO (-1) (l.take (min (i+8) l.length)),(((l.drop i).take 8).length:Int))]=pg l ((min (i+8) l.length+7)/8):=by
 rw[show(min (i+8) l.length+7)/8=(i+7)/8+1 from by omega,JQ];have e:8*((i+7)/8)=i:=by omega
 have e2:l.take (i+8)=l.take (min (i+8) l.length):=by rw[List.take_eq_take_iff];omega
 simp only[tw,e,e2]
theorem pW:∀(l:List Po) (last:Int) (n m:Nat),eD last l=true->last<2147483648->n<=m->cO last (l.take n)<=cO last (l.take m)
 |[],last,n,m,_,_,_=>by simp
 |(d,ps)::l,last,0,m,hm,h,_=>by
  have:=(kf ((d,ps)::l) last hm h m).1;simpa[cO]using this
 |(d,ps)::l,last,n+1,0,_,_,h=>by omega
 |(d,ps)::l,last,n+1,m+1,hm,h,hnm=>by
  simp only[eD,cr,decide_eq_true_eq]at hm;obtain⟨⟨⟨⟨h1,h2⟩,h3⟩,h4⟩,h5⟩:=hm;simpa[cO]using pW l d n m h5 h2 (by omega)
theorem DL {g:List Po} {k:Nat} (hk:k<(g.length+7)/8):DJ (kM g).2.1 (k:Int)=cO (-1) (g.take (8*k+8)):=by
 have hl:(kM g).2.1.length=(g.length+7)/8:=by simp[kM,pg]
 have hb:(kM g).2.1[k]? =some (tw g k):=by simp only[kM,pg,ei];rw[List.getElem?_range hk];rfl
 unfold DJ Mi;rw[if_pos (by rw[hl];simp;omega),ar,b4,hb];rfl
section
variable {P:Program} {r:Option Nat} {n:Nat} {L:Sl} {ds:List Deferred} {w:World} {K:Kt} {ops:Array Oper} {rest:List Oper} {d:Nat} {x y:Operand} {ty:TypeId} {pos:String} {af:Array Edge}
theorem Rg.Mn {t t' e:TypeId} {p:Option Addr} (ht:P.underlying t=some (.pointer e)) (hx:ev L x=some (.pointer p)) (hy:ev L y=some (.pointer none)) (hd:Nat.blt d n=true)
  (k:Rg P r n ops rest ((d,.bool (decide (p=none)))::L) ds w K):
  Rg P r n ops ({dst:=some d,op:= .binOp .eql t x y t',type:=ty,pos,after:=af,guard:=none}::rest) L ds w K:=
 .op a04 rfl rfl hd _ w (λρ h=>by
  have hpe:P.underlying t=some (.pointer (P.pointee t)):=by simp[Program.pointee,ht]
  have he:=run_equal_pointer_nil (P:=P) w t p hpe;simp only[execOp];rw[h x _ hx,h y _ hy]
  cases p<;>simp[eqGuard,binOp,run_underlying ht,he]) k
end
def idx:List Po->Int->Nat
 |[],_=>0
 |p::l,to=>if p.1<to then idx l to+1 else 0
theorem Mp:∀(l:List Po) (to:Int),idx l to<=l.length
 |[],_=>bu _
 |p::l,to=>by
  have:=Mp l to;simp only[idx,cH];split<;>omega
theorem yq:∀{l:List Po} {to:Int} {j:Nat} {p:Po},j<idx l to->l[j]? =some p->p.1<to
 |[],_,_,_,h,_=>by simp[idx]at h
 |q::l,to,j,p,h,hp=>by
  simp only[idx]at h
  split at h
  ·cases j with
   |zero=>simp at hp;subst hp;assumption
   |succ j=>exact yq (l:=l) (j:=j) q0 (by simpa using hp)
  ·omega
theorem yt:∀{l:List Po} {to:Int} {p:Po},l[idx l to]? =some p->to<=p.1
 |[],_,_,h=>by simp[idx]at h
 |q::l,to,p,h=>by
  simp only[idx]at h
  split at h
  ·exact yt a84
  ·simp at h;subst h;omega
theorem Cj:∀{l:List Po} {to:Int} {e:Nat} {p:Po},l[e]? =some p->to<=p.1->idx l to<=e
 |[],_,_,_,h,_=>by simp at h
 |q::l,to,e,p,h,hp=>by
  simp only[idx]
  split
  ·cases e with
   |zero=>simp at h;subst h;omega
   |succ e=>have:=Cj (l:=l) (e:=e) a84 hp;omega
  ·omega
theorem idx_eq {l:List Po} {to:Int} {i:Nat} (h1:∀j,j<i->∀p,l[j]? =some p->p.1<to) (h2:∀p,l[i]? =some p->to<=p.1) (h3:i<=l.length):idx l to=i:=by
 rcases fq (idx l to) i with h|h|h
 ·have hx:l[idx l to]? =some l[idx l to]:=an q0;have:=yt hx;have:=h1 _ h _ hx;omega
 ·exact h
 ·have:=Mp l to;have hx:l[i]? =some l[i]:=an q0;have:=yq h hx;have:=h2 _ hx;omega
def eL (l:List Po) (i:Int):Int:=if i<0 then-1 else match l[i.toNat]? with|some p=>p.1|none=>2147483648
def fX (l:List Po) (i:Int):List Int:=if i<0 then[]else match l[i.toNat]? with|some p=>p.2|none=>[]
def kX (l:List Po) (i:Int):List Po:=if i<0 then[]else(l.drop i.toNat).take (8-i.toNat%8)
def rW (l:List Po) (i to:Int):Int:=if to<=eL l i then i else idx l to
theorem lp {l:List Po} {i:Nat} {d:Int} {ps:List Int} (hm:eD (-1) l=true) (h:l[i]? =some (d,ps)):0<=d/\d<2147483648:=by
 obtain⟨f1,f2,f3,f4,f5,f6⟩:=pT hm h;omega
theorem jn {l:List Po} {i:Nat} {d:Int} {ps:List Int} (h:l[i]? =some (d,ps)):eL l (i:Int)=d:=by
 unfold eL;rw[if_neg q0,ar,h]
theorem JR {l:List Po} {i:Int} (h:i<0):eL l i= -1:=by unfold eL;rw[if_pos h]
theorem qx {l:List Po} {i:Int} (h:(l.length:Int)<=i):eL l i=2147483648:=by
 unfold eL;rw[if_neg q0,cJ q0]
theorem eU (l:List Po) (i:Int):(i<0/\eL l i= -1/\fX l i=[])\/(∃j:Nat,∃d ps,i=j/\l[j]? =some (d,ps)/\eL l i=d/\fX l i=ps)\/((l.length:Int)<=i/\eL l i=2147483648/\fX l i=[]):=by
 by_cases h0:i<0
 ·exact .inl ⟨h0,JR h0,by unfold fX;rw[if_pos h0]⟩
 ·by_cases h1:(l.length:Int)<=i
  ·exact .inr (.inr ⟨h1,qx h1,by unfold fX;rw[if_neg h0,cJ q0]⟩)
  ·obtain⟨j,rfl⟩:∃j:Nat,i=j:=⟨i.toNat,by omega⟩;obtain⟨⟨d,ps⟩,hx⟩:∃x,l[j]? =some x:=⟨_,an q0⟩;exact .inr (.inl ⟨j,d,ps,G,hx,jn hx,by unfold fX;rw[if_neg h0,ar,hx]⟩)
theorem vq {l:List Po} (hm:eD (-1) l=true) (i:Int): -1<=eL l i/\eL l i<=2147483648:=by
 rcases eU l i with⟨_,h,_⟩|⟨j,d,ps,rfl,hx,h,_⟩|⟨_,h,_⟩
 ·omega
 ·have:=lp hm hx;omega
 ·omega
theorem DM {l:List Po} (hm:eD (-1) l=true) {i:Int}:(0<=eL l i/\eL l i<2147483648)↔0<=i/\i<l.length:=by
 rcases eU l i with⟨h0,h,_⟩|⟨j,d,ps,rfl,hx,h,_⟩|⟨h0,h,_⟩
 ·omega
 ·have:=lp hm hx;have:=(al.1 hx).1;omega
 ·omega
theorem Bg {g:List Po} {i:Nat} {d:Int} {ps:List Int} (h:g[i]? =some (d,ps)) (last:Int):cO last (g.take (i+1))=d:=by
 obtain⟨h1,h2⟩:=al.1 h;rw[eE h1,h2,AA];rfl
theorem Ck {l:List Po} (hm:eD (-1) l=true) {t s:Nat} {p:Po} (hp:l[t]? =some p) (L7:t<s):p.1<=cO (-1) (l.take s):=by
 obtain⟨d,ps⟩:=p;rw[<-Bg hp (-1)];exact pW l (-1) (t+1) s hm QZ L7
theorem mL {l:List Po} (hm:eD (-1) l=true) {t s:Nat} {p q:Po} (hp:l[t]? =some p) (hq:l[s]? =some q) (L7:t<s):p.1<q.1:=by
 obtain⟨e,qs⟩:=q;have h1:=Ck hm hp L7;have h2:=(pT hm hq).1;omega
theorem Bh {l lf:List Po} (hm:eD (-1) l=true) {s k:Nat} {to:Int} (h1:8*k<=s) (h2:s<8*k+8) (hs:s<l.length) (Y6:cO (-1) (l.take s)<to) (Z0:to<=cO (-1) (l.take (8*k+8)))
  (VD:lf=(l.drop s).take (8*k+8-s)):idx l to=s+idx lf to/\idx lf to<lf.length/\idx l to<l.length/\idx l to/8=k/\lf.drop (idx lf to)=kX l (idx l to:Nat):=by
 have Y7:s<=idx l to:=by
  rcases cI (idx l to) s with h|h
  ·have hx:l[idx l to]? =some l[idx l to]:=an q0;have:=yt hx;have:=Ck hm hx h;omega
  ·exact h
 obtain⟨⟨d,ps⟩,he⟩:∃x,l[min (8*k+8) l.length-1]? =some x:=⟨_,an q0⟩
 have hde:cO (-1) (l.take (8*k+8))=d:=by
  rw[<-Bg he (-1),show l.take (8*k+8)=l.take (min (8*k+8) l.length-1+1)from by rw[List.take_eq_take_iff];omega]
 have wz:=Cj he (to:=to) ai5;have LW:lf.length=min (8*k+8-s) (l.length-s):=by rw[VD,bJ,cP]
 have iC:∀t,t<lf.length->lf[t]? =l[s+t]? :=λt ht=>by rw[VD,dG,if_pos q0,gY]
 have hif:idx lf to=idx l to-s:=by
  refine idx_eq (λj hj p hp=>?_) (λp hp=>?_) q0
  ·have pb:=(al.1 hp).1;rw[iC j pb]at hp;exact yq q0 hp
  ·have pb:=(al.1 hp).1;rw[iC _ pb,show s+(idx l to-s)=idx l to from by omega]at hp;exact yt hp
 refine ⟨by omega,by omega,by omega,by omega,?_⟩;unfold kX;rw[if_neg q0,ar,hif,VD,List.drop_take,List.drop_drop,show s+(idx l to-s)=idx l to from by omega,List.take_eq_take_iff,cP];omega
theorem Rm {l:List Po} (hm:eD (-1) l=true) {to:Int} {n:Nat} (hn:l.length<=n) (Y6:cO (-1) (l.take n)<to):idx l to=l.length:=by
 refine idx_eq (λj hj p hp=>?_) (λp hp=>?_) (bu _)
 ·have:=Ck hm hp (s:=n) q0;omega
 ·simp at hp
theorem JS {l:List Po} (hm:eD (-1) l=true) {i k to:Int} (hi: -1<=i/\i<=l.length) (hk: -1<=k/\k<((l.length+7)/8:Nat)) (TS:i<0->k= -1) (pJ:0<=i->i<l.length->k=i/8) (ZT:eL l i<to):
  cO (-1) (l.take (8*(max k 0).toNat))<to:=by
 rcases eU l i with⟨h0,h,_⟩|⟨j,d,ps,rfl,hx,h,_⟩|⟨h0,h,_⟩
 ·rw[TS h0];simp only[show(max (-1:Int) 0).toNat=0 from by decide,Nat.mul_zero,List.take_zero,cO];omega
 ·have hj:=(al.1 hx).1;have DD:=pJ q0 q0;have h2:=(pT hm hx).1;have h3:=pW l (-1) (8*(max k 0).toNat) j hm QZ q0;omega
 ·have:=(kf l (-1) hm QZ (8*(max k 0).toNat)).2;omega
def Cu (T:TypeId) (l:List Po) (i:Int) (M:aL) (w:World) (bc:Nat):Prop:=
 ∃(p u:Value) (k DN:Int),M bc/\w.heap[bc]? =some (.cells #[p,.int .i64 k,u,.int .i64 (eL l i),.int .i64 DN] T (0,0))/\cM RT.li M w p (kM l)/\((RT.po).sl).V M w (kX l i) u/\
  (-1<=i/\i<=l.length)/\(-1<=k/\k<((l.length+7)/8:Nat))/\(i<0->k= -1)/\(0<=i->i<l.length->k=i/8)
theorem Cu.step {T:TypeId} {l:List Po} {i:Int} {M M' N:aL} {w w':World} {bc:Nat} (h:Cu T l i M w bc) (s:Step M w M' w' N) (hn: ¬N bc):Cu T l i M' w' bc:=by
 obtain⟨p,u,k,DN,h1,h2,h3,h4,h5⟩:=h;exact⟨p,u,k,DN,(s.mem bc (ah h2)).2 h1,s.bW h2 hn,h3.le QZ s.le,h4.le s.le,h5⟩
theorem Cu.rng {T:TypeId} {l:List Po} {i:Int} {M:aL} {w:World} {bc:Nat} (h:Cu T l i M w bc): -1<=i/\i<=l.length:=by
 obtain⟨p,u,k,DN,_,_,_,_,h5,_⟩:=h;exact h5
theorem VE {M:aL} {w:World} {d:Int} {ps:List Int} {v:Value} (h:RT.po.V M w (d,ps) v):∃u,v= .agg #[.int .i64 d,u]/\u.oneCell'=true/\(-9223372036854775808<=d/\d<=9223372036854775807):=by
 obtain⟨vs,⟨va,vb,rfl,⟨rfl,hd⟩,hb⟩,rfl⟩:=h;obtain⟨a,cap,rfl,_⟩:=hb;exact⟨_,G,G,hd⟩
section
variable {P:Program} {r:Option Nat} {n:Nat} {L:Sl} {ds:List Deferred} {w:World}
theorem rX {fn:Func} {Q:Value->World->Prop} {c t b:Nat} {vs:List Value} {fs:TypeDesc} {e:TypeId} {fr:Nat×Nat} {zv:Value} {size bytes:Nat} (hr:fn.results= #[.cell c t]) (hc:lk L c=some (.pointer (some ⟨b,0,none⟩))) (hu:P.underlying t=some fs) (hf:fs.isRow=true) (hi:TI P t zv size bytes) (hl:vs.length=size)
  (hb:w.heap[b]? =some (.cells vs.toArray e fr)) (h:Q (.agg vs.toArray) w):xj P fn Q .ret L [] w:=
 ⟨rfl,λa ha=>⟨_,by
  obtain⟨i,A5,_,F2,_⟩:=hi.get;have VA:w.rangeAt b 0 vs:=λj v hj=>iS hb a94
  have:=run_loadVar_mid (P:=P) w b 0 t vs fs VA hu hf (by simp[A5,F2,hl]);simp[results,hr,ha _ _ hc,asAddr,this,cj],h⟩⟩
end
section
variable {P:Program} {r:Option Nat} {n:Nat} {L:Sl} {ds:List Deferred} {w:World} {K:Kt} {ops:Array Oper} {rest:List Oper} {d:Nat} {ty:TypeId} {pos:String} {af:Array Edge} {x y i:Operand} {α:Type} {A:RT α}
theorem fI.set {M:aL} {x:α} {vs:List Value} (hx:A.R M w x vs):∀{xs:List α} {C:List Value},fI A M w xs C->∀{j:Nat},j<xs.length->fI A M w (xs.set j x) (C.take (j*A.n)++vs++C.drop (j*A.n+A.n))
 |[],_,_,j,hj=>by simp at hj
 |y::xs,_,⟨us,rest,h1,h2,h3⟩,0,_=>by
  subst h1;have hl:=A.len h2;refine⟨vs,rest,?_,hx,h3⟩;rw[Nat.zero_mul,List.take_zero,iJ,rC,<-hl,List.drop_left]
 |y::xs,_,⟨us,rest,h1,h2,h3⟩,j+1,hj=>by
  subst h1;have hl:=A.len h2;refine⟨us,_,?_,h2,fI.set hx h3 (j:=j) a94⟩;have e1:(j+1)*A.n=us.length+j*A.n:=by rw[Nat.add_mul,hl];omega
  rw[e1,List.take_length_add_append,show us.length+j*A.n+A.n=us.length+(j*A.n+A.n)from by omega,List.drop_length_add_append];simp
theorem Rn {l vs:List Value} {o:Nat} (h:o+vs.length<=l.length) (t:Nat):(l.take o++vs++l.drop (o+vs.length))[t]? =if o<=t/\t<o+vs.length then vs[t-o]? else l[t]? :=by
 have h1:(l.take o).length=o:=by rw[bJ];omega
 rcases cI t o with h2|h2
 ·rw[if_neg q0,rD,List.getElem?_append_left q0,dG,if_pos h2]
 ·rcases cI t (o+vs.length)with h3|h3
  ·rw[if_pos ⟨h2,h3⟩,List.getElem?_append_left (by rw[bM];omega),mT q0,h1]
  ·rw[if_neg q0,mT (by rw[bM];omega),gY,bM,h1];congr 1;omega
theorem Own.setCells {e:TypeId} {M:aL} {base g len cap j:Nat} {xs:List α} {x:α} {vs:List Value} (h:Own A e M w base (.slice (some ⟨g,0,none⟩) len cap) xs) (hj:j<xs.length) (hx:A.R M w x vs):
  ∃w',w'=w.setCells g (j*A.n) vs/\Own A e M w' base (.slice (some ⟨g,0,none⟩) len cap) (xs.set j x)/\Step M w M w' (λk=>k=g):=by
 obtain⟨⟨C,hr,ha⟩,hm⟩:=h;have hmg:=hm g rfl;have hl:=A.len hx;rcases hr.2 with⟨h1,_⟩|⟨g',Q7,cur,h1,h2,h3,h4,h5,h6,h7⟩
 ·cases h1
 ·simp only[Value.slice.injEq,Option.some.injEq,Addr.mk.injEq]at h1;obtain⟨⟨rfl,_⟩,rfl,rfl⟩:=h1;obtain⟨Md,c1,c2,c3,c4⟩:=pS vs w g (j*A.n) cur e (0,0) h3;have hs:=c4 M hmg;have hjn:j*A.n+A.n<=xs.length*A.n:=by have:=Nat.mul_le_mul_right A.n (show j+1<=xs.length from hj);rw[Nat.add_mul]at this;omega
  have jY:xs.length*A.n<=cap*A.n:=Nat.mul_le_mul_right _ h4;have Vg:C.length=xs.length*A.n:=hr.1;refine⟨_,rfl,⟨⟨C.take (j*A.n)++vs++C.drop (j*A.n+A.n),⟨?_,.inr ⟨g,cap,Md,by rw[List.length_set],h2,c1,by rw[List.length_set];exact h4,h5,by rw[c2];exact h6,?_⟩⟩,fI.set (A.le hs.le hx) (ha.le hs.le) hj⟩,λb hb=>hm b hb⟩,hs⟩
  ·rw[bM,bM,bJ,cP,Vg,List.length_set];omega
  ·rw[List.length_set];refine iG λt=>?_
   have Z1:=Rn (l:=C) (vs:=vs) (o:=j*A.n) (by rw[hl,Vg];exact hjn) t;rw[hl]at Z1;rw[Z1,dG];have hct:∀t,t<xs.length*A.n->C[t]? =cur[t]? :=λt ht=>by rw[<-h7,dG,if_pos ht];simp
   split
   ·rename_i ht
    have e0:Md.toList[t]? =Md[t]? :=by simp
    rw[e0,c3 t,hl];by_cases h8:j*A.n<=t/\t<j*A.n+A.n
    ·rw[if_pos ⟨h8.1,h8.2,by omega⟩,if_pos h8]
    ·rw[if_neg (λh=>h8 ⟨h.1,h.2.1⟩),if_neg h8,hct t ht]
   ·rename_i ht
    rw[if_neg q0,cJ (by rw[Vg];omega)]
end
section
variable {P:Program} {r:Option Nat} {n:Nat} {L:Sl} {ds:List Deferred} {w:World} {K:Kt} {ops:Array Oper} {rest:List Oper} {d:Nat} {x y i:Operand} {ty:TypeId} {pos:String} {af:Array Edge}
theorem Rg.yu {t e:TypeId} {κ:IntKind} {j:Int} {b len cap bytes:Nat} {zv:Value} (ht:P.underlying t=some (.slice e)) (hi:TI P e zv 1 bytes) (hx:ev L x=some (.slice (some ⟨b,0,none⟩) len cap)) (Gc:ev L i=some (.int κ j)) (hd:Nat.blt d n=true) (hj:0<=j/\j<len)
  (k:Rg P r n ops rest ((d,.pointer (some ⟨b,j.toNat,none⟩))::L) ds w K):
  Rg P r n ops ({dst:=some d,op:= .indexAddr t x i,type:=ty,pos,after:=af,guard:=none}::rest) L ds w K:=
 .op a04 rfl rfl hd _ w (λρ h=>by
  simp only[execOp,h x _ hx,h i _ Gc];simp[Instr.indexAt,run_underlying ht,asIntOf,hj,hi.sizeOf,Addr.add_mid]) k
theorem Rg.VF {t e:TypeId} {κ:IntKind} {j:Int} {b len bytes:Nat} {zv:Value} (ht:P.underlying t=some (.array len e)) (hi:TI P e zv 1 bytes) (hx:ev L x=some (.pointer (some ⟨b,0,none⟩))) (Gc:ev L i=some (.int κ j)) (hd:Nat.blt d n=true) (hj:0<=j/\j<len)
  (k:Rg P r n ops rest ((d,.pointer (some ⟨b,j.toNat,none⟩))::L) ds w K):
  Rg P r n ops ({dst:=some d,op:= .indexAddr t x i,type:=ty,pos,after:=af,guard:=none}::rest) L ds w K:=
 .op a04 rfl rfl hd _ w (λρ h=>by
  simp only[execOp,h x _ hx,h i _ Gc];simp[Instr.indexAt,run_underlying ht,asIntOf,hj,hi.sizeOf,Addr.add_mid,Instr.sureAddr]) k
theorem Rg.mk0 {t e:TypeId} {len:Nat} {bytes:Nat} {zv:Value} (M:aL) (ht:P.underlying t=some (.slice e)) (hi:TI P e zv 1 bytes) (hz:zv.cells= #[zv]) (hx:ev L x=some (.int .i64 len)) (hy:ev L y=some (.int .i64 len)) (hd:Nat.blt d n=true) (hb:bytes*len<=140737488355328) (hl:len<=9223372036854775807)
  (k:∀b w',w.heap.size<=b->b<w'.heap.size->w'.heap[b]? =some (.cells (List.replicate len zv).toArray e (0,0))->Step M w (ins M b) w' aD->Rg P r n ops rest ((d,.slice (some ⟨b,0,none⟩) len len)::L) ds w' K):
  Rg P r n ops ({dst:=some d,op:= .makeSlice t x y,type:=ty,pos,after:=af,guard:=none}::rest) L ds w K:=by
 obtain⟨inf,i1,i2,i3,i4⟩:=hi.get
 have hm:madeCells zv.cells (len*1)=(List.replicate len zv).toArray:=by
  apply Array.ext
  ·simp[madeCells]
  ·intro j h1 h2;simp[madeCells,hz,Nat.mod_one]
 refine .op a04 G G hd (.slice (some ⟨w.heap.size,0,none⟩) len len) (w.alloc (.cells (List.replicate len zv).toArray e)) (λρ hρ=>?_) (k w.heap.size _ (bu _) (by simp) (dn w _) ((dW M w _).own (bu _) (by simp)))
 have hbc:(inf.bytes:Int)*(len:Int)<=281474976710656:=by
  rw[i4];have h1:((bytes*len:Nat):Int)<=281474976710656:=by omega
  rwa [Int.natCast_mul]at h1
 have hr:=run_make (P:=P) w t e inf zv ht i1 i2 .i64 .i64 (len:Int) (len:Int) q0 (qt _) hbc q0;simp only[ar,i3,hm]at hr;simp only[execOp,hρ x _ hx,hρ y _ hy];simp[cj,hr]
theorem Rg.Z2 {xt:TypeId} {p:Nat} (hx:ev L x=some (.int .u64 p)) (hd:Nat.blt d n=true) (hp:p<2^64) (k:Rg P r n ops rest ((d,.int .u64 ((2^64-1-p:Nat):Int))::L) ds w K):
  Rg P r n ops ({dst:=some d,op:= .unOp .xor xt x,type:=ty,pos,after:=af,guard:=none}::rest) L ds w K:=by
 refine .op a04 G G hd _ w (λρ h=>?_) k
 have e:(2^64-1:Nat)^^^p=2^64-1-p:=by
  apply Nat.eq_of_testBit_eq;intro j;have h1:=Nat.testBit_two_pow_sub_succ (x:=p) (n:=64) hp j;rw[show 2^64-1-p=2^64-(p+1)from by omega,h1,Nat.testBit_xor,Nat.testBit_two_pow_sub_one];by_cases hj:j<64
  ·simp[hj]
  ·have:p.testBit j=false:=Nat.testBit_lt_two_pow (Nat.lt_of_lt_of_le hp (xh QZ q0));simp[hj,this]
 simp only[execOp,h x _ hx]
 have hb:(BitVec.ofInt IntKind.u64.bits IntKind.u64.max^^^BitVec.ofInt IntKind.u64.bits (p:Int)).toNat=2^64-1-p:=by
  rw[BitVec.toNat_xor,pM,pM];have h1:(IntKind.u64.max%((2^IntKind.u64.bits:Nat):Int)).toNat=2^64-1:=by decide
  have h2:((p:Int)%((2^IntKind.u64.bits:Nat):Int)).toNat=p:=by
   change((p:Int)%((18446744073709551616:Nat):Int)).toNat=p;omega
  rw[h1,h2,e]
 have hw:IntKind.u64.wrap ((2^64-1-p:Nat):Int)=((2^64-1-p:Nat):Int):=IntWalk.u64_in _ q0
 have hu:(Op.unary .xor (.int .u64 (p:Int))).run P w= .ok (.int .u64 ((2^64-1-p:Nat):Int)) w:=by
  change(Op.intBits .xor .u64 IntKind.u64.max (p:Int)).run P w=_;unfold Op.intBits;simp only[];rw[hb,hw];simp
 simp[hu]
theorem Rg.agk {xt:TypeId} {κ:IntKind} {p:Int} (hx:ev L x=some (.int κ p)) (hd:Nat.blt d n=true) (k:Rg P r n ops rest ((d,.int κ (κ.wrap (0-p)))::L) ds w K):
  Rg P r n ops ({dst:=some d,op:= .unOp .neg xt x,type:=ty,pos,after:=af,guard:=none}::rest) L ds w K:=by
 refine .op a04 G G hd _ w (λρ h=>?_) k;simp only[execOp,h x _ hx];simp[Op.unary,Op.intArith]
theorem Gm (p q:Nat) (hp:p<2^64) (hq:q<2^64):IntKind.u64.wrap (BitVec.ofInt IntKind.u64.bits (p:Int)&&&BitVec.ofInt IntKind.u64.bits (q:Int)).toNat=((p&&&q:Nat):Int):=by
 have h:∀z:Nat,z<2^64->((z:Int)%((2^IntKind.u64.bits:Nat):Int)).toNat=z:=λz hz=>by
  change((z:Int)%((18446744073709551616:Nat):Int)).toNat=z;omega
 rw[BitVec.toNat_and,pM,pM,h p hp,h q hq];exact IntWalk.u64_in _ (by have:=Nat.and_le_left (n:=p) (m:=q);omega)
theorem Z3 (p q:Nat) (hp:p<2^64) (hq:q<2^64):IntKind.u64.wrap (BitVec.ofInt IntKind.u64.bits (p:Int)^^^BitVec.ofInt IntKind.u64.bits (q:Int)).toNat=((p^^^q:Nat):Int):=by
 have h:∀z:Nat,z<2^64->((z:Int)%((2^IntKind.u64.bits:Nat):Int)).toNat=z:=λz hz=>by
  change((z:Int)%((18446744073709551616:Nat):Int)).toNat=z;omega
 rw[BitVec.toNat_xor,pM,pM,h p hp,h q hq];exact IntWalk.u64_in _ (by have:=Nat.xor_lt_two_pow hp hq;omega)
end
def bit (ws:List Nat) (i:Nat):Bool:=(ws.getD (i/64) 0).testBit (i%64)
def Words (ws:List Nat):Prop:=∀x∈ws,x<2^64
theorem Words.get {ws:List Nat} (h:Words ws) (k:Nat):ws.getD k 0<2^64:=by
 rw[b4]
 cases hx:ws[k]? with
 |none=>simp
 |some x=>exact h x (au hx)
theorem DO (ws:List Nat) (k j x:Nat) (hk:k<ws.length):(ws.set k x).getD j 0=if j=k then x else ws.getD j 0:=by
 rw[b4,b4,eS];by_cases h:k=j
 ·subst h;simp[hk]
 ·rw[if_neg h,if_neg (λe=>h e.symm)]
theorem Words.set {ws:List Nat} (h:Words ws) {k x:Nat} (hx:x<2^64):Words (ws.set k x):=λy hy=>by
 rcases List.mem_or_eq_of_mem_set hy with h1|h1
 ·exact h y h1
 ·rw[h1];exact hx
theorem Mr {ws:List Nat} (hw:Words ws) {i:Nat} (hi:i/64<ws.length) (j:Nat):bit (ws.set (i/64) (ws.getD (i/64) 0^^^2^(i%64))) j=(bit ws j ^^ decide (j=i)):=by
 unfold bit;rw[DO _ _ _ _ hi];by_cases h:j/64=i/64
 ·rw[if_pos h,Nat.testBit_xor,Nat.testBit_two_pow,h];congr 1;exact decide_eq_decide.2 q0
 ·rw[if_neg h,decide_eq_false (by intro e;rw[e]at h;exact h G),Bool.xor_false]
theorem DP (x i t:Nat):(x/2^i).testBit t=x.testBit (t+i):=Nat.testBit_div_two_pow x t
theorem Ms:∀x:Nat,0<x->∃k m,x=2^k*(2*m+1):=by
 intro x
 induction x using Nat.strongRecOn with
 |_ x ih=>
  intro h;by_cases h2:x%2=1
  ·exact⟨0,x/2,by omega⟩
  ·obtain⟨k,m,e⟩:=ih (x/2) q0 q0;refine ⟨k+1,m,?_⟩;rw[Nat.pow_succ,Nat.mul_right_comm,<-e];omega
theorem Mt (m:Nat):(2*m+1).testBit 0=true:=by rw[Nat.testBit_zero];exact decide_eq_true q0
theorem Ro (m:Nat):(2*m).testBit 0=false:=by rw[Nat.testBit_zero];exact decide_eq_false q0
theorem Cl {k m:Nat}:(2^k*(2*m+1)).testBit k=true/\∀t,t<k->(2^k*(2*m+1)).testBit t=false:=by
 have h:=λj=>Nat.testBit_two_pow_mul_add (2*m+1) (b:=0) (i:=k) (Nat.two_pow_pos k) j
 simp only[Nat.add_zero]at h;constructor
 ·rw[h k,if_neg q0,Nat.sub_self,Mt]
 ·intro t ht;rw[h t,if_pos ht,Nat.zero_testBit]
theorem Rp {k m:Nat} (hx:2^k*(2*m+1)<2^64):(2^k*(2*m+1))&&&(2^64-2^k*(2*m+1))=2^k:=by
 have hp:=Nat.two_pow_pos k;have xX:0<2^k*(2*m+1):=Nat.mul_pos hp q0
 have e1:2^64-2^k*(2*m+1)=2^64-((2^k*(2*m)+(2^k-1))+1):=by
  have:2^k*(2*m+1)=2^k*(2*m)+2^k:=by rw[Nat.mul_add,Nat.mul_one]
  omega
 apply Nat.eq_of_testBit_eq;intro j
 have e2:2^k*(2*m)+(2^k-1)<2^64:=by
  have:2^k*(2*m+1)=2^k*(2*m)+2^k:=by rw[Nat.mul_add,Nat.mul_one]
  omega
 rw[Nat.testBit_and,e1,Nat.testBit_two_pow_sub_succ e2,Nat.testBit_two_pow_mul_add _ q0,Nat.testBit_two_pow_sub_one,Nat.testBit_two_pow];have h:=Nat.testBit_two_pow_mul_add (2*m+1) (b:=0) (i:=k) hp j;simp only[Nat.add_zero]at h;rw[h];rcases fq j k with h1|h1|h1
 ·rw[if_pos h1,Nat.zero_testBit,eP,decide_eq_false q0]
 ·subst h1
  have hj:j<64:=by
   rcases cI j 64 with h2|h2
   ·exact h2
   ·have:=xh (n:=2) QZ h2;have:2^j*1<=2^j*(2*m+1):=Nat.mul_le_mul_left _ q0;omega
  rw[if_neg (ji _),if_neg (ji _),Nat.sub_self,Mt,Ro,decide_eq_true hj,decide_eq_true rfl];rfl
 ·rw[if_neg q0,if_neg q0,decide_eq_false (show¬k=j by omega)];obtain⟨t,rfl⟩:∃t,j=k+(t+1):=⟨j-k-1,by omega⟩;rw[show k+(t+1)-k=t+1 from by omega,Nat.testBit_succ,Nat.testBit_succ,show(2*m+1)/2=m from by omega,show 2*m/2=m from by omega]
  cases m.testBit t<;>simp
def Gn:List Nat:=[0,1,56,2,57,49,28,3,61,58,42,50,38,29,17,4,62,47,59,36,45,43,51,22,53,39,33,30,24,18,12,5,63,55,48,27,60,41,37,16,46,35,44,21,52,32,23,11,54,26,40,15,34,20,31,10,25,14,19,9,13,8,7,6]
theorem VG:∀k,k<64->(2^k*285870213051353865)%2^64/2^58<64/\Gn[(2^k*285870213051353865)%2^64/2^58]? =some k:=by decide+kernel
theorem Cm (n:Nat):IntKind.u64.wrap (n:Int)=((n%2^64:Nat):Int):=by
 have:IntKind.u64.wrap (n:Int)=(n:Int)%18446744073709551616:=by simp[IntKind.wrap,IntKind.bits,IntKind.signed]
 rw[this];omega
theorem VH (x t:Nat) (ht:t<64):((x:Int)).fdiv (2^min ((t:Int)).toNat IntKind.u64.bits)=((x/2^t:Nat):Int):=by
 rw[ar,show min t IntKind.u64.bits=t from xR (show t<=64 by omega),show(2:Int)^t=((2^t:Nat):Int)from by simp,Int.fdiv_eq_ediv_of_nonneg _ (Int.natCast_nonneg _)];rfl
theorem Z4 (t:Nat) (ht:t<64):IntKind.u64.wrap (1*2^min ((t:Int)).toNat IntKind.u64.bits)=((2^t:Nat):Int):=by
 have h:(2:Nat)^t<2^64:=Nat.pow_lt_pow_right QZ ht;rw[ar,show min t IntKind.u64.bits=t from xR (show t<=64 by omega),Int.one_mul,show(2:Int)^t=((2^t:Nat):Int)from by simp,Cm,Nat.mod_eq_of_lt h]
def pX (ws:List Nat):Array Value:=(ws.map fun(x:Nat)=>Value.int .u64 (x:Int)).toArray
theorem je {ws:List Nat} {k:Nat} (hk:k<ws.length):(pX ws)[k]? =some (.int .u64 (ws.getD k 0:Nat)):=by
 simp[pX,b4,an hk]
theorem rY (ws:List Nat) (k x:Nat):(pX ws).setIfInBounds k (.int .u64 (x:Int))=pX (ws.set k x):=by
 simp[pX,List.map_set]
structure ju (Ts Tw:TypeId) (n:Nat) (ws:List Nat) (M:aL) (w:World) (bs bw:Nat):Prop where
 ms:M bs
 mw:M bw
 ne:bs≠bw
 s:w.heap[bs]? =some (.cells #[.int .i64 n,.slice (some ⟨bw,0,none⟩) ws.length ws.length] Ts (0,0))
 w:w.heap[bw]? =some (.cells (pX ws) Tw (0,0))
 len:ws.length=(n+63)/64
 ok:Words ws
 nn:n<=1099511627776
theorem ju.step {Ts Tw:TypeId} {n:Nat} {ws:List Nat} {M M' N:aL} {w w':World} {bs bw:Nat} (h:ju Ts Tw n ws M w bs bw) (s:Step M w M' w' N) (h1: ¬N bs) (h2: ¬N bw):ju Ts Tw n ws M' w' bs bw:=
 ⟨(s.mem bs (ah h.s)).2 h.ms,(s.mem bw (ah h.w)).2 h.mw,h.ne,s.bW h.s h1,s.bW h.w h2,h.len,h.ok,h.nn⟩
theorem ju.put {Ts Tw:TypeId} {n:Nat} {ws xH:List Nat} {M:aL} {w w':World} {bs bw:Nat} (h:ju Ts Tw n ws M w bs bw) (s:Step M w M w' (λb=>b=bw)) (hl:xH.length=ws.length) (hw:w'.heap[bw]? =some (.cells (pX xH) Tw (0,0))) (ok:Words xH):ju Ts Tw n xH M w' bs bw:=
 ⟨h.ms,h.mw,h.ne,by rw[hl];exact s.bW h.s h.ne,hw,by rw[hl];exact h.len,ok,h.nn⟩
def TT (n:Nat) (ws:List Nat) (i:Int):Bool:=decide (0<=i/\i<n)&&bit ws i.toNat
section
variable {P:Program} {r:Option Nat} {n:Nat} {L:Sl} {ds:List Deferred} {w:World} {K:Kt} {ops:Array Oper} {rest:List Oper} {d:Nat} {x:Operand} {ty:TypeId} {pos:String} {af:Array Edge}
end
theorem Co (ws:List Nat) {k x:Nat} (hk:k<ws.length) (j:Nat):bit (ws.set k x) j=if j/64=k then x.testBit (j%64)else bit ws j:=by
 unfold bit;rw[DO _ _ _ _ hk]
 split<;>rfl
theorem Mu {x t:Nat} (hx:x<2^64) (ht:t<64):(2^64-1-x).testBit t= !x.testBit t:=by
 rw[show 2^64-1-x=2^64-(x+1)from by omega,Nat.testBit_two_pow_sub_succ hx,decide_eq_true ht,dr]
theorem Rq {ws:List Nat} {j:Nat} (h:ws.length<=j/64):bit ws j=false:=by
 unfold bit;rw[b4,cJ h];simp
theorem DQ (k j:Nat):bit (List.replicate k 0) j=false:=by
 unfold bit;rw[b4,List.getElem?_replicate]
 split<;>simp
def TU (ws:List Nat) (p:Nat) (r:Int):Prop:=(∃j:Nat,r=j/\p<=j/\bit ws j=true/\∀t,p<=t->t<j->bit ws t=false)\/(r= -1/\∀t,p<=t->bit ws t=false)
theorem yv {ws:List Nat} {i t:Nat} (h:i%64+t<64):bit ws (i+t)=(ws.getD (i/64) 0/2^(i%64)).testBit t:=by
 unfold bit;rw[DP,show(i+t)/64=i/64 from by omega,show(i+t)%64=t+i%64 from by omega]
theorem DR {x i:Nat} (hx:x<2^64) (hi:i<64) {k m:Nat} (h:x/2^i=2^k*(2*m+1)):i+k<64:=by
 rcases cI (i+k) 64 with h1|h1
 ·exact h1
 ·exfalso;have h2:(x/2^i).testBit k=true:=by rw[h];exact Cl.1
  rw[DP]at h2;have:=Nat.testBit_lt_two_pow (Nat.lt_of_lt_of_le hx (xh (n:=2) QZ (show 64<=k+i by omega)));rw[this]at h2;cases h2
abbrev Fo:=Int×Int
abbrev Tw:=Int×Int×Int
abbrev RT.fo:RT Fo:=RT.pair (RT.int .i64) (RT.int .i64)
theorem Z5:Part RT.fo (RT.int .i64) (λp=>p.1) 0:=jI _ _
theorem fo1:Part RT.fo (RT.int .i64) (λp=>p.2) 1:=fa _ _
def RT.Dp:RT Nat where
 n:=1
 agg:=false
 R:=λ_ _ b vs=>vs=[.pointer (some ⟨b,0,none⟩)]
 len:=by rintro _ _ x vs rfl;rfl
 one:=by rintro _ _ x vs rfl v hv;simp at hv;subst hv;rfl
 le:=λ_ h=>h
theorem nC {M:aL} {w:World} {b:Nat} {v:Value}:RT.Dp.V M w b v↔v= .pointer (some ⟨b,0,none⟩):=⟨fun⟨_,h1,h2⟩=>by cases h1;exact h2,λh=>⟨_,G,h⟩⟩
def mn (l:List Fo) (x:Int):Int:=match l with| []=>x|p::_=>min x p.1
def hit (l:List Fo) (x:Int):Bool:=match l with| []=>false|p::_=>decide (p.1=x)
def fL (l:List Fo) (x:Int):List Fo:=if hit l x then l.tail else l
def nD (l:List Fo) (x s:Int):Int:=if hit l x then IntKind.i64.wrap (s+(l.headD (0,0)).2)else s
def nE (l:List Fo) (x m:Int):Int:=if hit l x then m+1 else m
def iZ (a b:List Fo):Int:=mn b (mn a 2147483648)
def QN (a b:List Fo) (k:Nat):Int:=if k=0 then 2147483648 else if k=1 then mn a 2147483648 else iZ a b
def rf (a b:List Fo) (k:Nat):Int:=if k=0 then 0 else if k=1 then nE a (iZ a b) 0 else nE b (iZ a b) (nE a (iZ a b) 0)
def rh (a b:List Fo) (k:Nat):Int:=if k=0 then 0 else if k=1 then nD a (iZ a b) 0 else nD b (iZ a b) (nD a (iZ a b) 0)
def lK (l:List Fo) (x:Int) (c:Bool):List Fo:=if c then fL l x else l
def ri (l:List Fo):Prop:=∀p∈l,-9223372036854775808<=p.1/\p.1<2147483648
theorem kN {a b lk:List Fo} {k:Nat} (h: [a,b][k]? =some lk):QN a b (k+1)=mn lk (QN a b k):=by
 match k with
 |0=>simp at h;subst h;simp[QN]
 |1=>simp at h;subst h;simp[QN,iZ]
 |k+2=>simp at h
theorem iD {a b lk:List Fo} {k:Nat} (h: [a,b][k]? =some lk):rf a b (k+1)=nE lk (iZ a b) (rf a b k):=by
 match k with
 |0=>simp at h;subst h;simp[rf]
 |1=>simp at h;subst h;simp[rf]
 |k+2=>simp at h
theorem iE {a b lk:List Fo} {k:Nat} (h: [a,b][k]? =some lk):rh a b (k+1)=nD lk (iZ a b) (rh a b k):=by
 match k with
 |0=>simp at h;subst h;simp[rh]
 |1=>simp at h;subst h;simp[rh]
 |k+2=>simp at h
theorem It (a b:List Fo) (k:Nat):0<=rf a b k/\rf a b k<=2:=by
 unfold rf nE
 repeat' split
 all_goals omega
theorem Rr {a b:List Fo} (ha:ri a) (hb:ri b): -9223372036854775808<=iZ a b/\iZ a b<=2147483648:=by
 unfold iZ mn
 split
 ·split
  ·omega
  ·have:=ha _ (bP ..);omega
 ·have:=hb _ (bP ..)
  split
  ·omega
  ·have:=ha _ (bP ..);omega
theorem Rs (a b:List Fo) (k:Nat): -9223372036854775808<=rh a b k/\rh a b k<=9223372036854775807:=by
 have hw:=λx=>DH (x:=x)
 unfold rh nD
 repeat' split
 all_goals first|exact hw _|omega
theorem DS (l:List Fo) (x:Int):(fL l x).length<=l.length:=by
 unfold fL;split
 ·simp
 ·exact bu _
theorem DT {l:List Fo} {x:Int} (h:hit l x=true):(fL l x).length<l.length:=by
 unfold fL;rw[if_pos h]
 cases l with
 |nil=>simp[hit]at h
 |cons p l=>simp
theorem ri.rest {l:List Fo} (h:ri l) (x:Int):ri (fL l x):=by
 unfold fL;split
 ·exact λp hp=>h p (List.mem_of_mem_tail hp)
 ·exact h
theorem vu {p:Fo} {l:List Fo} {x:Int} (h:p.1=x):hit (p::l) x=true:=decide_eq_true h
theorem Mv {a b:List Fo} (ha:ri a) (hb:ri b) (h:a≠[]\/b≠[]):hit a (iZ a b)=true\/hit b (iZ a b)=true:=by
 cases a with
 |nil=>
  cases b with
  |nil=>simp at h
  |cons q b=>
   have:=hb q (bP ..);exact .inr (vu (show q.1=min 2147483648 q.1 by omega))
 |cons p a=>
  have h1:=ha p (bP ..)
  cases b with
  |nil=>exact .inl (vu (show p.1=min 2147483648 p.1 by omega))
  |cons q b=>
   have h2:=hb q (bP ..);rcases Int.lt_or_le q.1 p.1 with h3|h3
   ·exact .inr (vu (show q.1=min (min 2147483648 p.1) q.1 by omega))
   ·exact .inl (vu (show p.1=min (min 2147483648 p.1) q.1 by omega))
theorem qz {a b:List Fo} (ha:ri a) (hb:ri b) (h:a≠[]\/b≠[]):(fL a (iZ a b)).length+(fL b (iZ a b)).length<a.length+b.length:=by
 have h1:=DS a (iZ a b);have h2:=DS b (iZ a b);rcases Mv ha hb h with h3|h3
 ·have:=DT h3;omega
 ·have:=DT h3;omega
def Mw (least:Int):Nat->List Fo->List Fo->List Fo
 |0,_,_=>[]
 |n+1,a,b=>if a=[]/\b=[]then[]else(if least<=rf a b 2 then[(iZ a b,rh a b 2)]else[])++Mw least n (fL a (iZ a b)) (fL b (iZ a b))
theorem DV (least:Int):∀(n m:Nat) (a b:List Fo),ri a->ri b->a.length+b.length<=n->n<=m->Mw least m a b=Mw least n a b
 |0,m,a,b,_,_,h,_=>by
  have ha:a=[]:=cL.1 q0;have hb:b=[]:=cL.1 q0
  cases m with
  |zero=>rfl
  |succ m=>subst ha;subst hb;simp[Mw]
 |n+1,0,a,b,_,_,_,h=>by omega
 |n+1,m+1,a,b,ha,hb,h1,h2=>by
  rw[Mw,Mw]
  split
  ·rfl
  ·rename_i h3
   rw[DV least n m _ _ (ha.rest _) (hb.rest _) (by have:=qz ha hb (by by_cases h:a=[];right;exact λh'=>h3 ⟨h,h'⟩;left;exact h);omega) q0]
def Dq (least:Int) (a b:List Fo):List Fo:=Mw least (a.length+b.length) a b
theorem Rt (least:Int):Dq least [] []=[]:=rfl
theorem tx {least:Int} {a b:List Fo} (ha:ri a) (hb:ri b) (h:a≠[]\/b≠[]):Dq least a b=(if least<=rf a b 2 then[(iZ a b,rh a b 2)]else[])++Dq least (fL a (iZ a b)) (fL b (iZ a b)):=by
 have h1:=qz ha hb h;unfold Dq;obtain⟨n,hn⟩:∃n,a.length+b.length=n+1:=⟨a.length+b.length-1,by omega⟩;rw[hn,Mw,if_neg (by rintro⟨h2,h3⟩;rcases h with h|h;exact h h2;exact h h3),DV least _ n _ _ (ha.rest _) (hb.rest _) (bu _) q0]
theorem xI:∀(least:Int) (n:Nat) (a b:List Fo),(Mw least n a b).length<=n
 |_,0,_,_=>by simp[Mw]
 |least,n+1,a,b=>by
  rw[Mw]
  split
  ·simp
  ·have:=xI least n (fL a (iZ a b)) (fL b (iZ a b));rw[bM]
   split<;>simp<;>omega
theorem DW {M:aL} {w:World} {a b:Int} (ha: -9223372036854775808<=a/\a<=9223372036854775807) (hb: -9223372036854775808<=b/\b<=9223372036854775807):RT.fo.V M w (a,b) (.agg [.int .i64 a,.int .i64 b].toArray):=
 fz (gJ ha) (gJ hb) rfl rfl rfl rfl
section
variable {P:Program} {r:Option Nat} {n:Nat} {L:Sl} {ds:List Deferred} {w:World} {K:Kt} {ops:Array Oper} {rest:List Oper} {d:Nat} {x y:Operand} {ty:TypeId} {pos:String} {af:Array Edge}
theorem lr {t:TypeId} {k:IntKind} (ht:P.underlying t=some (.int k)) {cs:Array Value} {off:Nat} {v:Value} (hv:cs[off]? =some v):(part t cs off).run P w= .ok v w:=by
 have Gb:(isAgg t).run P w= .ok false w:=by
  unfold isAgg;rw[cj,run_underlying ht w];simp
 unfold part;rw[cj,Gb];simp[hv]
theorem AB {t:TypeId} {f g:Field} (ht:P.underlying t=some (.struct #[f,g])) (hp:P.stoodInHeld t=false) (hf:P.underlying f.type=some (.int .i64)) (hg:P.underlying g.type=some (.int .i64)) (hn:f.name≠ "_") (Lr:g.name≠ "_") (ho:f.offset=0) (iu:g.offset=1) (a b c e:Int):
  (Op.equal t (.agg #[.int .i64 a,.int .i64 b]) (.agg #[.int .i64 c,.int .i64 e])).run P w= .ok (decide ((a,b)=(c,e))) w:=by
 have TO:P.fieldsOf t= #[f,g]:=by simp[Program.fieldsOf,ht]
 have hs:=run_equalIn_struct (P:=P) w 9999 t #[.int .i64 a,.int .i64 b] #[.int .i64 c,.int .i64 e] (by rw[TO];exact ht) hp;have hi:∀(k:Nat) (t':TypeId),P.underlying t'=some (.int .i64)->∀p q:Int,(Op.equalIn (k+1) t' (.int .i64 p) (.int .i64 q)).run P w= .ok (p==q) w:=λk t' h p q=>by simp[Op.equalIn,run_underlying h]
 change(Op.equalIn (9999+1) t _ _).run P w=_;rw[hs,TO];simp only[Op.eqFields,hn,Lr,ho,iu,ne_eq,not_false_eq_true,if_true,cj];rw[lr hf (v:= .int .i64 a) rfl];simp only[cA];rw[lr hf (v:= .int .i64 c) rfl];simp only[cA];rw[hi 9998 _ hf];simp only[cA];by_cases h1:a=c
 ·subst h1;simp only[beq_self_eq_true,Bool.not_true,Bool.false_eq_true,if_false,cj];rw[lr hg (v:= .int .i64 b) rfl];simp only[cA];rw[lr hg (v:= .int .i64 e) rfl];simp only[cA];rw[hi 9998 _ hg];simp only[cA];by_cases h2:b=e
  ·subst h2;simp
  ·simp[h2]
 ·simp[h1]
theorem Rg.Z6 {t t':TypeId} {f g:Field} {a b c e:Int} (ht:P.underlying t=some (.struct #[f,g])) (hp:P.stoodInHeld t=false) (hq:P.eqGuardType P.depth t=false) (hf:P.underlying f.type=some (.int .i64)) (hg:P.underlying g.type=some (.int .i64)) (hn:f.name≠ "_") (Lr:g.name≠ "_") (ho:f.offset=0) (iu:g.offset=1)
  (hx:ev L x=some (.agg #[.int .i64 a,.int .i64 b])) (hy:ev L y=some (.agg #[.int .i64 c,.int .i64 e])) (hd:Nat.blt d n=true)
  (k:Rg P r n ops rest ((d,.bool (decide (¬((a,b)=(c,e)))))::L) ds w K):
  Rg P r n ops ({dst:=some d,op:= .binOp .neq t x y t',type:=ty,pos,after:=af,guard:=none}::rest) L ds w K:=
 .op a04 rfl rfl hd _ w (λρ h=>by
  have he:=AB (P:=P) (w:=w) ht hp hf hg hn Lr ho iu a b c e;simp only[execOp];rw[h x _ hx,h y _ hy];rw[cj,cj,run_eqGuard_agg (P:=P) w .neq t x y _ _ hq];simp[binOp,he]) k
end
def rZ (l:List Fo) (d:Int):Bool:=l.any λp=>decide (p.1=d)
theorem JT {l:List Fo} {k:Nat} {p:Fo} (h:l[k]? =some p) (d:Int):rZ (l.take (k+1)) d=(rZ (l.take k) d||decide (p.1=d)):=by
 obtain⟨h1,h2⟩:=al.1 h;unfold rZ;rw[eE h1,h2,List.any_append];simp
def pY (a:List Fo) (p:Nat):List Fo:=((List.range p).filter fun(d:Nat)=> !rZ a (d:Int)).map fun(d:Nat)=>((d:Int),0)
theorem Bi (a:List Fo) (p:Nat):pY a (p+1)=pY a p++if rZ a (p:Int)then[]else[((p:Int),0)]:=by
 unfold pY;rw[pG,fC,dM];congr 1
 cases h:rZ a (p:Int)<;>simp[List.filter,h]
theorem vv {a:List Fo} {p:Nat}:∀(j:Nat),p<=j->(∀t,p<=t->t<j->rZ a (t:Int)=true)->pY a j=pY a p
 |j,h1,h2=>by
  rcases cI p j with h|h
  ·obtain⟨c,rfl⟩:∃c,j=c+1:=⟨j-1,by omega⟩;rw[Bi,h2 c q0 q0,if_pos rfl,fV];exact vv c q0 (λt h3 h4=>h2 t h3 q0)
  ·rw[show j=p from by omega]
theorem DX (a:List Fo) (p:Nat):(pY a p).length<=p:=by
 unfold pY;rw[b9];exact dm (gU _ _) (by rw[List.length_range];exact bu _)
end Go.K
namespace Go.K
open Go.RowKit (Below)
open Go.Maps (Keyed)
open Go.ChangeMaps (putKey delKey notKey)
abbrev DU:=DataW Unit
structure Z7 (P:Program) (k:TypeId) (R:Value->Option (DU×List MemPlace)) (M:aL) (w:World) (b:Nat) (m:List (Lit×DU)):Prop where
 mut_:M b
 own:w.ownsMap P k R b m.length (.map m)
section
variable {P:Program} {r:Option Nat} {n:Nat} {L:Sl} {ds:List Deferred} {w:World} {K:Kt} {ops:Array Oper} {rest:List Oper} {d:Nat} {x y z:Operand} {ty:TypeId} {pos:String} {af:Array Edge}
variable {kt:TypeId} {R:Value->Option (DU×List MemPlace)} {M:aL} {b:Nat} {m:List (Lit×DU)}
theorem Step.Cp {w w':World} (h:Below w.heap.size w w') (M:aL):Step M w M w' aD:=
 ⟨λh0 b hb=>Nat.lt_of_lt_of_le (h0 b hb) h.size,h.os,h.tape,h.output,h.size,λ_ _=>Iff.rfl,λb hb _=>h.block b hb,λ_ h=>h.elim⟩
end
end Go.K
namespace Go.K
def allM:aL:=λ_=>True
theorem Step.all {M M' N:aL} {w w':World} (s:Step M w M' w' N):Step allM w allM w' N:=⟨λh=>absurd (h w.heap.size trivial) (ji _),s.os,s.tape,s.output,s.size,λ_ _=>Iff.rfl,s.same,λ_ _=>trivial⟩
theorem Step.toAny {M M':aL} {w w':World} (s:Step M w M' w' aD) (M1:aL):Step M1 w M1 w' aD:=s.any M1
theorem fI.int {κ:IntKind} {M M':aL} {w w':World}:∀{xs:List Int} {C:List Value},fI (RT.int κ) M w xs C->fI (RT.int κ) M' w' xs C
 |[],_,h=>h
 |x::xs,C,h=>by
  obtain⟨vs,r,h1,h2,h3⟩:=h;exact⟨vs,r,h1,h2,fI.int h3⟩
theorem Own.Ru {κ:IntKind} {e:TypeId} {M:aL} {w:World} {base:Nat} {v:Value} {xs:List Int} (h:Own (RT.int κ) e M w base v xs) {M':aL} (hm:∀b,v.ownBlock=some b->M' b):Own (RT.int κ) e M' w base v xs:=by
 obtain⟨⟨C,h1,h2⟩,_⟩:=h;exact⟨⟨C,h1,fI.int h2⟩,hm⟩
theorem Own.Z8 {κ:IntKind} {e:TypeId} {N:aL} {w w':World} {base:Nat} {v:Value} {xs:List Int} (h:Own (RT.int κ) e allM w base v xs) (s:Step allM w allM w' N) (hn:∀b,v.ownBlock=some b->¬N b):Own (RT.int κ) e allM w' base v xs:=by
 obtain⟨⟨C,h1,h2⟩,_⟩:=h;refine⟨⟨C,⟨h1.1,?_⟩,fI.int h2⟩,λ_ _=>trivial⟩;rcases h1.2 with h3|⟨g,cap,cur,h3,h4,h5,h6,h7,h8⟩
 ·exact .inl h3
 ·exact .inr ⟨g,cap,cur,h3,h4,by rw[s.same g (ah h5) (hn g (by rw[h3];rfl))];exact h5,h6,h7,h8⟩
def qO (v:Value):aL:=λb=>v.ownBlock=some b
theorem Own.lone {κ:IntKind} {e:TypeId} {M:aL} {w:World} {base:Nat} {v:Value} {xs:List Int} (h:Own (RT.int κ) e M w base v xs):Own (RT.int κ) e (qO v) w base v xs:=h.Ru λ_ h=>h
def DY (at':Nat->Nat) (cont:Nat->Bool):Nat×Nat:=
 if at' 0<0x80 then(at' 0,1)
 else if at' 0/32==6&&cont 1 then
  if(at' 0%32)*64+at' 1%64>=0x80 then((at' 0%32)*64+at' 1%64,2)else(65533,1)
 else if at' 0/16==14&&cont 1&&cont 2 then
  if(at' 0%16)*4096+(at' 1%64)*64+at' 2%64>=0x800&&Utf8.valid ((at' 0%16)*4096+(at' 1%64)*64+at' 2%64:Nat)then((at' 0%16)*4096+(at' 1%64)*64+at' 2%64,3)else(65533,1)
 else if at' 0/8==30&&cont 1&&cont 2&&cont 3 then
  if(at' 0%8)*262144+(at' 1%64)*4096+(at' 2%64)*64+at' 3%64>=0x10000&&Utf8.valid ((at' 0%8)*262144+(at' 1%64)*4096+(at' 2%64)*64+at' 3%64:Nat)then((at' 0%8)*262144+(at' 1%64)*4096+(at' 2%64)*64+at' 3%64,4)else(65533,1)
 else(65533,1)
theorem JU (s:ByteArray) (i:Nat):Utf8.decode s i=DY (λk=>(s.get! (i+k)).toNat) (λk=>decide (i+k<s.size)&&(s.get! (i+k)).toNat/64==2):=rfl
def jZ (l:List UInt8) (k:Nat):Nat:=(l.getD k 0).toNat
def j5 (l:List UInt8) (k:Nat):Bool:=decide (k<l.length)&&jZ l k/64==2
def dec (l:List UInt8):Nat×Nat:=DY (jZ l) (j5 l)
theorem JV (l:List UInt8) (j:Nat):(⟨l.toArray⟩:ByteArray).get! j=l.getD j 0:=by
 show l.toArray[j]! =_;rw[b4,getElem!_def];simp only[gV]
 cases l[j]? <;>rfl
theorem Gp (l:List UInt8) (pos:Nat):Utf8.decode ⟨l.toArray⟩ pos=dec (l.drop pos):=by
 rw[JU,dec]
 have h1:(λk=>((⟨l.toArray⟩:ByteArray).get! (pos+k)).toNat)=jZ (l.drop pos):=by
  funext k;rw[JV,jZ,b4,b4,gY]
 have h2:(λk=>decide (pos+k<(⟨l.toArray⟩:ByteArray).size)&&((⟨l.toArray⟩:ByteArray).get! (pos+k)).toNat/64==2)=j5 (l.drop pos):=by
  funext k;have:=congrFun h1 k;rw[this,j5,cP];congr 1;have hs:(⟨l.toArray⟩:ByteArray).size=l.length:=by simp[ByteArray.size]
  rw[hs];exact decide_eq_decide.2 q0
 rw[h1,h2]
theorem yx {l:List UInt8} {k:Nat} (h:j5 l k=true):k<l.length:=by
 simp only[j5,cr,decide_eq_true_eq]at h;exact h.1
theorem jo {l:List UInt8} (hl:l≠[]):1<=(dec l).2/\(dec l).2<=l.length:=by
 have h0:0<l.length:=dI.2 hl;unfold dec DY
 split
 ·exact⟨bu _,h0⟩
 ·split
  ·rename_i h
   simp only[cr]at h;have:=yx h.2
   split<;>(simp only;omega)
  ·split
   ·rename_i h
    simp only[cr]at h;have:=yx h.2
    split<;>(simp only;omega)
   ·split
    ·rename_i h
     simp only[cr]at h;have:=yx h.2
     split<;>(simp only;omega)
    ·exact⟨bu _,h0⟩
theorem oz (l:List UInt8) (k:Nat):jZ l k<256:=by unfold jZ;exact UInt8.toNat_lt _
theorem qA (l:List UInt8):(dec l).1<=1114111:=by
 unfold dec DY
 split
 ·simp only;omega
 ·split
  ·have:=oz l 0
   split<;>(simp only;omega)
  ·split
   ·have:=oz l 0
    split<;>(simp only;omega)
   ·split
    ·split
     ·rename_i h
      simp only[cr,Utf8.valid,Bool.or_eq_true,decide_eq_true_eq]at h;simp only;omega
     ·simp only;omega
    ·simp only;omega
def dC (l:List UInt8):List Int:=match l with
 |[]=>[]
 |c::r=>((dec (c::r)).1:Int)::dC ((c::r).drop (dec (c::r)).2)
termination_by l.length
decreasing_by
 have:=(jo (l:=c::r) (by simp)).1;simp only[cP,cH];omega
theorem nF:dC []=[]:=by unfold dC;rfl
theorem lY {l:List UInt8} (h:l≠[]):dC l=((dec l).1:Int)::dC (l.drop (dec l).2):=by
 cases l with
 |nil=>exact absurd rfl h
 |cons c r=>rw[dC]
theorem gF (l:List UInt8):(dC l).length<=l.length:=by
 induction hn:l.length using Nat.strongRecOn generalizing l with
 |_ n ih=>
  by_cases h:l=[]
  ·subst h;rw[nF];simp
  ·rw[lY h,cH];have hw:=jo h;have:=ih _ (by rw[cP];omega) (l.drop (dec l).2) rfl;rw[cP]at this;omega
section
variable {P:Program} {r:Option Nat} {n:Nat} {L:Sl} {ds:List Deferred} {w:World} {K:Kt} {ops:Array Oper} {rest:List Oper} {d:Nat} {x:Operand} {ty:TypeId} {pos:String} {af:Array Edge}
theorem Rg.Mx {t:TypeId} {l:List UInt8} (M:aL) (ht:P.underlying t=some .string) (hx:ev L x=some (.string ⟨l.toArray⟩)) (hd:Nat.blt d n=true)
  (k:∀b w',w.heap.size<=b->b<w'.heap.size->w'.heap[b]? =some (.stringIter ⟨l.toArray⟩ 0)->Step M w (ins M b) w' aD->Rg P r n ops rest ((d,.pointer (some ⟨b,0,none⟩))::L) ds w' K):
  Rg P r n ops ({dst:=some d,op:= .range t x,type:=ty,pos,after:=af,guard:=none}::rest) L ds w K:=by
 refine .op a04 G G hd (.pointer (some ⟨w.heap.size,0,none⟩)) (w.alloc (.stringIter ⟨l.toArray⟩ 0)) (λρ hρ=>?_) (k w.heap.size _ (bu _) (by simp) (dn w _) ((dW M w _).own (bu _) (by simp)));simp only[execOp,hρ x _ hx];simp[Instr.range,cj,run_underlying ht,newObj,Sem.run]
theorem im (M:aL) {b:Nat} {o:Obj} (hm:M b):Step M w M {w with heap:=w.heap.setIfInBounds b o} (λk=>k=b):=
 ⟨λh b hb=>by simpa using h b hb,rfl,rfl,rfl,by simp,λ_ _=>Iff.rfl,λk _ hn=>by simp[dv,Ne.symm hn],λk hk=>by subst hk;exact hm⟩
theorem pZ {b p:Nat} {s:ByteArray} (hb:w.heap[b]? =some (.stringIter s p)):(getObj b).run P w= .ok (.stringIter s p) w:=by simp[getObj,Sem.run,hb]
theorem Rg.Rv {l:List UInt8} {b p:Nat} {M:aL} (hx:ev L x=some (.pointer (some ⟨b,0,none⟩))) (hb:w.heap[b]? =some (.stringIter ⟨l.toArray⟩ p)) (hm:M b) (hd:Nat.blt d n=true)
  (k1:p<l.length->∀w',w'.heap[b]? =some (.stringIter ⟨l.toArray⟩ (p+(dec (l.drop p)).2))->Step M w M w' (λk=>k=b)->Rg P r n ops rest ((d,.tuple #[.bool true,.int .i64 p,.int .i32 ((dec (l.drop p)).1:Nat)])::L) ds w' K)
  (k2: ¬p<l.length->Rg P r n ops rest ((d,.tuple #[.bool false])::L) ds w K):
  Rg P r n ops ({dst:=some d,op:= .next x true,type:=ty,pos,after:=af,guard:=none}::rest) L ds w K:=by
 have hs:(⟨l.toArray⟩:ByteArray).size=l.length:=by simp[ByteArray.size]
 have eQ:=ah hb;by_cases h:p<l.length
 ·have key:=k1 h {w with heap:=w.heap.setIfInBounds b (.stringIter ⟨l.toArray⟩ (p+(dec (l.drop p)).2))} (by simp[dv,eQ]) (im M hm);refine .op a04 G G hd _ _ (λρ hρ=>?_) key;simp only[execOp,hρ x _ hx,Instr.next,cj,pZ hb,cA];rw[if_pos (by rw[hs];exact h)];simp[Gp,setObj,Sem.run,goInt,hb]
 ·refine .op a04 G G hd _ w (λρ hρ=>?_) (k2 h);simp only[execOp,hρ x _ hx,Instr.next,cj,pZ hb,cA];rw[if_neg (by rw[hs];exact h)];simp
theorem Rg.Iu {t:TypeId} {i:Operand} {l:List UInt8} {κ:IntKind} {j:Int} {c:UInt8} (ht:P.underlying t=some .string) (hx:ev L x=some (.string ⟨l.toArray⟩)) (hi:ev L i=some (.int κ j)) (hd:Nat.blt d n=true) (hj:0<=j) (hc:l[j.toNat]? =some c)
  (k:Rg P r n ops rest ((d,.int .u8 (c.toNat:Int))::L) ds w K):
  Rg P r n ops ({dst:=some d,op:= .index t x i,type:=ty,pos,after:=af,guard:=none}::rest) L ds w K:=by
 have eQ:=(al.1 hc).1;have hs:(⟨l.toArray⟩:ByteArray).size=l.length:=by simp[ByteArray.size]
 have hg:(⟨l.toArray⟩:ByteArray)[j.toNat]? =some c:=by
  rw[getElem?_pos _ _ (by rw[hs];exact eQ)];congr 1;have:=(al.1 hc).2;rw[<-this];rfl
 refine .op a04 G G hd _ w (λρ hρ=>?_) k;simp only[execOp,hρ x _ hx,hρ i _ hi,Instr.index,cj,asIntOf,my,cA,run_underlying ht];simp[hj,hg]
theorem rn (l:List UInt8) (a b:Nat):(⟨l.toArray⟩:ByteArray).extract a b=⟨((l.take b).drop a).toArray⟩:=by
 have:((⟨l.toArray⟩:ByteArray).extract a b).data=((l.take b).drop a).toArray:=by
  rw[ByteArray.data_extract];apply Array.toList_inj.1;rw[Array.toList_extract,List.extract_eq_take_drop,List.drop_take]
 exact congrArg ByteArray.mk this
theorem Rg.Rw {t:TypeId} {i:Operand} {l:List UInt8} {κ:IntKind} {j:Int} (ht:P.underlying t=some .string) (hx:ev L x=some (.string ⟨l.toArray⟩)) (hi:ev L i=some (.int κ j)) (hd:Nat.blt d n=true) (hj:0<=j/\j<=l.length)
  (k:Rg P r n ops rest ((d,.string ⟨(l.drop j.toNat).toArray⟩)::L) ds w K):
  Rg P r n ops ({dst:=some d,op:= .slice t x (some i) none none,type:=ty,pos,after:=af,guard:=none}::rest) L ds w K:=by
 have hs:(⟨l.toArray⟩:ByteArray).size=l.length:=by simp[ByteArray.size]
 refine .op a04 G G hd _ w (λρ hρ=>?_) k;simp only[execOp,hρ x _ hx,fe,k9,hρ i _ hi];rw[cj,run_sliceAt_string _ _ _ _ _ _ ht,run_slice_string_l _ _ _ ht _ _ hj.1 (by rw[hs];exact hj.2),rn,hs,List.take_length];simp
theorem Rg.TV {t:TypeId} {i:Operand} {l:List UInt8} {κ:IntKind} {j:Int} (ht:P.underlying t=some .string) (hx:ev L x=some (.string ⟨l.toArray⟩)) (hi:ev L i=some (.int κ j)) (hd:Nat.blt d n=true) (hj:0<=j/\j<=l.length)
  (k:Rg P r n ops rest ((d,.string ⟨(l.take j.toNat).toArray⟩)::L) ds w K):
  Rg P r n ops ({dst:=some d,op:= .slice t x none (some i) none,type:=ty,pos,after:=af,guard:=none}::rest) L ds w K:=by
 have hs:(⟨l.toArray⟩:ByteArray).size=l.length:=by simp[ByteArray.size]
 refine .op a04 G G hd _ w (λρ hρ=>?_) k;simp only[execOp,hρ x _ hx,fe,k9,hρ i _ hi];rw[cj,run_sliceAt_string _ _ _ _ _ _ ht,run_slice_string_h _ _ _ ht _ _ hj.1 (by rw[hs];exact hj.2),rn,List.drop_zero];simp
end
theorem Own.eF {α:Type} {A:RT α} {e:TypeId} {M:aL} {w:World} {base b p:Nat} {s:ByteArray} {v:Value} {xs:List α} (h:Own A e M w base v xs) (hb:w.heap[b]? =some (.stringIter s p)):v.ownBlock≠some b:=λhv=>by
 obtain⟨⟨C,h1,_⟩,_⟩:=h;rcases h1.2 with⟨h2,_⟩|⟨g,cap,cur,h2,_,h3,_⟩
 ·rw[h2]at hv;cases hv
 ·rw[h2]at hv;cases hv;rw[h3]at hb;cases hb
theorem Own.jf {α β:Type} {A:RT α} {B:RT β} {e e':TypeId} {M M':aL} {w:World} {base base':Nat} {v u:Value} {xs:List α} {ys:List β} (h:Own A e M w base v xs) (h':Own B e' M' w base' u ys) (ht:e≠e') {b:Nat} (hb:v.ownBlock=some b):u.ownBlock≠some b:=λhu=>by
 obtain⟨⟨C,h1,_⟩,_⟩:=h;obtain⟨⟨C',Rj,_⟩,_⟩:=h';rcases h1.2 with⟨h2,_⟩|⟨g,cap,cur,h2,_,h3,_⟩
 ·rw[h2]at hb;cases hb
 ·rcases Rj.2 with⟨F3,_⟩|⟨g',Q7,ZB,F3,_,h3',_⟩
  ·rw[F3]at hu;cases hu
  ·rw[h2]at hb;rw[F3]at hu;cases hb;cases hu;rw[h3]at h3';cases h3';exact ht G
theorem Own.fA {α:Type} {A:RT α} {e t:TypeId} {M:aL} {w:World} {base b:Nat} {v:Value} {xs:List α} {cs:Array Value} {fr:Nat×Nat} (h:Own A e M w base v xs) (hb:w.heap[b]? =some (.cells cs t fr)) (ht:t≠e):v.ownBlock≠some b:=λhv=>by
 obtain⟨⟨C,h1,_⟩,_⟩:=h;rcases h1.2 with⟨h2,_⟩|⟨g,cap,cur,h2,_,h3,_⟩
 ·rw[h2]at hv;cases hv
 ·rw[h2]at hv;cases hv;rw[h3]at hb;cases hb;exact ht G
abbrev Fd:=List UInt8×List UInt8
abbrev Dc:=Int×List Fd
abbrev En:=Dc×Int
abbrev RT.fd:RT Fd:=RT.pair RT.str RT.str
abbrev RT.dc:RT Dc:=RT.pair (RT.int .i64) (RT.fd.sl)
abbrev RT.en:RT En:=RT.pair RT.dc (RT.int .i64)
theorem DZ:Part RT.fd RT.str (λp=>p.1) 0:=jI _ _
theorem QO:Part RT.fd RT.str (λp=>p.2) 1:=fa _ _
theorem Z9:Part RT.dc (RT.int .i64) (λp=>p.1) 0:=jI _ _
theorem F6:Part RT.dc (RT.fd.sl) (λp=>p.2) 1:=fa _ _
theorem VI:Part RT.en RT.dc (λp=>p.1) 0:=jI _ _
theorem en1:Part RT.en (RT.int .i64) (λp=>p.2) 2:=fa _ _
theorem My {M:aL} {w:World} {p:Dc} {v:Value} (h:RT.dc.V M w p v):∃u,v= .agg #[.int .i64 p.1,u]:=by
 obtain⟨vs,⟨va,vb,rfl,⟨rfl,_⟩,hb⟩,rfl⟩:=h;have:=(RT.fd.sl QZ).len hb
 match vb,this with
 |[u],_=>exact⟨u,rfl⟩
theorem TW {M:aL} {w:World} {p:Dc} {u:Value} {s:Int} (h:RT.dc.V M w p (.agg #[.int .i64 p.1,u])) (hs: -9223372036854775808<=s/\s<=9223372036854775807):RT.en.V M w (p,s) (.agg [.int .i64 p.1,u,.int .i64 s].toArray):=by
 obtain⟨vs,h1,h2⟩:=h
 have h3:vs=[.int .i64 p.1,u]:=by
  have:Value.agg #[.int .i64 p.1,u]= .agg vs.toArray:=h2;injection this with this
  simpa using(congrArg Array.toList this).symm
 subst h3;exact⟨_,⟨[.int .i64 p.1,u],[.int .i64 s],G,h1,G,hs.1,hs.2⟩,G⟩
theorem Own.TX {α:Type} (A:RT α) (e:TypeId) (base:Nat) {M:aL} {w:World} (h:Lt M w):Own A e M w base (.slice none 0 0) []:=eJ _ _ _ _ _
section
variable {P:Program} {r:Option Nat} {n:Nat} {L:Sl} {ds:List Deferred} {w:World} {K:Kt} {ops:Array Oper} {rest:List Oper} {d:Nat} {x:Operand} {ty:TypeId} {pos:String} {af:Array Edge}
theorem Rg.gC {α:Type} {A:RT α} {e:TypeId} {v:Value} {a:α} {M:aL} (hx:ev L x=some v) (hd:Nat.blt d n=true) (hM:Lt M w) (hv:A.V M w a v) (hg:A.agg=true)
  (k:∀u w',cM A M w' u a->Step M w M w' aD->w.heap.size<=w'.heap.size->Rg P r n ops rest ((d,u)::L) ds w' K):
  Rg P r n ops ({dst:=some d,op:= .box e x,type:=ty,pos,after:=af,guard:=none}::rest) L ds w K:=by
 refine np M hx hd (λb w' h1 h2 hb s=>?_);obtain⟨vs,h3,h4⟩:=hv;have hc:v.cells=vs.toArray:=by subst h4;simp[RT.val,hg,Value.cells]
 rw[hc]at hb;refine k _ w' ⟨b,0,vs,G,λhm=>?_,A.le s.back.le h3,λj u hj=>?_⟩ s.back s.size
 ·have:=hM b hm;omega
 ·rw[rC];exact iS hb a94
end
end Go.K
namespace Go.K
open Go.Maps (Keyed)
structure fP (P:Program) (kt:TypeId) (w:World) (b:Nat) (es:List MapEntry) (clock:Nat):Prop where
 at_:w.heap[b]? =some (.map es.toArray clock)
 born:es.Pairwise λx y=>x.born≠y.born
 lt:∀e∈es,e.born<clock
 keys:es.Pairwise λx y=>x.key≠y.key
 ok:∀e∈es,∃l,keyOf P kt e.key=some l
def eG (zv:Value) (es:List MapEntry) (key v:Value):Prop:=(∃e∈es,e.key=key/\v=e.val)\/((∀e∈es,e.key≠key)/\v=zv)
section
variable {P:Program} {kt:TypeId} {w:World} {b clock:Nat} {es:List MapEntry}
theorem fP.step {M M' N:aL} {w':World} (h:fP P kt w b es clock) (s:Step M w M' w' N) (hn: ¬N b):fP P kt w' b es clock:=⟨s.bW h.at_ hn,h.born,h.lt,h.keys,h.ok⟩
theorem fP.bQ {M M':aL} {w':World} (h:fP P kt w b es clock) (s:Step M w M' w' aD):fP P kt w' b es clock:=h.step s λh=>h
theorem gZ {α:Type} {R:α->α->Prop} {l:List α} (h:l.Pairwise R) {i j:Nat} {x y:α} (hi:l[i]? =some x) (hj:l[j]? =some y) (jl:i<j):R x y:=by
 obtain⟨h1,h2⟩:=al.1 hi;obtain⟨h3,h4⟩:=al.1 hj;have:=List.pairwise_iff_getElem.1 h i j h1 h3 jl
 rwa [h2,h4]at this
theorem fP.Iv (h:fP P kt w b es clock) {x y:MapEntry} (hx:x∈es) (hy:y∈es) (e:x.key=y.key):x=y:=by
 obtain⟨i,hi⟩:=bK.1 hx;obtain⟨j,hj⟩:=bK.1 hy;rcases fq i j with h1|h1|h1
 ·exact absurd e (gZ h.keys hi hj h1)
 ·subst h1;rw[hi]at hj;exact aJ hj
 ·exact absurd e.symm (gZ h.keys hj hi h1)
theorem fP.D0 (h:fP P kt w b es clock) {i j:Nat} {x y:MapEntry} (hi:es[i]? =some x) (hj:es[j]? =some y) (e:x.born=y.born):i=j:=by
 rcases fq i j with h1|h1|h1
 ·exact absurd e (gZ h.born hi hj h1)
 ·exact h1
 ·exact absurd e.symm (gZ h.born hj hi h1)
theorem fP.val_one (h:fP P kt w b es clock) {zv key v v':Value} (h1:eG zv es key v) (h2:eG zv es key v'):v=v':=by
 rcases h1 with⟨e,he,hk,hv⟩|⟨hn,hv⟩
 ·rcases h2 with⟨e',p6,pf,qX⟩|⟨Lr,_⟩
  ·have:=h.Iv he p6 (hk.trans pf.symm);rw[hv,qX,this]
  ·exact absurd hk (Lr e he)
 ·rcases h2 with⟨e',p6,pf,_⟩|⟨_,qX⟩
  ·exact absurd pf (hn e' p6)
  ·rw[hv,qX]
theorem dB {r:Nat} {a:Array MapEntry} {c:Nat} (hb:w.heap[r]? =some (.map a c)):(getObj r).run P w= .ok (.map a c) w:=by simp[getObj,Sem.run,hb]
theorem run_setObj_map {r:Nat} {a:Array MapEntry} {c:Nat} {o:Obj} (hb:w.heap[r]? =some (.map a c)):(setObj r o).run P w= .ok () {w with heap:=w.heap.setIfInBounds r o}:=by simp[setObj,Sem.run,hb]
theorem fP.push (h:fP P kt w b es clock) {key v:Value} {kl:Lit} (kY:keyOf P kt key=some kl) (hn:∀e∈es,e.key≠key) {w':World} (hw:w'.heap[b]? =some (.map (es++([⟨key,v,clock⟩]:List MapEntry)).toArray (clock+1))):fP P kt w' b (es++[⟨key,v,clock⟩]) (clock+1):=
 ⟨hw,List.pairwise_append.2 ⟨h.born,List.pairwise_singleton _ _,λx hx y hy=>by rw[cW.1 hy];have:=h.lt x hx;show x.born≠clock;omega⟩,(λe he=>by
  rcases dw.1 he with he|he
  ·have:=h.lt e he;omega
  ·rw[cW.1 he];exact Nat.lt_succ_self _),List.pairwise_append.2 ⟨h.keys,List.pairwise_singleton _ _,λx hx y hy=>by rw[cW.1 hy];exact hn x hx⟩,(λe he=>by
  rcases dw.1 he with he|he
  ·exact h.ok e he
  ·rw[cW.1 he];exact⟨kl,kY⟩)⟩
theorem eG.push {zv key:Value} {s:Nat} (hn:∀e∈es,e.key≠key) (jg v':Value):eG zv (es++[⟨key,zv,s⟩]) jg v'↔eG zv es jg v':=by
 constructor
 ·rintro(⟨e,he,hk,hv⟩|⟨h1,h2⟩)
  ·rcases dw.1 he with he|he
   ·exact .inl ⟨e,he,hk,hv⟩
   ·rw[cW.1 he]at hk hv;exact .inr ⟨λe he=>by rw[<-hk];exact hn e he,hv⟩
  ·exact .inr ⟨λe he=>h1 e (jV _ he),h2⟩
 ·rintro(⟨e,he,hk,hv⟩|⟨h1,h2⟩)
  ·exact .inl ⟨e,jV _ he,hk,hv⟩
  ·by_cases hk:key=jg
   ·exact .inl ⟨⟨key,zv,s⟩,by simp,hk,h2⟩
   ·exact .inr ⟨λe he=>by
     rcases dw.1 he with he|he
     ·exact h1 e he
     ·rw[cW.1 he];exact hk,h2⟩
end
section
variable {P:Program} {r:Option Nat} {n:Nat} {L:Sl} {ds:List Deferred} {w:World} {K:Kt} {ops:Array Oper} {rest:List Oper} {d:Nat} {x y z:Operand} {ty:TypeId} {pos:String} {af:Array Edge}
variable {kt:TypeId} {M:aL} {b clock:Nat} {es:List MapEntry}
theorem Rg.yy {t e:TypeId} (M:aL) (ht:P.underlying t=some (.map kt e)) (hd:Nat.blt d n=true)
  (k:∀b w',w.heap.size<=b->b<w'.heap.size->fP P kt w' b [] 0->Step M w (ins M b) w' aD->Rg P r n ops rest ((d,.map (some b))::L) ds w' K):
  Rg P r n ops ({dst:=some d,op:= .makeMap t none,type:=ty,pos,after:=af,guard:=none}::rest) L ds w K:=by
 refine .op a04 G G hd (.map (some w.heap.size)) (w.alloc (.map #[] 0)) (λρ hρ=>?_) (k w.heap.size _ (bu _) (by simp) ⟨dn w _,List.Pairwise.nil,(λe he=>by cases he),List.Pairwise.nil,(λe he=>by cases he)⟩ ((dW M w _).own (bu _) (by simp)));simp only[execOp];simp[Instr.makeMap,newObj,Sem.run,run_underlying ht]
theorem Rg.mapEntry {t e:TypeId} {zv key:Value} {size bytes:Nat} {kl:Lit} (ht:P.underlying t=some (.map kt e)) (Kk:Keyed P kt) (hi:TI P e zv size bytes) (hx:ev L x=some (.map (some b))) (hy:ev L y=some key) (hd:Nat.blt d n=true) (kY:keyOf P kt key=some kl) (h:fP P kt w b es clock) (hm:M b)
  (k:∀w' oZ Gq v s,fP P kt w' b oZ Gq->eG zv es key v->(⟨key,v,s⟩:MapEntry)∈oZ->(∀jg v',eG zv oZ jg v'↔eG zv es jg v')->((oZ.map (·.key)=es.map (·.key)/\∃e∈es,e.key=key)\/(oZ.map (·.key)=es.map (·.key)++[key]/\∀e∈es,e.key≠key))->Step M w M w' (λk=>k=b)->Rg P r n ops rest ((d,.tuple #[v,.int .i64 (s:Nat)])::L) ds w' K):
  Rg P r n ops ({dst:=some d,op:= .mapEntry t x y,type:=ty,pos,after:=af,guard:=none}::rest) L ds w K:=by
 have eQ:=ah h.at_;rcases Kk.find w kY es h.ok with⟨h1,h2⟩|⟨j,e0,h1,h2,h3⟩
 ·obtain⟨inf,i1,i2,_,_⟩:=hi.get;have hz:(zeroValue e).run P w= .ok zv w:=by simp[zeroValue,typeInfo,i1,i2]
  have hw:({w with heap:=w.heap.setIfInBounds b (.map (es.toArray.push ⟨key,zv,clock⟩) (clock+1))}:World).heap[b]? =some (.map (es++([⟨key,zv,clock⟩]:List MapEntry)).toArray (clock+1)):=by
   simp[dv,eQ]
  refine .op a04 G G hd _ _ (λρ hρ=>?_) (k _ _ _ zv clock (h.push kY h2 hw) (Or.inr ⟨h2,G⟩) (by simp) (eG.push h2) (Or.inr ⟨by simp,h2⟩) (im M hm));simp only[execOp,hρ x _ hx,hρ y _ hy,Instr.mapEntry,cj,run_underlying ht,cA,dB h.at_,Kk.check w false kY,h1,hz,run_setObj_map h.at_];simp[goInt]
 ·have he:e0∈es:=au h2
  have MA:es.toArray.modify j (λe=>{e with key:=key})=es.toArray:=by
   apply Array.ext_getElem?;intro i;rw[uE]
   split
   ·rename_i hji
    subst hji;simp only[gV,h2,fe];rw[<-h3]
   ·rfl
  have hw:({w with heap:=w.heap.setIfInBounds b (.map es.toArray clock)}:World).heap[b]? =some (.map es.toArray clock):=by simp[dv,eQ]
  have hj:es.toArray[j]? =some e0:=by simpa using h2
  have kI:(Instr.keyThatStays ((Option.map (fun(e:MapEntry)=>e.key) es.toArray[j]?).getD key) key).run P w= .ok key w:=by
   rw[hj];simp only[fe,Option.getD_some,h3];exact Kk.stays w kY
  refine .op a04 G G hd _ _ (λρ hρ=>?_) (k _ es clock e0.val e0.born ⟨hw,h.born,h.lt,h.keys,h.ok⟩ (Or.inl ⟨e0,he,h3,rfl⟩) (by rw[<-h3];exact he) (λ_ _=>Iff.rfl) (Or.inl ⟨G,e0,he,h3⟩) (im M hm));simp only[execOp,hρ x _ hx,hρ y _ hy,Instr.mapEntry,cj,run_underlying ht,cA,dB h.at_,Kk.check w false kY,h1,kI,MA,run_setObj_map h.at_];simp[goInt,hj]
theorem Rg.entryStore {t:TypeId} {key v0 val:Value} {s:Nat} (hx:ev L x=some (.map (some b))) (hy:ev L y=some (.int .i64 (s:Int))) (hz:ev L z=some val) (h:fP P kt w b es clock) (hm:M b) (kZ:(⟨key,v0,s⟩:MapEntry)∈es)
  (k:∀w' oZ,fP P kt w' b oZ clock->oZ.map (·.key)=es.map (·.key)->(∀zv jg v',eG zv oZ jg v'↔(jg=key/\v'=val)\/(jg≠key/\eG zv es jg v'))->Step M w M w' (λk=>k=b)->Rg P r n ops rest L ds w' K):
  Rg P r n ops ({dst:=none,op:= .entryStore t x y z,type:=ty,pos,after:=af,guard:=none}::rest) L ds w K:=by
 have eQ:=ah h.at_;obtain⟨i,hi⟩:=bK.1 kZ;have qM:=(al.1 hi).1
 have agl:es.toArray.findIdx? (λe=>(e.born:Int)==(s:Int))=some i:=by
  rw[List.findIdx?_toArray,List.findIdx?_eq_some_iff_getElem];refine⟨qM,by rw[(al.1 hi).2];simp,λj hj=>?_⟩;have pb:j<es.length:=by omega
  have:=λe=>h.D0 (an pb) hi e
  simp only[Bool.not_eq_true,beq_eq_false_iff_ne,ne_eq];intro e;have e2:((es[j]).born:Int)=(s:Int):=by simpa using e
  have:=this (by show(es[j]).born=s;omega);omega
 obtain⟨oZ,vz⟩:∃oZ,oZ=es.set i ⟨key,val,s⟩:=⟨_,rfl⟩
 have MA:es.toArray.modify i (λe=>{e with val:=val})=oZ.toArray:=by
  apply Array.ext_getElem?;intro j;rw[uE,vz];simp only[gV,eS]
  split
  ·rename_i hji
   subst hji;rw[hi];simp
  ·rfl
 have iC:∀j e',oZ[j]? =some e'→(j=i/\e'=⟨key,val,s⟩)\/(j≠i/\es[j]? =some e'):=λj e' hj=>by
  rw[vz,eS]at hj
  split at hj
  ·rename_i jl
   left;exact⟨jl.symm,by simpa[qM]using hj.symm⟩
  ·rename_i jl
   exact .inr ⟨λe=>jl e.symm,hj⟩
 have o2:oZ.map (·.key)=es.map (·.key):=by
  rw[vz,List.map_set];apply iG;intro j;rw[eS]
  split
  ·rename_i jl
   subst jl;have e:=(al.1 hi).2;simp[qM,e]
  ·rfl
 have MB:oZ.map (·.born)=es.map (·.born):=by
  rw[vz,List.map_set];apply iG;intro j;rw[eS]
  split
  ·rename_i jl
   subst jl;have e:=(al.1 hi).2;simp[qM,e]
  ·rfl
 have hw:({w with heap:=w.heap.setIfInBounds b (.map oZ.toArray clock)}:World).heap[b]? =some (.map oZ.toArray clock):=by simp[dv,eQ]
 have gL:∀e'∈oZ,(e'=⟨key,val,s⟩)\/(e'∈es/\e'.key≠key):=λe' p6=>by
  obtain⟨j,hj⟩:=bK.1 p6;rcases iC j e' hj with⟨_,e⟩|⟨fh,wz⟩
  ·exact .inl e
  ·refine .inr ⟨au wz,λe=>fh ?_⟩;rcases fq j i with h1|h1|h1
   ·exact absurd e (gZ h.keys wz hi h1)
   ·exact h1
   ·exact absurd e.symm (gZ h.keys hi wz h1)
 have MC:(⟨key,val,s⟩:MapEntry)∈oZ:=au (i:=i) (by rw[vz,eS];simp[qM])
 have hold:∀e'∈es,e'.key≠key->e'∈oZ:=λe' p6 fh=>by
  obtain⟨j,hj⟩:=bK.1 p6;refine au (i:=j) ?_;rw[vz,eS,if_neg]
  ·exact hj
  ·rintro rfl;rw[hi]at hj;cases hj;exact fh G
 have hW:fP P kt {w with heap:=w.heap.setIfInBounds b (.map oZ.toArray clock)} b oZ clock:=by
  refine⟨hw,?_,λe' p6=>?_,?_,λe' p6=>?_⟩
  ·have:=dZ.2 h.born;rw[<-MB]at this;exact dZ.1 this
  ·rcases gL e' p6 with e|⟨h1,_⟩
   ·rw[e];exact(h.lt _ kZ:s<clock)
   ·exact h.lt _ h1
  ·have:=dZ.2 h.keys;rw[<-o2]at this;exact dZ.1 this
  ·rcases gL e' p6 with e|⟨h1,_⟩
   ·rw[e];exact(h.ok _ kZ:∃l,keyOf P kt key=some l)
   ·exact h.ok _ h1
 refine .U6 a04 G G _ (λρ hρ=>?_) (k _ oZ hW o2 (λzv jg v'=>?_) (im M hm))
 ·simp only[execOp,hρ x _ hx,hρ y _ hy,hρ z _ hz,Instr.entryStore,cj,dB h.at_,cA,asInt,asIntOf,my,agl,MA,run_setObj_map h.at_]
 ·constructor
  ·rintro(⟨e',p6,hk,hv⟩|⟨h1,h2⟩)
   ·rcases gL e' p6 with e|⟨h3,h4⟩
    ·subst e;exact .inl ⟨hk.symm,hv⟩
    ·exact .inr ⟨by rw[<-hk];exact h4,.inl ⟨e',h3,hk,hv⟩⟩
   ·have fh:jg≠key:=λe=>h1 _ MC e.symm
    exact .inr ⟨fh,.inr ⟨λe' p6=>λe=>by
     by_cases h5:e'.key=key
     ·exact fh (e.symm.trans h5)
     ·exact h1 e' (hold e' p6 h5) e,h2⟩⟩
  ·rintro(⟨rfl,rfl⟩|⟨fh,⟨e',p6,hk,hv⟩|⟨h1,h2⟩⟩)
   ·exact .inl ⟨_,MC,G,G⟩
   ·exact .inl ⟨e',hold e' p6 (by rw[hk];exact fh),hk,hv⟩
   ·exact .inr ⟨λe' p6=>by
     rcases gL e' p6 with e|⟨h3,_⟩
     ·rw[e];exact λe=>fh e.symm
     ·exact h1 e' h3,h2⟩
theorem Rg.tz {t e:TypeId} {zv key:Value} {size bytes:Nat} {kl:Lit} (ht:P.underlying t=some (.map kt e)) (Kk:Keyed P kt) (hi:TI P e zv size bytes) (hx:ev L x=some (.map (some b))) (hy:ev L y=some key) (hd:Nat.blt d n=true) (kY:keyOf P kt key=some kl) (h:fP P kt w b es clock)
  (k:∀v,eG zv es key v->Rg P r n ops rest ((d,v)::L) ds w K):
  Rg P r n ops ({dst:=some d,op:= .lookup t x y false,type:=ty,pos,after:=af,guard:=none}::rest) L ds w K:=by
 rcases Kk.find w kY es h.ok with⟨h1,h2⟩|⟨j,e0,h1,h2,h3⟩
 ·obtain⟨inf,i1,i2,_,_⟩:=hi.get;have hz:(zeroValue e).run P w= .ok zv w:=by simp[zeroValue,typeInfo,i1,i2]
  refine .op a04 G G hd zv w (λρ hρ=>?_) (k zv (Or.inr ⟨h2,G⟩));simp only[execOp,hρ x _ hx,hρ y _ hy,Instr.lookup,cj,run_underlying ht,cA,dB h.at_,my,Kk.check w _ kY,h1,hz];simp
 ·refine .op a04 G G hd e0.val w (λρ hρ=>?_) (k e0.val (Or.inl ⟨e0,au h2,h3,G⟩));simp only[execOp,hρ x _ hx,hρ y _ hy,Instr.lookup,cj,run_underlying ht,cA,dB h.at_,my,Kk.check w _ kY,h1];simp
end
end Go.K
namespace Go.K
inductive Qy where
 |mk (kind:Int) (term:Fd) (words:List (List UInt8)) (kids:List Qy)
noncomputable instance ana:DecidableEq Qy:=λa b=>Classical.propDecidable (a=b)
def Qy.kind:Qy->Int| .mk k _ _ _=>k
def Qy.term:Qy->Fd| .mk _ t _ _=>t
def Qy.words:Qy->List (List UInt8)| .mk _ _ ws _=>ws
def Qy.kids:Qy->List Qy| .mk _ _ _ ks=>ks
def Qy.parts (q:Qy):Int×Fd×List (List UInt8)×List Qy:=(q.kind,q.term,q.words,q.kids)
theorem hU {a b:Qy}:a=b↔a.kind=b.kind/\a.term=b.term/\a.words=b.words/\a.kids=b.kids:=by
 constructor
 ·rintro rfl;exact⟨G,G,G,G⟩
 ·obtain⟨k,t,ws,ks⟩:=a;obtain⟨k',t',xH,VJ⟩:=b;rintro⟨h1,h2,h3,h4⟩;have h1:k=k':=h1;have h2:t=t':=h2;have h3:ws=xH:=h3;have h4:ks=VJ:=h4;subst h1 h2 h3 h4;rfl
def RT.VK:RT (List Qy) where
 n:=1
 agg:=false
 R:=λ_ _ xs vs=>xs=[]/\∃a c,vs=[.slice a 0 c]
 len:=by rintro _ _ x vs ⟨_,a,c,rfl⟩;rfl
 one:=by rintro _ _ x vs ⟨_,a,c,rfl⟩ v hv;simp at hv;subst hv;rfl
 le:=λ_ h=>h
abbrev RT.aab (K:RT (List Qy)):RT Qy:=RT.U9 (RT.pair (RT.int .i64) (RT.pair RT.fd (RT.pair (RT.str.sl) K))) Qy.parts
def RT.VL:Nat->{A:RT Qy // A.n=5/\A.agg=true}
 |0=>⟨RT.aab RT.VK,rfl,rfl⟩
 |n+1=>⟨RT.aab ((RT.VL n).1.sl (by rw[(RT.VL n).2.1];decide)),rfl,rfl⟩
def RT.qy (n:Nat):RT Qy:=(RT.VL n).1
theorem JW (n:Nat):(RT.qy n).n=5:=(RT.VL n).2.1
theorem aS (n:Nat):0<(RT.qy n).n:=by rw[JW];decide
theorem ef (n:Nat):(RT.qy n).agg=true:=(RT.VL n).2.2
theorem Iw:∀{n:Nat} {M:aL} {w:World} {q:Qy} {vs:List Value},(RT.qy n).R M w q vs->(RT.qy (n+1)).R M w q vs
 |0,M,w,q,vs,h=>by
  obtain⟨va,vb,rfl,h1,vc,vd,rfl,h2,ve,vf,rfl,h3,hk,a,c,rfl⟩:=h;have hk:q.kids=[]:=hk;refine⟨va,_,G,h1,vc,_,G,h2,ve,_,G,h3,a,c,?_,?_,?_,.inl hk⟩
  ·show _=[Value.slice a q.kids.length c];rw[hk];rfl
  ·show q.kids.length<=c;rw[hk];exact bp _
  ·show q.kids.length<=_;rw[hk];exact bp _
 |n+1,M,w,q,vs,h=>by
  obtain⟨va,vb,rfl,h1,vc,vd,rfl,h2,ve,vf,rfl,h3,a,c,rfl,h4,h5,h6⟩:=h;refine⟨va,_,G,h1,vc,_,G,h2,ve,_,G,h3,a,c,G,h4,h5,h6.imp id fun⟨b,o,e,hb,hx⟩=>⟨b,o,e,hb,λi x hi=>?_⟩⟩;obtain⟨us,g1,g2⟩:=hx i x hi;exact⟨us,Iw g1,by rw[(RT.VL n).2.1]at g2;rw[(RT.VL (n+1)).2.1];exact g2⟩
theorem lZ {n:Nat} {M:aL} {w:World} {q:Qy} {v:Value} (h:(RT.qy n).V M w q v):(RT.qy (n+1)).V M w q v:=by
 obtain⟨vs,h1,h2⟩:=h;exact⟨vs,Iw h1,by rw[h2];unfold RT.val;rw[ef,ef]⟩
theorem yz (n:Nat):Part (RT.qy (n+1)) (RT.int .i64) Qy.kind 0:=Part.U9 Qy.parts (jI _ _)
theorem D1 (n:Nat):Part (RT.qy (n+1)) RT.fd Qy.term 1:=Part.U9 Qy.parts ((fa _ _).trans (jI _ _))
theorem Gr (n:Nat):Part (RT.qy (n+1)) (RT.str.sl) Qy.words 3:=Part.U9 Qy.parts ((fa _ _).trans ((fa _ _).trans (jI _ _)))
theorem Bj (n:Nat):Part (RT.qy (n+1)) ((RT.qy n).sl (aS n)) Qy.kids 4:=Part.U9 Qy.parts ((fa _ _).trans ((fa _ _).trans (fa _ _)))
theorem IQ {P:Program} {t:TypeId} {z:Value} {bytes:Nat} (h:TI P t z 5 bytes) (n:Nat):TI P t z (RT.qy n).n bytes:=by rw[JW];exact h
theorem l1 {n:Nat} {M:aL} {w:World} {q:Qy} {v:Value} (h:(RT.qy (n+1)).V M w q v):∃vw vk,v= .agg #[.int .i64 q.kind,.string ⟨q.term.1.toArray⟩,.string ⟨q.term.2.toArray⟩,vw,vk]/\(-9223372036854775808<=q.kind/\q.kind<=9223372036854775807)/\(q.term.1.length<=140737488355328/\q.term.2.length<=140737488355328)/\(RT.str.sl).V M w q.words vw/\((RT.qy n).sl (aS n)).V M w q.kids vk:=by
 obtain⟨vs,⟨va,vb,rfl,⟨rfl,h1⟩,vc,vd,rfl,⟨_,_,rfl,⟨rfl,h2⟩,⟨rfl,h3⟩⟩,ve,vf,rfl,h4,h5⟩,rfl⟩:=h;obtain⟨a,c,rfl,h6⟩:=h4;obtain⟨a',c',rfl,h7⟩:=h5;exact⟨_,_,G,h1,⟨h2,h3⟩,iW.2 ⟨a,c,G,h6⟩,iW.2 ⟨a',c',G,h7⟩⟩
theorem Ix {n:Nat} {M:aL} {w:World} {k:Int} {t:Fd} {ws:List (List UInt8)} {ks:List Qy} {vw vk:Value} (h1: -9223372036854775808<=k/\k<=9223372036854775807) (h2:t.1.length<=140737488355328/\t.2.length<=140737488355328) (h3:(RT.str.sl).V M w ws vw) (h4:((RT.qy n).sl (aS n)).V M w ks vk):
  (RT.qy (n+1)).V M w (.mk k t ws ks) (.agg #[.int .i64 k,.string ⟨t.1.toArray⟩,.string ⟨t.2.toArray⟩,vw,vk]):=by
 obtain⟨a,c,rfl,h5⟩:=iW.1 h3;obtain⟨a',c',rfl,h6⟩:=iW.1 h4;exact⟨_,⟨_,_,G,⟨G,h1⟩,_,_,G,⟨_,_,G,⟨G,h2.1⟩,⟨G,h2.2⟩⟩,_,_,G,⟨a,c,G,h5⟩,⟨a',c',G,h6⟩⟩,G⟩
theorem Cq {n:Nat} {M M':aL} {w w':World} {k:Int} {a b:ByteArray} {ws:List (List UInt8)} {ks:List Qy} {vw vk:Value} (h:(RT.str.sl).V M w ws vw) (h':((RT.qy n).sl (aS n)).V M' w' ks vk):∀u∈[Value.int .i64 k,.string a,.string b,vw,vk],u.oneCell'=true:=by
 intro u hu;simp only[dz,List.not_mem_nil,or_false]at hu;rcases hu with rfl|rfl|rfl|rfl|rfl
 ·rfl
 ·rfl
 ·rfl
 ·exact jc h G G
 ·exact jc h' G G
section
variable {P:Program} {r:Option Nat} {n:Nat} {L:Sl} {ds:List Deferred} {w:World} {K:Kt} {ops:Array Oper} {rest:List Oper} {d:Nat} {x y z:Operand} {ty:TypeId} {pos:String} {af:Array Edge} {M:aL} {b clock:Nat} {es:List MapEntry} {kt:TypeId}
theorem oA {k:Int} (hk:P.underlying kt=some (.int .i64)) (e:Bool) (w:World):(Instr.checkKey e 10000 kt (.int .i64 k)).run P w= .ok () w:=by
 rw[show(10000:Nat)=9999+1 from rfl,Instr.checkKey,cj,run_underlying hk w];rfl
theorem p8 {k:Int} (hk:P.underlying kt=some (.int .i64)) {o:Option (Nat×Value)} (h:Instr.findNow (.int .i64) (.int .i64 k) es 0=some o) (w:World):(Instr.findKey kt (.int .i64 k) es).run P w= .ok o w:=by
 unfold Instr.findKey;rw[cj,run_underlying hk w];simp only[cA,h,my]
theorem Rg.tA {t e:TypeId} {k:Int} {v:Value} (ht:P.underlying t=some (.map kt e)) (hk:P.underlying kt=some (.int .i64)) (hx:ev L x=some (.map (some b))) (hy:ev L y=some (.int .i64 k)) (hz:ev L z=some v) (hb:w.heap[b]? =some (.map es.toArray clock)) (hf:Instr.findNow (.int .i64) (.int .i64 k) es 0=some none) (hm:M b)
  (c:∀w',w'.heap[b]? =some (.map (es++([⟨.int .i64 k,v,clock⟩]:List MapEntry)).toArray (clock+1))->Step M w M w' (λq=>q=b)->Rg P r n ops rest L ds w' K):
  Rg P r n ops ({dst:=none,op:= .insert t x y z,type:=ty,pos,after:=af,guard:=none}::rest) L ds w K:=by
 have eQ:=ah hb;refine .U6 a04 rfl rfl {w with heap:=w.heap.setIfInBounds b (.map (es.toArray.push ⟨.int .i64 k,v,clock⟩) (clock+1))} (λρ hρ=>?_) (c _ (by simp[dv,eQ]) (im M hm));simp only[execOp,hρ x _ hx,hρ y _ hy,hρ z _ hz,Instr.mapUpdate,cj,run_underlying ht,cA,dB hb,oA hk,p8 hk hf,run_setObj_map hb];simp
theorem Rg.Rx {t e:TypeId} {k:Int} {zv v:Value} {size bytes:Nat} {o:Option (Nat×Value)} (ht:P.underlying t=some (.map kt e)) (hk:P.underlying kt=some (.int .i64)) (hi:TI P e zv size bytes) (hx:ev L x=some (.map (some b))) (hy:ev L y=some (.int .i64 k)) (hd:Nat.blt d n=true) (hb:w.heap[b]? =some (.map es.toArray clock)) (hf:Instr.findNow (.int .i64) (.int .i64 k) es 0=some o)
  (hv:v=(o.map Prod.snd).getD zv)
  (c:Rg P r n ops rest ((d,.tuple #[v,.bool o.isSome])::L) ds w K):
  Rg P r n ops ({dst:=some d,op:= .lookup t x y true,type:=ty,pos,after:=af,guard:=none}::rest) L ds w K:=by
 obtain⟨inf,i1,i2,_,_⟩:=hi.get;have hz:(zeroValue e).run P w= .ok zv w:=by simp[zeroValue,typeInfo,i1,i2]
 refine .op a04 G G hd _ w (λρ hρ=>?_) c
 cases o with
 |none=>
  simp only[execOp,hρ x _ hx,hρ y _ hy,Instr.lookup,cj,run_underlying ht,cA,dB hb,my,oA hk,p8 hk hf,hz];simp[hv]
 |some p=>
  simp only[execOp,hρ x _ hx,hρ y _ hy,Instr.lookup,cj,run_underlying ht,cA,dB hb,my,oA hk,p8 hk hf];simp[hv]
end
end Go.K
namespace Go.K
open Go.ChangeShapes Go.WideShapes Go.ChangeAt Go.RowKit
def RT.and {α:Type} (A:RT α) (S:α->Prop):RT α where
 n:=A.n
 agg:=A.agg
 R:=λM w x vs=>A.R M w x vs/\S x
 len:=λh=>A.len h.1
 one:=λh=>A.one h.1
 le:=λhl h=>⟨A.le hl h.1,h.2⟩
theorem MD {α:Type} {A:RT α} {S:α->Prop} {hn:0<A.n} {M:aL} {w:World} {xs:List α} {vs:List Value} (h:((A.and S).sl (show 0<(A.and S).n from hn)).R M w xs vs):(A.sl hn).R M w xs vs/\∀x∈xs,S x:=by
 obtain⟨a,c,rfl,h1,h2,h3⟩:=h;rcases h3 with h3|⟨b,o,e,hb,hx⟩
 ·subst h3;exact⟨⟨a,c,rfl,h1,h2,.inl rfl⟩,λx hx=>by cases hx⟩
 ·refine⟨⟨a,c,G,h1,h2,.inr ⟨b,o,e,hb,λi x hi=>?_⟩⟩,λx hm=>?_⟩
  ·obtain⟨us,g1,g2⟩:=hx i x hi;exact⟨us,g1.1,g2⟩
  ·obtain⟨i,hi⟩:=bK.1 hm;obtain⟨us,g1,g2⟩:=hx i x hi;exact g1.2
structure JX {H:Type} (b:DataW H->Nat):Prop where
 str:∀bytes,bytes.length<=b (.lit (.string bytes))
 sl:∀elems spare x,x∈elems->b x<=b (.slice elems spare)
 agg:∀parts x,x∈parts->b x<=b (.agg parts)
def ey {H:Type} (b:DataW H->Nat) (B F:Nat) {α:Type} (P:Program) (t:TypeId) (A:RT α):Prop:=
 ∀{enc:TypeId×Value->H} {w:World} {base fuel:Nat} {spare:Nat->Bool} {cs:List Value} {d:DataW H} {ps:List MemPlace},fuel<=F->
  DataW.trod enc P w base spare true fuel t cs=some (d,ps)->(∀n∈DataW.weights P t d,n<=reachBytes)->b d<=B->∃x,A.R aD w x cs
section
variable {H:Type} {b:DataW H->Nat} {B F:Nat} {P:Program}
theorem ey.of {α:Type} {A:RT α} {t:TypeId} (h:jb P t A):ey b B F P t A:=λ_ h1 h2 _=>h h1 h2
theorem ey.zero {α:Type} {A:RT α} {t:TypeId}:ey b B 0 P t A:=by
 intro enc w base fuel spare cs d ps hf h;obtain rfl:fuel=0:=by omega
 simp[DataW.trod]at h
theorem ey.str (hb:JX b) {t:TypeId} (ht:P.underlying t=some .string):ey b B F P t (RT.str.and λx=>x.length<=B):=by
 intro enc w base fuel spare cs d ps hf h hw hB
 cases fuel with
 |zero=>simp[DataW.trod]at h
 |succ n=>
  unfold DataW.trod at h;rw[ht]at h
  split at h<;>simp_all
  rename_i s
  obtain⟨h1,h2,h3⟩:=h;subst h2;have:=hw s.data.toList.length (by simp[DataW.weights]);have hr:reachBytes<=140737488355328:=by decide
  have h4:=hb.str s.data.toList;refine⟨s.data.toList,⟨?_,dm this hr⟩,dm h4 hB⟩;simp
theorem ey.sl (hb:JX b) {t e:TypeId} {α:Type} {A:RT α} {hn:0<A.n} (ht:P.underlying t=some (.slice e)) {nb:Nat} (hc:P.cellsOf e=A.n) (YZ:P.bytesOf e=nb) (Lo:nb≠0) (hA:ey b B (F-1) P e A):ey b B F P t (A.sl hn):=by
 have Q8:P.bytesOf e≠0:=by rw[YZ];exact Lo
 intro enc w base fuel spare cs d ps Y1 h hw hB;rcases DataW.trod_slice ht h with⟨h1,h2⟩|⟨a,len,cap,elems,rest,n,ZX,rfl,hx,ME,hl,hm,hlen,B9,Vi,ZE⟩
 ·exact⟨[],none,0,by rw[h1];rfl,bu _,bp _,.inl rfl⟩
 ·injection hx with hd rM
  have te:DataW.weights P t d=(elems.length+rest.length)*P.bytesOf e::(DataW.weightsAll P e (elems.map (·.1))++DataW.weightsAll P e (rest.map (·.1))):=by
   rw[hd];simp[DataW.weights,ht]
  have h1:(elems.length+rest.length)*P.bytesOf e<=reachBytes:=hw _ (by rw[te];exact bP ..)
  have h2:elems.length<=140737488355328:=by
   have hr:reachBytes<=140737488355328:=by decide
   have:=Nat.le_mul_of_pos_right (elems.length+rest.length) (Nat.pos_of_ne_zero Q8);omega
  have sM:∀y∈elems,b y.1<=B:=λy hy=>dm (hb.sl (elems.map (·.1)) (rest.map (·.1)) y.1 (cx.2 ⟨y,hy,rfl⟩)) (by rw[<-hd];exact hB)
  have gj:∀y∈elems,∀n∈DataW.weights P e y.1,n<=reachBytes:=λy hy n hn=>by
   refine hw n ?_;rw[te];refine cv _ (jV _ ?_);clear te hw h1 h2 Vi ZE B9 hlen hd h rM sM hB
   induction elems with
   |nil=>cases hy
   |cons z zs ih=>
    simp only[eI,DataW.weightsAll,dw];rcases dz.1 hy with rfl|hy
    ·exact .inl hn
    ·exact .inr (ih hy)
  have hex:∀i,i<len->∃x vs,A.R aD w x vs/\∀j:Nat,j<A.n->w.cell? (a.add (i*A.n+j))=vs[j]? :=λi hi=>by
   have h3:=B9 i hi;rw[an q0,Option.bind_eq_some_iff]at h3;obtain⟨vs,h4,h5⟩:=h3;obtain⟨x,h6⟩:=hA (d:=elems[i].1) (ps:=elems[i].2) q0 h5 (gj _ (List.getElem_mem ..)) (sM _ (List.getElem_mem ..));obtain⟨_,h7,h8⟩:=World.cells?_some h4;rw[hc]at h8 h7;refine ⟨x,vs,h6,λj hj=> ?_⟩;rw[<-h8 j hj];unfold Addr.add;by_cases Vj:j=0
   ·subst Vj;simp
   ·by_cases Vk:i*A.n=0
    ·simp[Vk,Vj]
    ·rw[if_neg q0,if_neg Vk,if_neg Vj];simp[Nat.add_assoc]
  rcases Nat.eq_zero_or_pos len with h0|xX
  ·subst h0;exact⟨[],some a,cap,G,bp _,bp _,.inl G⟩
  ·obtain⟨x0,v0,uT,hc0⟩:=hex 0 xX;have qY:0<v0.length:=by rw[A.len uT];exact hn
   have hs:=hc0 0 hn;rw[an qY,Nat.zero_mul,rC]at hs
   have LU:a.spot=none:=by
    unfold Addr.add at hs;rw[if_pos rfl]at hs;unfold World.cell? at hs
    cases hh:a.spot with
    |none=>rfl
    |some s=>rw[hh]at hs;split at hs<;>simp_all
   let f:Nat->α:=λi=>if h:i<len then(hex i h).choose else x0
   have hf:∀i,i<len->∃vs,A.R aD w (f i) vs/\∀j:Nat,j<A.n->w.cell? (a.add (i*A.n+j))=vs[j]? :=λi hi=>by
    have:f i=(hex i hi).choose:=dif_pos hi;rw[this];exact(hex i hi).choose_spec
   refine⟨(List.range len).map f,some a,cap,by simp,by simpa using hl,by simp;omega,.inr ⟨a.block,a.off,by cases a;simp_all,λh=>h.elim,λi x Gc=>?_⟩⟩;have hi:i<len:=by have:=(al.1 Gc).1;simpa using this
   obtain⟨vs,h3,h4⟩:=hf i hi;have ZF:x=f i:=by simp[hi]at Gc;exact Gc.symm
   subst ZF;refine ⟨vs,h3,λj v hj=> ?_⟩;have pb:j<A.n:=by rw[<-A.len h3];exact(al.1 hj).1
   rw[<-hj,<-h4 j pb,LS _ _ LU,Nat.add_assoc]
theorem ey.pair (hb:JX b) {t:TypeId} {fs:Array Field} {f0 f1:Field} {α β:Type} {A:RT α} {A2:RT β} (ht:P.underlying t=some (.struct fs)) (Lq:fs[0]? =some f0) (JC:fs[1]? =some f1) (Vl:fs.size=2) (h0:f0.offset=0) (h1:f1.offset=A.n)
  (c0:P.cellsOf f0.type=A.n) (c1:P.cellsOf f1.type=A2.n) (ct:P.cellsOf t=A.n+A2.n) (hA:ey b B F P f0.type A) (hB2:ey b B F P f1.type A2):ey b B F P t (A.pair A2):=by
 intro enc w base fuel spare cs d ps Y1 h hw hB;obtain⟨xs,n,ZX,hx,hl,hlen,hf⟩:=DataW.trod_struct ht h;injection hx with hd rM
 have xm:xs.length=2:=by omega
 have sM:∀y∈xs,b y.1<=B:=λy hy=>dm (hb.agg (xs.map (·.1)) y.1 (cx.2 ⟨y,hy,rfl⟩)) (by rw[<-hd];exact hB)
 match xs,xm with
 |[y0,y1],_=>
  have g0:=hf 0 f0 Lq;have g1:=hf 1 f1 JC;rw[h0,c0]at g0;rw[h1,c1]at g1
  have ZG:fs.toList.map (λx=>x.type)=[f0.type,f1.type]:=by
   have F4:fs.toList.length=2:=by simpa using Vl
   match Dj:fs.toList,F4 with
   |[a,c],_=>
    have e0:fs.toList[0]? =some f0:=by simpa using Lq
    have e1:fs.toList[1]? =some f1:=by simpa using JC
    rw[Dj]at e0 e1;simp at e0 e1;simp[e0,e1]
  have te:DataW.weights P t d=DataW.weightsEach P [f0.type,f1.type] [y0.1,y1.1]:=by
   rw[hd];simp[DataW.weights,ht,ZG]
  obtain⟨x0,e0⟩:=hA (d:=y0.1) (ps:=y0.2) q0 g0 (λm hm=>hw m (by rw[te];exact mz (j:=0) G G m hm)) (sM _ (by simp));obtain⟨x1,e1⟩:=hB2 (d:=y1.1) (ps:=y1.2) q0 g1 (λm hm=>hw m (by rw[te];exact mz (j:=1) G G m hm)) (sM _ (by simp));refine⟨(x0,x1),_,_,?_,e0,e1⟩;rw[List.drop_zero,bm (l:=cs.drop A.n) (by rw[cP,hl,ct];omega),gT]
theorem ey.four (hb:JX b) {t:TypeId} {fs:Array Field} {f0 f1 f2 f3:Field} {α β γ δ:Type} {A:RT α} {A1:RT β} {A2:RT γ} {A3:RT δ} (ht:P.underlying t=some (.struct fs)) (Lq:fs[0]? =some f0) (JC:fs[1]? =some f1) (Me:fs[2]? =some f2) (Y4:fs[3]? =some f3) (Vl:fs.size=4)
  (h0:f0.offset=0) (h1:f1.offset=A.n) (h2:f2.offset=A.n+A1.n) (h3:f3.offset=A.n+A1.n+A2.n)
  (c0:P.cellsOf f0.type=A.n) (c1:P.cellsOf f1.type=A1.n) (c2:P.cellsOf f2.type=A2.n) (c3:P.cellsOf f3.type=A3.n) (ct:P.cellsOf t=A.n+A1.n+A2.n+A3.n) (hA:ey b B (F-1) P f0.type A) (TY:ey b B (F-1) P f1.type A1) (hA2:ey b B (F-1) P f2.type A2) (hA3:ey b B (F-1) P f3.type A3):ey b B F P t (A.pair (A1.pair (A2.pair A3))):=by
 intro enc w base fuel spare cs d ps Y1 h hw hB;obtain⟨xs,n,ZX,hx,hl,hlen,hf⟩:=DataW.trod_struct ht h;injection hx with hd rM
 have xm:xs.length=4:=by omega
 have sM:∀y∈xs,b y.1<=B:=λy hy=>dm (hb.agg (xs.map (·.1)) y.1 (cx.2 ⟨y,hy,rfl⟩)) (by rw[<-hd];exact hB)
 match xs,xm with
 |[y0,y1,y2,y3],_=>
  have g0:=hf 0 f0 Lq;have g1:=hf 1 f1 JC;have g2:=hf 2 f2 Me;have g3:=hf 3 f3 Y4;rw[h0,c0]at g0;rw[h1,c1]at g1;rw[h2,c2]at g2;rw[h3,c3]at g3
  have ZG:fs.toList.map (λx=>x.type)=[f0.type,f1.type,f2.type,f3.type]:=by
   have F4:fs.toList.length=4:=by simpa using Vl
   match Dj:fs.toList,F4 with
   |[a,c,e,g],_=>
    have e0:fs.toList[0]? =some f0:=by simpa using Lq
    have e1:fs.toList[1]? =some f1:=by simpa using JC
    have e2:fs.toList[2]? =some f2:=by simpa using Me
    have e3:fs.toList[3]? =some f3:=by simpa using Y4
    rw[Dj]at e0 e1 e2 e3;simp at e0 e1 e2 e3;simp[e0,e1,e2,e3]
  have te:DataW.weights P t d=DataW.weightsEach P [f0.type,f1.type,f2.type,f3.type] [y0.1,y1.1,y2.1,y3.1]:=by
   rw[hd];simp[DataW.weights,ht,ZG]
  obtain⟨x0,e0⟩:=hA (d:=y0.1) (ps:=y0.2) q0 g0 (λm hm=>hw m (by rw[te];exact mz (j:=0) G G m hm)) (sM _ (by simp));obtain⟨x1,e1⟩:=TY (d:=y1.1) (ps:=y1.2) q0 g1 (λm hm=>hw m (by rw[te];exact mz (j:=1) G G m hm)) (sM _ (by simp));obtain⟨x2,e2⟩:=hA2 (d:=y2.1) (ps:=y2.2) q0 g2 (λm hm=>hw m (by rw[te];exact mz (j:=2) G G m hm)) (sM _ (by simp));obtain⟨x3,e3⟩:=hA3 (d:=y3.1) (ps:=y3.2) q0 g3 (λm hm=>hw m (by rw[te];exact mz (j:=3) G G m hm)) (sM _ (by simp));refine⟨(x0,x1,x2,x3),_,_,?_,e0,_,_,G,e1,_,_,G,e2,e3⟩;rw[List.drop_zero,bm (l:=cs.drop (A.n+A1.n+A2.n)) (by rw[cP,hl,ct];omega)];rw[show cs.drop (A.n+A1.n+A2.n)=(cs.drop (A.n+A1.n)).drop A2.n from by rw[List.drop_drop],gT,show cs.drop (A.n+A1.n)=(cs.drop A.n).drop A1.n from by rw[List.drop_drop],gT,gT]
mutual
def AD (B:Nat):Qy->Prop
 |.mk _ t ws ks=>(t.1.length<=B/\t.2.length<=B/\∀x∈ws,x.length<=B)/\Bk B ks
def Bk (B:Nat):List Qy->Prop
 |[]=>True
 |q::ks=>AD B q/\Bk B ks
end
theorem aac {B:Nat} {ks:List Qy}:Bk B ks↔∀q∈ks,AD B q:=by
 induction ks with
 |nil=>simp[Bk]
 |cons q ks ih=>rw[Bk,ih,List.forall_mem_cons]
theorem MF {m:Nat} {M:aL} {w:World} {q:Qy} {vs:List Value} (h:(RT.qy m).R M w q vs):∀k,(RT.qy (m+k)).R M w q vs
 |0=>h
 |k+1=>Iw (MF h k)
theorem ey.qy (hb:JX b) {t:TypeId} {fs ft:Array Field} {f0 f1 f2 f3 g0 g1:Field} {e2:TypeId} (ht:P.underlying t=some (.struct fs)) (Lq:fs[0]? =some f0) (JC:fs[1]? =some f1) (Me:fs[2]? =some f2) (Y4:fs[3]? =some f3) (Vl:fs.size=4)
  (h0:f0.offset=0) (h1:f1.offset=1) (h2:f2.offset=3) (h3:f3.offset=4) (c0:P.cellsOf f0.type=1) (c1:P.cellsOf f1.type=2) (c2:P.cellsOf f2.type=1) (c3:P.cellsOf f3.type=1) (ct:P.cellsOf t=5)
  (t0:P.underlying f0.type=some (.int .i64)) (t1:P.underlying f1.type=some (.struct ft)) (hg0:ft[0]? =some g0) (hg1:ft[1]? =some g1) (hft:ft.size=2) (o0:g0.offset=0) (o1:g1.offset=1) (d0:P.cellsOf g0.type=1) (d1:P.cellsOf g1.type=1) (u0:P.underlying g0.type=some .string) (u1:P.underlying g1.type=some .string)
  (t2:P.underlying f2.type=some (.slice e2)) (ce:P.cellsOf e2=1) (be:P.bytesOf e2=16) (ue:P.underlying e2=some .string) (t3:P.underlying f3.type=some (.slice t)) (bt:P.bytesOf t=88):
  ∀F,ey b B F P t ((RT.qy F).and (AD B)):=by
 intro F
 induction F using Nat.strongRecOn with
 |ind F ih=>
 cases F with
 |zero=>exact ey.zero
 |succ F=>
  have hk:ey b B F P f3.type (((RT.qy (F-1)).and (AD B)).sl (show 0<((RT.qy (F-1)).and (AD B)).n from aS _)):=ey.sl hb t3 (by rw[ct];exact(JW _).symm) bt QZ (ih (F-1) q0);have hw2:ey b B F P f2.type ((RT.str.and λx=>x.length<=B).sl (show 0<(RT.str.and λx=>x.length<=B).n from Nat.one_pos)):=ey.sl hb t2 ce be QZ (ey.str hb ue);have Ve:ey b B F P f1.type ((RT.str.and λx=>x.length<=B).pair (RT.str.and λx=>x.length<=B)):=ey.pair (A:=RT.str.and λx=>x.length<=B) (A2:=RT.str.and λx=>x.length<=B) hb t1 hg0 hg1 hft o0 o1 d0 d1 c1 (ey.str hb u0) (ey.str hb u1);have h4:ey b B (F+1) P t _:=ey.four (F:=F+1) (A:=RT.int .i64) (A1:=(RT.str.and λx=>x.length<=B).pair (RT.str.and λx=>x.length<=B)) (A2:=(RT.str.and λx=>x.length<=B).sl (show 0<(RT.str.and λx=>x.length<=B).n from Nat.one_pos)) (A3:=((RT.qy (F-1)).and (AD B)).sl (show 0<((RT.qy (F-1)).and (AD B)).n from aS _)) hb ht Lq JC Me Y4 Vl h0 h1 h2 h3 c0 c1 c2 c3 ct (ey.of (jb.int t0)) Ve hw2 hk;intro enc w base fuel spare cs d ps Y1 h hw hB;obtain⟨⟨k,tt,ws,ks⟩,va,vb,rfl,hA,vc,vd,rfl,⟨ve,vf,rfl,⟨ZW,QK⟩,vB,Dt⟩,vg,vh,rfl,VM,MG⟩:=h4 Y1 h hw hB;obtain⟨agr,ags⟩:=MD (hn:=Nat.one_pos) VM;obtain⟨agt,agu⟩:=MD (hn:=aS _) MG;refine⟨.mk k tt ws ks,?_,⟨QK,Dt,ags⟩,aac.2 agu⟩
  have agv:((RT.qy F).sl (aS F)).R aD w ks vh:=by
   obtain⟨a,c,e1,q1,q2,q3⟩:=agt;refine⟨a,c,e1,q1,q2,q3.imp id fun⟨bb,o,e,ME,hx⟩=>⟨bb,o,e,ME,λi x hi=>?_⟩⟩;obtain⟨us,r1,r2⟩:=hx i x hi;refine⟨us,?_,by rw[JW]at r2 ⊢;exact r2⟩;rcases Nat.eq_zero_or_pos F with hF|hF
   ·subst hF;exact r1
   ·have:=MF r1 1
    rwa [show F-1+1=F by omega]at this
  exact⟨va,_,G,hA,_,_,G,⟨ve,vf,G,ZW,vB⟩,vg,vh,G,agr,agv⟩
theorem ey.agw {t:TypeId} {enc:TypeId×Value->H} {w:World} {base:Nat} {spare:Nat->Bool} {v:Value} {d:DataW H} {ps:List MemPlace} (hA:∀F,ey b B F P t ((RT.qy F).and (AD B)))
  (h:DataW.Trod enc P w base spare true t v d ps) (hv:∀vs:List Value,vs.length=5->v.cells.toList=vs->(∀u∈vs,u.oneCell'=true)->v= .agg vs.toArray) (hw:∀n∈DataW.weights P t d,n<=reachBytes) (hB:b d<=B):∃n q,(RT.qy (n+1)).V aD w q v/\AD B q:=by
 obtain⟨fuel,hf⟩:=h;obtain⟨q,hq,hS⟩:=hA fuel (bu _) hf hw hB;refine⟨fuel,q,lZ ⟨_,hq,?_⟩,hS⟩;rw[hv _ (by rw[(RT.qy fuel).len hq,JW]) rfl ((RT.qy fuel).one hq)];unfold RT.val;rw[if_pos (ef _)];simp[Value.cells]
end
end Go.K
namespace Go.K
open Go.Proofs
theorem I3:TI Tryz.prog 3 (.int .i64 0) 1 8:=by unfold TI;kernel_rfl
theorem I5:TI Tryz.prog 5 (.int .u8 0) 1 1:=by unfold TI;kernel_rfl
theorem I9:TI Tryz.prog 9 (.string ⟨#[]⟩) 1 16:=by unfold TI;kernel_rfl
theorem lA:TI Tryz.prog 24 (.agg #[(.string ⟨#[]⟩),(.string ⟨#[]⟩)]) 2 32:=by unfold TI;kernel_rfl
theorem xp:TI Tryz.prog 25 (.slice none 0 0) 1 24:=by unfold TI;kernel_rfl
theorem I32:TI Tryz.prog 32 (.int .i64 0) 1 8:=by unfold TI;kernel_rfl
theorem ph:TI Tryz.prog 61 (.slice none 0 0) 1 24:=by unfold TI;kernel_rfl
theorem sN:TI Tryz.prog 70 (.slice none 0 0) 1 24:=by unfold TI;kernel_rfl
theorem kU:TI Tryz.prog 72 (.agg #[(.int .i64 0),(.slice none 0 0)]) 2 32:=by unfold TI;kernel_rfl
theorem F7:TI Tryz.prog 74 (.agg #[(.int .i64 0),(.slice none 0 0),(.int .i64 0)]) 3 40:=by unfold TI;kernel_rfl
theorem jW:TI Tryz.prog 153 (.agg #[(.string ⟨#[]⟩),(.string ⟨#[]⟩)]) 2 32:=by unfold TI;kernel_rfl
theorem agx:TI Tryz.prog 183 (.slice none 0 0) 1 24:=by unfold TI;kernel_rfl
theorem iL:TI Tryz.prog 188 (.agg #[(.int .i64 0),(.slice none 0 0)]) 2 32:=by unfold TI;kernel_rfl
theorem JY:TI Tryz.prog 218 (.agg #[(.string ⟨#[]⟩),(.int .i64 0)]) 2 24:=by unfold TI;kernel_rfl
theorem sa:TI Tryz.prog 250 (.pointer none) 1 8:=by unfold TI;kernel_rfl
theorem D3:TI Tryz.prog 293 (.slice none 0 0) 1 24:=by unfold TI;kernel_rfl
theorem Gt:TI Tryz.prog 294 (.slice none 0 0) 1 24:=by unfold TI;kernel_rfl
theorem agy:TI Tryz.prog 296 (.agg #[(.slice none 0 0),(.slice none 0 0),(.int .i64 0)]) 3 56:=by unfold TI;kernel_rfl
theorem AE:TI Tryz.prog 301 (.agg #[(.int .i64 0),(.int .i64 0),(.int .i64 0),(.int .i64 0)]) 4 32:=by unfold TI;kernel_rfl
theorem agz:TI Tryz.prog 365 (.agg #[(.pointer none),(.slice none 0 0)]) 2 32:=by unfold TI;kernel_rfl
theorem B24:placesOf Tryz.prog 24=[(0,1),(1,1)].map some:=by kernel_rfl
theorem B72:placesOf Tryz.prog 72=[(0,1),(1,1)].map some:=by kernel_rfl
theorem B74:placesOf Tryz.prog 74=[(0,2),(2,1)].map some:=by kernel_rfl
theorem Ry:placesOf Tryz.prog 188=[(0,1),(1,1)].map some:=by kernel_rfl
theorem aad:placesOf Tryz.prog 218=[(0,1),(1,1)].map some:=by kernel_rfl
theorem agB:placesOf Tryz.prog 296=[(0,1),(1,1),(2,1)].map some:=by kernel_rfl
theorem agC:placesOf Tryz.prog 301=[(0,1),(1,1),(2,1),(3,1)].map some:=by kernel_rfl
theorem mixed:Tryz.prog.follows .mixedOrders=true:=by kernel_rfl
theorem E29:Enters Tryz.prog 29:=enters Tryz.func29 rfl QZ
theorem E47:Enters Tryz.prog 47:=enters Tryz.func47 rfl QZ
theorem E58:Enters Tryz.prog 58:=enters Tryz.func58 rfl QZ
theorem E74:Enters Tryz.prog 74:=enters Tryz.func74 rfl QZ
theorem E95:Enters Tryz.prog 95:=enters Tryz.func95 rfl QZ
theorem VN:Enters Tryz.prog 111:=enters Tryz.func111 rfl QZ
theorem VO:Enters Tryz.prog 113:=enters Tryz.func113 rfl QZ
theorem aae:Enters Tryz.prog 122:=enters Tryz.func122 rfl QZ
theorem agE:Enters Tryz.prog 138:=enters Tryz.func138 rfl QZ
theorem VP:Enters Tryz.prog 139:=enters Tryz.func139 rfl QZ
theorem agF:Enters Tryz.prog 140:=enters Tryz.func140 rfl QZ
theorem agG:Enters Tryz.prog 141:=enters Tryz.func141 rfl QZ
theorem aaf:Enters Tryz.prog 142:=enters Tryz.func142 rfl QZ
theorem agH:Enters Tryz.prog 146:=enters Tryz.func146 rfl QZ
theorem agI:Enters Tryz.prog 147:=enters Tryz.func147 rfl QZ
theorem agJ:Enters Tryz.prog 148:=enters Tryz.func148 rfl QZ
theorem agK:Enters Tryz.prog 149:=enters Tryz.func149 rfl QZ
theorem agL:Enters Tryz.prog 170:=enters Tryz.func170 rfl QZ
theorem aag:Enters Tryz.prog 171:=enters Tryz.func171 rfl QZ
theorem VQ:Enters Tryz.prog 172:=enters Tryz.func172 rfl QZ
theorem agM:Enters Tryz.prog 173:=enters Tryz.func173 rfl QZ
theorem VR:Enters Tryz.prog 182:=enters Tryz.func182 rfl QZ
theorem agN:Enters Tryz.prog 183:=enters Tryz.func183 rfl QZ
theorem agO:Enters Tryz.prog 184:=enters Tryz.func184 rfl QZ
theorem agP:Enters Tryz.prog 185:=enters Tryz.func185 rfl QZ
theorem agQ:Enters Tryz.prog 186:=enters Tryz.func186 rfl QZ
theorem agR:Enters Tryz.prog 187:=enters Tryz.func187 rfl QZ
theorem agS:Enters Tryz.prog 189:=enters Tryz.func189 rfl QZ
theorem agT:Enters Tryz.prog 192:=enters Tryz.func192 rfl QZ
theorem agU:Enters Tryz.prog 193:=enters Tryz.func193 rfl QZ
theorem VS:Enters Tryz.prog 194:=enters Tryz.func194 rfl QZ
theorem agV:Enters Tryz.prog 195:=enters Tryz.func195 rfl QZ
theorem aah:Enters Tryz.prog 239:=enters Tryz.func239 rfl QZ
theorem agW:Enters Tryz.prog 240:=enters Tryz.func240 rfl QZ
theorem agX:Enters Tryz.prog 241:=enters Tryz.func241 rfl QZ
theorem aai:Enters Tryz.prog 242:=enters Tryz.func242 rfl QZ
theorem agY:Enters Tryz.prog 243:=enters Tryz.func243 rfl QZ
theorem agZ:Enters Tryz.prog 244:=enters Tryz.func244 rfl QZ
theorem ag0:Enters Tryz.prog 252:=enters Tryz.func252 rfl QZ
theorem ag1:Enters Tryz.prog 264:=enters Tryz.func264 rfl QZ
theorem ag2:Enters Tryz.prog 265:=enters Tryz.func265 rfl QZ
theorem aaj:Enters Tryz.prog 272:=enters Tryz.func272 rfl QZ
theorem ag3:Enters Tryz.prog 273:=enters Tryz.func273 rfl QZ
theorem ag4:Enters Tryz.prog 280:=enters Tryz.func280 rfl QZ
theorem ag5:Enters Tryz.prog 281:=enters Tryz.func281 rfl QZ
theorem ag6:Enters Tryz.prog 282:=enters Tryz.func282 rfl QZ
theorem aak:Enters Tryz.prog 303:=enters Tryz.func303 rfl QZ
theorem ag7:Enters Tryz.prog 304:=enters Tryz.func304 rfl QZ
theorem ag8:Enters Tryz.prog 308:=enters Tryz.func308 rfl QZ
theorem aal:Enters Tryz.prog 316:=enters Tryz.func316 rfl QZ
set_option maxRecDepth 10000
def fD (c:Int):Bool:=decide ((97<=c/\c<=122)\/(65<=c/\c<=90)\/(192<=c/\c<=591/\c≠215/\c≠247))
def l2 (c:Int):Bool:=decide (48<=c/\c<=57)
def eh (c:Int):Int:=if(65<=c/\c<=90)\/(192<=c/\c<=222/\c≠215)then c+32 else c
theorem D4 (c:Int) (w0:World):
  Spec Tryz.prog 240 #[.int .i64 c] w0 (λv w=>v= .bool (fD c)/\w=w0):=by
 refine a7 (args:=[_]) (fn:=Tryz.f240) Tryz.func240 G (n:=33) Tryz.ntmps240 (T.aP (Rg.aZ G G (T.aP (ab G G (ek G G G (ab G G ?_))))));refine aO (g:=5) G (λiw=>?_) (λiw=>?_)
 ·refine ae G G (ab G G (ae G G (fN G G G (aU G G G (ab G G ?_)))));refine aO (g:=9) G (λCr=>?_) (λCr=>?_)
  ·refine aj G G G G (aj G G G G (aj G G G G (cf G G G (cf G G G (aj G G G G (aU G G G (ab G G (aj G G G G (aj G G G G (aj G G G G (cf G G G ?_)))))))))));refine cf G G G (aj G G G G (aj G G G G (cf G G G (cf G G G (aj G G G G (aj G G G G (cf G G G (cf G G G (aj G G G G (aU G G G (aG G G ?_)))))))))));refine ad (aI ?_);exact aF rfl rfl ⟨by simp only[fD];first|rfl|(congr 1;first|(exact(decide_eq_true q0).symm)|(exact(decide_eq_false q0).symm)|(exact decide_eq_decide.2 q0)),rfl⟩
  ·refine ae G G (ab G G (ae G G (ek G G G (ae G G (ab G G ?_)))));refine aO (g:=12) G (λsd=>?_) (λsd=>?_)
   ·refine ae G G (ab G G (ae G G (fN G G G (ae G G (aU G G G (aA G G G (ab G G ?_)))))));refine aO (g:=17) G (λyA=>?_) (λyA=>?_)
    ·refine aj G G G G (aj G G G G (aj G G G G (cf G G G (cf G G G (aj G G G G (aj G G G G (cf G G G (cf G G G (aj G G G G (aj G G G G (cf G G G ?_)))))))))));refine cf G G G (aj G G G G (aU G G G (Rg.aZ G G (aI ?_))));exact aF rfl rfl ⟨by simp only[fD];first|rfl|(congr 1;first|(exact(decide_eq_true q0).symm)|(exact(decide_eq_false q0).symm)|(exact decide_eq_decide.2 q0)),rfl⟩
    ·refine ae G G (ab G G (ae G G (ek G G G (ae G G (ab G G ?_)))));refine aO (g:=20) G (λl3=>?_) (λl3=>?_)
     ·refine ae G G (ab G G (ae G G (fN G G G (ae G G (aU G G G (ae G G (ab G G ?_)))))));refine aO (g:=24) G (λyB=>?_) (λyB=>?_)
      ·refine ae G G (ab G G (ae G G (eV G G G (ae G G (aU G G G (ae G G (ab G G ?_)))))));refine aO (g:=28) G (λyC=>?_) (λyC=>?_)
       ·refine ae G G (ab G G (ae G G (eV G G G (ae G G (aU G G G (aA G G G (Rg.aZ G G (aI ?_))))))));exact aF rfl rfl ⟨by simp only[fD];first|rfl|(congr 1;first|(exact(decide_eq_true q0).symm)|(exact(decide_eq_false q0).symm)|(exact decide_eq_decide.2 q0)),rfl⟩
       ·refine aj G G G G (aj G G G G (ae G G (aA G G G (aA G G G (Rg.aZ G G (aI ?_))))));exact aF rfl rfl ⟨by simp only[fD];first|rfl|(congr 1;first|(exact(decide_eq_true q0).symm)|(exact(decide_eq_false q0).symm)|(exact decide_eq_decide.2 q0)),rfl⟩
      ·refine aj G G G G (aj G G G G (ae G G (aA G G G (ae G G (ab G G (aj G G G G (aj G G G G (ae G G (aA G G G (aA G G G (aG G G ?_)))))))))));refine ad (aI ?_);exact aF rfl rfl ⟨by simp only[fD];first|rfl|(congr 1;first|(exact(decide_eq_true q0).symm)|(exact(decide_eq_false q0).symm)|(exact decide_eq_decide.2 q0)),rfl⟩
     ·refine aj G G G G (aj G G G G (ae G G (aA G G G (ae G G (ab G G (aj G G G G (aj G G G G (ae G G (aA G G G (ae G G (ab G G ?_)))))))))));refine aj G G G G (aj G G G G (ae G G (aA G G G (aA G G G (Rg.aZ G G (aI ?_))))));exact aF rfl rfl ⟨by simp only[fD];first|rfl|(congr 1;first|(exact(decide_eq_true q0).symm)|(exact(decide_eq_false q0).symm)|(exact decide_eq_decide.2 q0)),rfl⟩
   ·refine aj G G G G (aj G G G G (ae G G (aA G G G (aA G G G (ab G G (ae G G (ab G G (ae G G (ek G G G (ae G G (ab G G ?_)))))))))));refine aO (g:=20) G (λl3=>?_) (λl3=>?_)
    ·refine ae G G (ab G G (ae G G (fN G G G (ae G G (aU G G G (ae G G (ab G G ?_)))))));refine aO (g:=24) G (λyB=>?_) (λyB=>?_)
     ·refine ae G G (ab G G (ae G G (eV G G G (ae G G (aU G G G (ae G G (ab G G ?_)))))));refine aO (g:=28) G (λyC=>?_) (λyC=>?_)
      ·refine ae G G (ab G G (ae G G (eV G G G (ae G G (aU G G G (aA G G G (Rg.aZ G G (aI ?_))))))));exact aF rfl rfl ⟨by simp only[fD];first|rfl|(congr 1;first|(exact(decide_eq_true q0).symm)|(exact(decide_eq_false q0).symm)|(exact decide_eq_decide.2 q0)),rfl⟩
      ·refine aj G G G G (aj G G G G (ae G G (aA G G G (aA G G G (Rg.aZ G G (aI ?_))))));exact aF rfl rfl ⟨by simp only[fD];first|rfl|(congr 1;first|(exact(decide_eq_true q0).symm)|(exact(decide_eq_false q0).symm)|(exact decide_eq_decide.2 q0)),rfl⟩
     ·refine aj G G G G (aj G G G G (ae G G (aA G G G (ae G G (ab G G (aj G G G G (aj G G G G (ae G G (aA G G G (aA G G G (aG G G ?_)))))))))));refine ad (aI ?_);exact aF rfl rfl ⟨by simp only[fD];first|rfl|(congr 1;first|(exact(decide_eq_true q0).symm)|(exact(decide_eq_false q0).symm)|(exact decide_eq_decide.2 q0)),rfl⟩
    ·refine aj G G G G (aj G G G G (ae G G (aA G G G (ae G G (ab G G (aj G G G G (aj G G G G (ae G G (aA G G G (ae G G (ab G G ?_)))))))))));refine aj G G G G (aj G G G G (ae G G (aA G G G (aA G G G (Rg.aZ G G (aI ?_))))));exact aF rfl rfl ⟨by simp only[fD];first|rfl|(congr 1;first|(exact(decide_eq_true q0).symm)|(exact(decide_eq_false q0).symm)|(exact decide_eq_decide.2 q0)),rfl⟩
 ·refine aj G G G G (aj G G G G (aA G G G (ab G G (ae G G (ab G G (ae G G (ek G G G (ae G G (ab G G ?_)))))))));refine aO (g:=12) G (λsd=>?_) (λsd=>?_)
  ·refine ae G G (ab G G (ae G G (fN G G G (ae G G (aU G G G (aA G G G (ab G G ?_)))))));refine aO (g:=17) G (λyA=>?_) (λyA=>?_)
   ·refine aj G G G G (aj G G G G (aj G G G G (cf G G G (cf G G G (aj G G G G (aj G G G G (cf G G G (cf G G G (aj G G G G (aj G G G G (cf G G G ?_)))))))))));refine cf G G G (aj G G G G (aU G G G (Rg.aZ G G (aI ?_))));exact aF rfl rfl ⟨by simp only[fD];first|rfl|(congr 1;first|(exact(decide_eq_true q0).symm)|(exact(decide_eq_false q0).symm)|(exact decide_eq_decide.2 q0)),rfl⟩
   ·refine ae G G (ab G G (ae G G (ek G G G (ae G G (ab G G ?_)))));refine aO (g:=20) G (λl3=>?_) (λl3=>?_)
    ·refine ae G G (ab G G (ae G G (fN G G G (ae G G (aU G G G (ae G G (ab G G ?_)))))));refine aO (g:=24) G (λyB=>?_) (λyB=>?_)
     ·refine ae G G (ab G G (ae G G (eV G G G (ae G G (aU G G G (ae G G (ab G G ?_)))))));refine aO (g:=28) G (λyC=>?_) (λyC=>?_)
      ·refine ae G G (ab G G (ae G G (eV G G G (ae G G (aU G G G (aA G G G (Rg.aZ G G (aI ?_))))))));exact aF rfl rfl ⟨by simp only[fD];first|rfl|(congr 1;first|(exact(decide_eq_true q0).symm)|(exact(decide_eq_false q0).symm)|(exact decide_eq_decide.2 q0)),rfl⟩
      ·refine aj G G G G (aj G G G G (ae G G (aA G G G (aA G G G (Rg.aZ G G (aI ?_))))));exact aF rfl rfl ⟨by simp only[fD];first|rfl|(congr 1;first|(exact(decide_eq_true q0).symm)|(exact(decide_eq_false q0).symm)|(exact decide_eq_decide.2 q0)),rfl⟩
     ·refine aj G G G G (aj G G G G (ae G G (aA G G G (ae G G (ab G G (aj G G G G (aj G G G G (ae G G (aA G G G (aA G G G (aG G G ?_)))))))))));refine ad (aI ?_);exact aF rfl rfl ⟨by simp only[fD];first|rfl|(congr 1;first|(exact(decide_eq_true q0).symm)|(exact(decide_eq_false q0).symm)|(exact decide_eq_decide.2 q0)),rfl⟩
    ·refine aj G G G G (aj G G G G (ae G G (aA G G G (ae G G (ab G G (aj G G G G (aj G G G G (ae G G (aA G G G (ae G G (ab G G ?_)))))))))));refine aj G G G G (aj G G G G (ae G G (aA G G G (aA G G G (Rg.aZ G G (aI ?_))))));exact aF rfl rfl ⟨by simp only[fD];first|rfl|(congr 1;first|(exact(decide_eq_true q0).symm)|(exact(decide_eq_false q0).symm)|(exact decide_eq_decide.2 q0)),rfl⟩
  ·refine aj G G G G (aj G G G G (ae G G (aA G G G (aA G G G (ab G G (ae G G (ab G G (ae G G (ek G G G (ae G G (ab G G ?_)))))))))));refine aO (g:=20) G (λl3=>?_) (λl3=>?_)
   ·refine ae G G (ab G G (ae G G (fN G G G (ae G G (aU G G G (ae G G (ab G G ?_)))))));refine aO (g:=24) G (λyB=>?_) (λyB=>?_)
    ·refine ae G G (ab G G (ae G G (eV G G G (ae G G (aU G G G (ae G G (ab G G ?_)))))));refine aO (g:=28) G (λyC=>?_) (λyC=>?_)
     ·refine ae G G (ab G G (ae G G (eV G G G (ae G G (aU G G G (aA G G G (Rg.aZ G G (aI ?_))))))));exact aF rfl rfl ⟨by simp only[fD];first|rfl|(congr 1;first|(exact(decide_eq_true q0).symm)|(exact(decide_eq_false q0).symm)|(exact decide_eq_decide.2 q0)),rfl⟩
     ·refine aj G G G G (aj G G G G (ae G G (aA G G G (aA G G G (Rg.aZ G G (aI ?_))))));exact aF rfl rfl ⟨by simp only[fD];first|rfl|(congr 1;first|(exact(decide_eq_true q0).symm)|(exact(decide_eq_false q0).symm)|(exact decide_eq_decide.2 q0)),rfl⟩
    ·refine aj G G G G (aj G G G G (ae G G (aA G G G (ae G G (ab G G (aj G G G G (aj G G G G (ae G G (aA G G G (aA G G G (aG G G ?_)))))))))));refine ad (aI ?_);exact aF rfl rfl ⟨by simp only[fD];first|rfl|(congr 1;first|(exact(decide_eq_true q0).symm)|(exact(decide_eq_false q0).symm)|(exact decide_eq_decide.2 q0)),rfl⟩
   ·refine aj G G G G (aj G G G G (ae G G (aA G G G (ae G G (ab G G (aj G G G G (aj G G G G (ae G G (aA G G G (ae G G (ab G G ?_)))))))))));refine aj G G G G (aj G G G G (ae G G (aA G G G (aA G G G (Rg.aZ G G (aI ?_))))));exact aF rfl rfl ⟨by simp only[fD];first|rfl|(congr 1;first|(exact(decide_eq_true q0).symm)|(exact(decide_eq_false q0).symm)|(exact decide_eq_decide.2 q0)),rfl⟩
theorem Gu (c:Int) (w0:World):
  Spec Tryz.prog 241 #[.int .i64 c] w0 (λv w=>v= .bool (l2 c)/\w=w0):=by
 refine a7 (args:=[_]) (fn:=Tryz.f241) Tryz.func241 G (n:=9) Tryz.ntmps241 (T.aP (Rg.aZ G G (T.aP (ab G G (ek G G G (ab G G ?_))))));refine aO (g:=5) G (λiw=>?_) (λiw=>?_)
 ·refine ae G G (ab G G (ae G G (fN G G G (aU G G G (Rg.aZ G G (aI ?_))))));exact aF rfl rfl ⟨by simp only[l2];first|rfl|(congr 1;first|(exact(decide_eq_true q0).symm)|(exact(decide_eq_false q0).symm)|(exact decide_eq_decide.2 q0)),rfl⟩
 ·refine aj G G G G (aj G G G G (aA G G G (Rg.aZ G G (aI ?_))));exact aF rfl rfl ⟨by simp only[l2];first|rfl|(congr 1;first|(exact(decide_eq_true q0).symm)|(exact(decide_eq_false q0).symm)|(exact decide_eq_decide.2 q0)),rfl⟩
theorem Bm (c:Int) (w0:World) (hc:0<=c/\c<=1114111):
  Spec Tryz.prog 242 #[.int .i64 c] w0 (λv w=>v= .int .i64 (eh c)/\w=w0):=by
 refine a7 (args:=[_]) (fn:=Tryz.f242) Tryz.func242 G (n:=24) Tryz.ntmps242 (T.aP (Rg.aZ G G (aK (T.aP (ab G G (ek G G G (ab G G ?_)))))));refine aO (g:=5) G (λiw=>?_) (λiw=>?_)
 ·refine ae G G (ab G G (ae G G (fN G G G (aU G G G (ab G G ?_)))));refine aO (g:=9) G (λCr=>?_) (λCr=>?_)
  ·refine aj G G G G (aj G G G G (aj G G G G (cf G G G (cf G G G (aj G G G G (aj G G G G (cf G G G (cf G G G (aj G G G G (aU G G G (ad ?_)))))))))));refine kA G (T.aP (ab G G (bC G G G q0 (Rg.aZ G G (aI ?_)))));exact a56
  ·refine ae G G (ab G G (ae G G (ek G G G (ae G G (ab G G ?_)))));refine aO (g:=12) G (λsd=>?_) (λsd=>?_)
   ·refine ae G G (ab G G (ae G G (fN G G G (ae G G (aU G G G (ae G G (ab G G ?_)))))));refine aO (g:=16) G (λMH=>?_) (λMH=>?_)
    ·refine ae G G (ab G G (ae G G (eV G G G (ae G G (aU G G G (aA G G G (ad ?_)))))));refine bF G (λc1=>?_) (λc1=>?_)
     ·refine T.aP (ab G G (bC G G G q0 (Rg.aZ G G (aI ?_))));exact a56
     ·refine aR (T.aP (ab G G (Rg.aZ G G (aI ?_))));exact a19
    ·refine aj G G G G (aj G G G G (ae G G (aA G G G (aA G G G (ad (jJ G (aR (T.aP (ab G G (aG G G ?_))))))))));refine ad (aI ?_);exact a19
   ·refine aj G G G G (aj G G G G (ae G G (aA G G G (ae G G (ab G G (aj G G G G (aj G G G G (ae G G (aA G G G (aA G G G (ad ?_)))))))))));refine jJ G (aR (T.aP (ab G G (Rg.aZ G G (aI ?_)))));exact a19
 ·refine aj G G G G (aj G G G G (aA G G G (ab G G (ae G G (ab G G (ae G G (ek G G G (ae G G (ab G G ?_)))))))));refine aO (g:=12) G (λsd=>?_) (λsd=>?_)
  ·refine ae G G (ab G G (ae G G (fN G G G (ae G G (aU G G G (ae G G (ab G G ?_)))))));refine aO (g:=16) G (λMH=>?_) (λMH=>?_)
   ·refine ae G G (ab G G (ae G G (eV G G G (ae G G (aU G G G (aA G G G (ad ?_)))))));refine bF G (λc1=>?_) (λc1=>?_)
    ·refine T.aP (ab G G (bC G G G q0 (Rg.aZ G G (aI ?_))));exact a56
    ·refine aR (T.aP (ab G G (Rg.aZ G G (aI ?_))));exact a19
   ·refine aj G G G G (aj G G G G (ae G G (aA G G G (aA G G G (ad (jJ G (aR (T.aP (ab G G (aG G G ?_))))))))));refine ad (aI ?_);exact a19
  ·refine aj G G G G (aj G G G G (ae G G (aA G G G (ae G G (ab G G (aj G G G G (aj G G G G (ae G G (aA G G G (aA G G G (ad ?_)))))))))));refine jJ G (aR (T.aP (ab G G (Rg.aZ G G (aI ?_)))));exact a19
end Go.K
namespace Go.Proofs
open Go.Shelf
def Tryz.wG:Go.Shelf.Ren:=⟨fun|169=>282|n=>n,fun|70=>363|9=>9|0=>0|72=>365|37=>293|127=>394|3=>3|5=>5|n=>n,fun|n=>n⟩
theorem Tryz.Rz:Go.Proofs.Lays.n169 Tryz.prog Tryz.wG:={
 mixed:=by kernel_rfl
 f169:=Tryz.func282.trans a03
 t0:=As
 a0:=Tryz.isAgg0
 z0:=Tryz.sizeOf0
 v0:=Tryz.zeroValue0
 t3:=ak
 a3:=Tryz.isAgg3
 z3:=Tryz.sizeOf3
 v3:=Tryz.zeroValue3
 t9:=az
 a9:=Tryz.isAgg9
 z9:=Au
 v9:=nh
 t37:=bX
 a37:=Tryz.isAgg293
 z37:=Tryz.sizeOf293
 v37:=Tryz.zeroValue293
 t70:=Tryz.underlying363
 a70:=Tryz.isAgg363
 z70:=Tryz.sizeOf363
 v70:=Tryz.zeroValue363
 t72:=Tryz.underlying365
 a72:=Tryz.isAgg365
 z72:=Tryz.sizeOf365
 v72:=Tryz.zeroValue365
 t127:=Tryz.underlying394
 a127:=Tryz.isAgg394
 z127:=Tryz.sizeOf394
 v127:=Tryz.zeroValue394}
def Tryz.D5:Go.Shelf.Ren:=⟨fun|119=>308|n=>n,fun|21=>21|4=>4|n=>n,fun|n=>n⟩
theorem Tryz.RA:Go.Proofs.Lays.n119 Tryz.prog Tryz.D5:={
 mixed:=by kernel_rfl
 f119:=Tryz.func308.trans a03
 t4:=jK
 a4:=Tryz.isAgg4
 z4:=Tryz.sizeOf4
 v4:=Tryz.zeroValue4
 t21:=Tryz.underlying21
 a21:=Tryz.isAgg21
 z21:=Tryz.sizeOf21
 v21:=Tryz.zeroValue21}
def Tryz.D6:Go.Shelf.Ren:=⟨fun|106=>147|213=>188|265=>254|n=>n,fun|9=>9|3=>3|n=>n,fun|n=>n⟩
theorem Tryz.RB:Go.Proofs.Lays.n106 Tryz.prog Tryz.D6:={
 mixed:=by kernel_rfl
 f106:=Tryz.func147.trans a03
 f213:=Tryz.func188.trans a03
 f265:=Tryz.func254.trans a03
 t3:=ak
 a3:=Tryz.isAgg3
 z3:=Tryz.sizeOf3
 v3:=Tryz.zeroValue3
 t9:=az
 a9:=Tryz.isAgg9
 z9:=Au
 v9:=nh}
theorem Tryz.tB:Builder.Extra Tryz.prog Tryz.wG:={
 sizeBuilder:=by kernel_rfl
 liesBuilder:=by kernel_rfl
 t5:=cU
 a5:=Tryz.isAgg5
 z5:=Tryz.sizeOf5
 v5:=Tryz.zeroValue5
 infoByte:=by kernel_rfl
 cellsByte:=by kernel_rfl
 sizeByte:=by kernel_rfl
 neB5:=by decide}
def Tryz.wH:Go.Shelf.Ren:=⟨fun|168=>280|240=>306|242=>307|276=>317|278=>318|n=>n,fun|0=>0|3=>3|4=>4|5=>5|9=>9|20=>20|21=>21|37=>293|46=>262|51=>336|70=>363|72=>365|75=>367|80=>371|164=>399|n=>n,fun|n=>n⟩
theorem Tryz.RC:Go.Proofs.Lays.n168 Tryz.prog Tryz.wH:={
 mixed:=by kernel_rfl
 f168:=Tryz.func280.trans a03
 f240:=Tryz.func306.trans a03
 f242:=Tryz.func307.trans a03
 f276:=Tryz.func317.trans a03
 f278:=Tryz.func318.trans a03
 t0:=As
 a0:=Tryz.isAgg0
 z0:=Tryz.sizeOf0
 v0:=Tryz.zeroValue0
 t3:=ak
 a3:=Tryz.isAgg3
 z3:=Tryz.sizeOf3
 v3:=Tryz.zeroValue3
 t4:=jK
 a4:=Tryz.isAgg4
 z4:=Tryz.sizeOf4
 v4:=Tryz.zeroValue4
 t5:=cU
 a5:=Tryz.isAgg5
 z5:=Tryz.sizeOf5
 v5:=Tryz.zeroValue5
 t9:=az
 a9:=Tryz.isAgg9
 z9:=Au
 v9:=nh
 t20:=Tryz.underlying20
 a20:=Tryz.isAgg20
 z20:=Tryz.sizeOf20
 v20:=Tryz.zeroValue20
 t21:=Tryz.underlying21
 a21:=Tryz.isAgg21
 z21:=Tryz.sizeOf21
 v21:=Tryz.zeroValue21
 t37:=bX
 a37:=Tryz.isAgg293
 z37:=Tryz.sizeOf293
 v37:=Tryz.zeroValue293
 t46:=Tryz.underlying262
 a46:=Tryz.isAgg262
 z46:=Tryz.sizeOf262
 v46:=Tryz.zeroValue262
 t51:=Tryz.underlying336
 a51:=Tryz.isAgg336
 z51:=Tryz.sizeOf336
 v51:=Tryz.zeroValue336
 t70:=Tryz.underlying363
 a70:=Tryz.isAgg363
 z70:=Tryz.sizeOf363
 v70:=Tryz.zeroValue363
 t72:=Tryz.underlying365
 a72:=Tryz.isAgg365
 z72:=Tryz.sizeOf365
 v72:=Tryz.zeroValue365
 t75:=Tryz.underlying367
 a75:=Tryz.isAgg367
 z75:=Tryz.sizeOf367
 v75:=Tryz.zeroValue367
 t164:=Tryz.underlying399
 a164:=Tryz.isAgg399
 z164:=Tryz.sizeOf399
 v164:=Tryz.zeroValue399}
theorem Tryz.tC:Builder.Extra Tryz.prog Tryz.wH where
 sizeBuilder:=by kernel_rfl
 liesBuilder:=by kernel_rfl
 t5:=cU
 a5:=Tryz.isAgg5
 z5:=Tryz.sizeOf5
 v5:=Tryz.zeroValue5
 infoByte:=by kernel_rfl
 cellsByte:=by kernel_rfl
 sizeByte:=by kernel_rfl
 neB5:=by decide
end Go.Proofs
namespace Go.K
open Go.Proofs
set_option maxRecDepth 10000
open Go.RowKit Go.Shelf
theorem Gv (r:Int) (w:World):Spec Tryz.prog 308 #[.int .i32 r] w (λv w'=>v= .bool (Lib.validRune r)/\w'=w):=(Any.utf8_ValidRune Tryz.RA r w).mono λe w' ⟨h1,h2⟩=>⟨_,h1,rfl,h2⟩
theorem JZ {B b:Nat} {bs:List Value} {r:Int} (w:World) (hr: -2147483648<=r/\r<=2147483647) (h:Lib.IsBuilderF 365 5 B b bs w) (hl:bs.length+4<=140737488355328) (hB:B<=w.heap.size):
  Spec Tryz.prog 280 #[.pointer (some ⟨b,0,none⟩),.int .i32 r] w (λv w'=>Lib.IsBuilderF 365 5 B b (bs++Lib.runeCells r) w'∧Below B w w'):=
 (Any.Builder_WriteRune_k Tryz.RC Tryz.tC B b bs r hr.1 hr.2 w h hl hB).mono λe w' ⟨h1,h2,h3,_⟩=>⟨_,h1,.inr h2,h3⟩
theorem MI {B b:Nat} {l:List UInt8} (w:World) (h:Lib.IsBuilderF 365 5 B b (Lib.byteCells l) w) (hB:B<=w.heap.size):
  Spec Tryz.prog 282 #[.pointer (some ⟨b,0,none⟩)] w (λv w'=>v= .string ⟨l.toArray⟩/\Below B w w'):=
 (Any.Builder_String_any_k Tryz.Rz Tryz.tB B b l w h hB).mono λe w' ⟨h1,_,h3,_⟩=>⟨_,h1,rfl,h3⟩
theorem wrap32 {c:Int} (h:0<=c/\c<=1114111):IntKind.i32.wrap c=c:=by
 show(if(true&&decide (c%4294967296>=2147483648))=true then c%4294967296-4294967296 else c%4294967296)=c;rw[if_neg (by simp only[dr,decide_eq_true_eq];omega)];omega
def qB (c:Int):Int:=if c<0\/c>1114111\/Lib.validRune c=false then 65533 else c
theorem Iy (c:Int):0<=qB c/\qB c<=1114111:=by unfold qB;split<;>omega
def gN (l:List Int):List UInt8:=l.flatMap λc=>Lib.encodeRune (qB c)
theorem kg (l:List Int) (c:Int):gN (l++[c])=gN l++Lib.encodeRune (qB c):=by simp[gN]
theorem RD (r:Int):(Lib.encodeRune r).length<=4:=by have:=(Lib.encodeRuneZ_length r).2;simpa[Lib.encodeRune]using this
theorem gm (l:List Int):(gN l).length<=4*l.length:=by
 induction l with
 |nil=>simp[gN]
 |cons c l ih=>
  have:=RD (qB c);simp only[gN,List.flatMap_cons,bM,cH]at ih ⊢;omega
theorem yD (l:List Int) (c:Int):Lib.byteCells (gN l)++Lib.runeCells (qB c)=Lib.byteCells (gN (l++[c])):=by
 rw[kg,<-Lib.byteCells_encodeRune];simp[Lib.byteCells]
theorem MJ (c:Int) (w0:World):
  Spec Tryz.prog 281 #[.int .i64 c] w0 (λv w=>v= .int .i32 (qB c)/\w=w0):=by
 refine a7 (args:=[_]) (fn:=Tryz.f281) Tryz.func281 G (n:=17) Tryz.ntmps281 (T.aP (Rg.aZ G G (aK (T.aP (ab G G (cy G G G (ab G G ?_)))))));refine aO (g:=5) G (λiw=>?_) (λiw=>?_)
 ·refine aj G G G G (aj G G G G (aU G G G (ab G G (aj G G G G (aj G G G G (aj G G G G (aj G G G G (aU G G G (ad (kA G (aK ?_)))))))))));refine aM (Rg.aZ G G (aI ?_));exact aF rfl rfl ⟨by rw[qB,if_pos ae4],G⟩
 ·refine ae G G (ab G G (ae G G (eN G G G (aA G G G (ab G G ?_)))));refine aO (g:=9) G (λCr=>?_) (λCr=>?_)
  ·refine aj G G G G (aj G G G G (aj G G G G (aj G G G G (aU G G G (ad (kA G (T.aP (Rg.aZ G G (aI ?_)))))))));exact aF rfl rfl ⟨by rw[qB,if_pos ae4],G⟩
  ·refine ae G G (ab G G (ae G G (wh ak Tryz.underlying21 G G (br (v':= .int .i32 c) (congrArg (Value.int .i32) (wrap32 q0)) (ae G G ?_)))));refine aQ G G ag8 (Gv _ _) (λr wc hc=>?_);obtain⟨rfl,rfl⟩:=hc;refine ae rfl rfl (ib rfl rfl (br (v':= .bool (decide (Lib.validRune c=false))) (by cases Lib.validRune c<;>rfl) (aA rfl rfl rfl (ad ?_))));refine bF G (λc1=>?_) (λc1=>?_)
   ·refine T.aP (Rg.aZ G G (aI ?_));exact aF rfl rfl ⟨by rw[qB,if_pos ae4],G⟩
   ·refine aR (T.aP (ab G G (wh ak Tryz.underlying21 G G (br (v':= .int .i32 c) (congrArg (Value.int .i32) (wrap32 q0)) (Rg.aZ G G (aI ?_))))));exact aF rfl rfl ⟨by rw[qB,if_neg (by rintro(h|h|h)<;>first|omega|exact absurd h U3)],rfl⟩
theorem J0 {M:aL} {xs:List Int} {v0:Value} (w0:World) (hM:Lt M w0) (hv:((RT.int .i64).sl).V M w0 xs v0) (hl:xs.length<=4000000):
  Spec Tryz.prog 243 #[v0] w0 (λv w=>v= .string ⟨(gN xs).toArray⟩/\Step M w0 M w aD):=by
 refine a7 (args:=[_]) (fn:=Tryz.f243) Tryz.func243 G (n:=17) Tryz.ntmps243 (T.aP (Rg.aZ G G (T.aP ?_)));refine eB M agz G (λb w1 p1 q1 g1 s1=>?_);have vB:Lib.IsBuilderF 365 5 w0.heap.size b (Lib.byteCells (gN (xs.take 0))) w1:= .of (.inl ⟨p1,.slice none 0 0,g1,World.ownsRow_nil _ _ _ _,by simp[Value.ownBlock]⟩);have S1:Below w0.heap.size w0 w1:=s1.below;refine ad (aK (T.aP (ab G G (bz ax G hv G (ab G G (ad (aX ?_)))))));refine cY (σ:=Nat) (λk=>[(3,.pointer (some ⟨b,0,none⟩)),(6,v0),(7,.int .i64 (xs.length:Int)),(8,.int .i64 (k:Int))]) (λk w=>Lib.IsBuilderF 365 5 w0.heap.size b (Lib.byteCells (gN (xs.take k))) w/\Below w0.heap.size w0 w/\k<=xs.length) (λk=>xs.length-k) 0 a38 ?_ ?_
 ·exact⟨vB,S1,bp _⟩
 ·rintro k w ⟨hb,S,hk⟩;refine T.aP (cy G G G (ad (aK ?_)));refine bF G (λc3=>?_) (λc3=>?_)
  ·refine aR (aK (aX (T.aP ?_)));refine cB (M:=M) ax I3 G G G hv (Step.Cp S M).le q0 (λu4 c Gw Ls=>?_);refine bT ak G G Ls bU (λin4=>?_);refine Rg.aZ G G (aM (ab G G ?_));refine aQ G G ag5 (MJ c _) (λr wc hc=>?_);obtain⟨rfl,rfl⟩:=hc;refine aQ G G ag4 (JZ _ (by have:=Iy c;omega) hb (by rw[Lib.byteCells_length];have:=gm (xs.take k);rw[bJ]at this;omega) S.size) (λr5 w5 hc=>?_);obtain⟨hb5,S5⟩:=hc;have tk:xs.take (k+1)=xs.take k++[c]:=by rw[b7];simp only[ar]at Gw;rw[Gw];rfl
   rw[yD,<-tk]at hb5;have S6:=S.trans S5;refine ad (aM (bC G G G q0 (ab G G (ad ?_))));refine⟨G,k+1,a38,?_,?_⟩
   ·exact⟨hb5,S6,by omega⟩
   ·omega
  ·refine cN (T.aP ?_);refine aQ G G ag6 (MI _ hb S.size) (λr7 w7 hc=>?_);obtain⟨rfl,S7⟩:=hc;refine Rg.aZ G G (aI ?_);have e:xs.take k=xs:=bm q0;rw[e];exact aF G G ⟨G,Step.Cp (S.trans S7) M⟩
end Go.K
namespace Go.K
def nO (c:Int):Int:=if 194<=c/\c<224 then 2 else if 224<=c/\c<240 then 3 else if 240<=c/\c<245 then 4 else 0
def gR (c:Int):Int:=if 194<=c/\c<224 then 128 else if 224<=c/\c<240 then 2048 else if 240<=c/\c<245 then 65536 else 0
def vC (c:Int):Int:=if 194<=c/\c<224 then c-192 else if 224<=c/\c<240 then c-224 else if 240<=c/\c<245 then c-240 else 0
def vO (l:List UInt8):Nat->Int
 |0=>vC (jZ l 0)
 |k+1=>64*vO l k+jZ l (k+1)-128
theorem gG {l:List UInt8} {k:Nat}:j5 l k=true↔k<l.length/\128<=jZ l k/\jZ l k<192:=by
 unfold j5;simp only[cr,decide_eq_true_eq,beq_iff_eq];omega
theorem Bn {n:Nat}:Utf8.valid (n:Int)=true↔(n<55296\/(57344<=n/\n<=1114111)):=by
 simp only[Utf8.valid,Bool.or_eq_true,cr,decide_eq_true_eq];omega
theorem aam {l:List UInt8} (h:(jZ l 0:Int)<128):dec l=(jZ l 0,1):=by
 unfold dec DY;rw[if_pos q0]
theorem Iz {l:List UInt8} (h0:128<=(jZ l 0:Int)) (h:nO (jZ l 0)=0\/∃k:Nat,1<=k/\(k:Int)<nO (jZ l 0)/\j5 l k=false):dec l=(65533,1):=by
 have hb:=oz l 0;unfold dec DY;rw[if_neg q0]
 have hk:nO (jZ l 0)=0\/(2<=nO (jZ l 0)/\j5 l 1=false)\/(3<=nO (jZ l 0)/\j5 l 2=false)\/(4<=nO (jZ l 0)/\j5 l 3=false):=by
  rcases h with h|⟨k,h1,h2,h3⟩
  ·exact .inl h
  ·have:nO (jZ l 0)<=4:=by
    unfold nO
    split
    ·omega
    ·split
     ·omega
     ·split<;>omega
   have hk:k=1\/k=2\/k=3:=by omega
   rcases hk with rfl|rfl|rfl
   ·exact .inr (.inl ⟨by omega,h3⟩)
   ·exact .inr (.inr (.inl ⟨by omega,h3⟩))
   ·exact .inr (.inr (.inr ⟨by omega,h3⟩))
 simp only[beq_iff_eq,cr,decide_eq_true_eq,ge_iff_le,Bn];have hn:nO (jZ l 0)=if 194<=(jZ l 0:Int)/\(jZ l 0:Int)<224 then 2 else if 224<=(jZ l 0:Int)/\(jZ l 0:Int)<240 then 3 else if 240<=(jZ l 0:Int)/\(jZ l 0:Int)<245 then 4 else 0:=rfl
 rw[hn]at hk
 split
 ·rename_i hc
  obtain⟨hc1,QP⟩:=hc
  split
  ·rename_i hv
   exfalso;by_cases aqT:194<=(jZ l 0:Int)
   ·rw[if_pos q0]at hk;rcases hk with hk|⟨_,hk⟩|⟨hk,_⟩|⟨hk,_⟩
    ·omega
    ·rw[hk]at QP;cases QP
    ·omega
    ·omega
   ·omega
  ·rfl
 ·split
  ·rename_i hc
   obtain⟨⟨hc1,QP⟩,hc3⟩:=hc
   split
   ·exfalso;rw[if_neg q0,if_pos q0]at hk;rcases hk with hk|⟨_,hk⟩|⟨_,hk⟩|⟨hk,_⟩
    ·omega
    ·rw[hk]at QP;cases QP
    ·rw[hk]at hc3;cases hc3
    ·omega
   ·rfl
  ·split
   ·rename_i hc
    obtain⟨⟨⟨hc1,QP⟩,hc3⟩,hc4⟩:=hc
    split
    ·rename_i hv
     exfalso;by_cases aqU:(jZ l 0:Int)<245
     ·rw[if_neg q0,if_neg q0,if_pos q0]at hk;rcases hk with hk|⟨_,hk⟩|⟨_,hk⟩|⟨_,hk⟩
      ·omega
      ·rw[hk]at QP;cases QP
      ·rw[hk]at hc3;cases hc3
      ·rw[hk]at hc4;cases hc4
     ·omega
    ·rfl
   ·rfl
theorem nG {c:Int} (h:nO c≠0):(nO c=2/\gR c=128/\vC c=c-192/\194<=c/\c<224)\/(nO c=3/\gR c=2048/\vC c=c-224/\224<=c/\c<240)\/(nO c=4/\gR c=65536/\vC c=c-240/\240<=c/\c<245):=by
 by_cases h1:194<=c/\c<224
 ·exact .inl ⟨if_pos h1,if_pos h1,if_pos h1,h1.1,h1.2⟩
 ·by_cases h2:224<=c/\c<240
  ·exact .inr (.inl ⟨(if_neg h1).trans (if_pos h2),(if_neg h1).trans (if_pos h2),(if_neg h1).trans (if_pos h2),h2.1,h2.2⟩)
  ·by_cases h3:240<=c/\c<245
   ·exact .inr (.inr ⟨(if_neg h1).trans ((if_neg h2).trans (if_pos h3)),(if_neg h1).trans ((if_neg h2).trans (if_pos h3)),(if_neg h1).trans ((if_neg h2).trans (if_pos h3)),h3.1,h3.2⟩)
   ·exact absurd ((if_neg h1).trans ((if_neg h2).trans (if_neg h3))) h
theorem D7 {l:List UInt8} (hn:nO (jZ l 0)≠0) (hc:∀k:Nat,1<=k->(k:Int)<nO (jZ l 0)->j5 l k=true) (v:Int) (hv:v=vO l (nO (jZ l 0)-1).toNat):
  dec l=if v<gR (jZ l 0)\/v>1114111\/(55296<=v/\v<=57343)then(65533,1)else(v.toNat,(nO (jZ l 0)).toNat):=by
 have hb:=oz l 0;have b1:=oz l 1;have b2:=oz l 2;have b3:=oz l 3;unfold dec DY;simp only[beq_iff_eq,cr,decide_eq_true_eq,ge_iff_le,Bn];rcases nG hn with⟨e1,e2,e3,e4,e5⟩|⟨e1,e2,e3,e4,e5⟩|⟨e1,e2,e3,e4,e5⟩
 ·have c1:=hc 1 q0 q0;have d1:=gG.1 c1;rw[e1]at hv;have Bo:v=64*((jZ l 0:Int)-192)+jZ l 1-128:=by rw[hv];show 64*vC (jZ l 0)+_-_=_;rw[e3]
  rw[if_neg q0,if_pos ⟨by omega,c1⟩,e2,e1];by_cases hx:v<128\/v>1114111\/(55296<=v/\v<=57343)
  ·rw[if_pos hx,if_neg q0]
  ·rw[if_neg hx,if_pos q0];simp only[Prod.mk.injEq];omega
 ·have c1:=hc 1 q0 q0;have c2:=hc 2 q0 q0;have d1:=gG.1 c1;have d2:=gG.1 c2;rw[e1]at hv;have Bo:v=64*(64*((jZ l 0:Int)-224)+jZ l 1-128)+jZ l 2-128:=by rw[hv];show 64*(64*vC (jZ l 0)+_-_)+_-_=_;rw[e3]
  rw[if_neg q0,if_neg q0,if_pos ⟨⟨by omega,c1⟩,c2⟩,e2,e1];by_cases hx:v<2048\/v>1114111\/(55296<=v/\v<=57343)
  ·rw[if_pos hx,if_neg q0]
  ·rw[if_neg hx,if_pos q0];simp only[Prod.mk.injEq];omega
 ·have c1:=hc 1 q0 q0;have c2:=hc 2 q0 q0;have c3:=hc 3 q0 q0;have d1:=gG.1 c1;have d2:=gG.1 c2;have d3:=gG.1 c3;rw[e1]at hv;have Bo:v=64*(64*(64*((jZ l 0:Int)-240)+jZ l 1-128)+jZ l 2-128)+jZ l 3-128:=by rw[hv];show 64*(64*(64*vC (jZ l 0)+_-_)+_-_)+_-_=_;rw[e3]
  rw[if_neg q0,if_neg q0,if_neg q0,if_pos ⟨⟨⟨by omega,c1⟩,c2⟩,c3⟩,e2,e1];by_cases hx:v<65536\/v>1114111\/(55296<=v/\v<=57343)
  ·rw[if_pos hx,if_neg q0]
  ·rw[if_neg hx,if_pos q0];simp only[Prod.mk.injEq];omega
open Go.Proofs
set_option maxRecDepth 10000
theorem Cs (c:Int) (w0:World):
  Spec Tryz.prog 173 #[.int .i64 c] w0 (λv w=>v= .bool (fD c)/\w=w0):=by
 refine a7 (args:=[_]) (fn:=Tryz.f173) Tryz.func173 G (n:=31) Tryz.ntmps173 (T.aP (Rg.aZ G G (aK (T.aP (ab G G (ek G G G (ab G G ?_)))))));refine aO (g:=5) G (λiw=>?_) (λiw=>?_)
 ·refine ae G G (ab G G (ae G G (fN G G G (aU G G G (ab G G ?_)))));refine aO (g:=9) G (λCr=>?_) (λCr=>?_)
  ·refine aj G G G G (aj G G G G (aj G G G G (cf G G G (cf G G G (aj G G G G (aU G G G (ad (kA G (T.aP (aG G G ?_))))))))));refine ad (aI ?_);exact aF rfl rfl ⟨by simp only[fD];first|rfl|(congr 1;first|(exact(decide_eq_true q0).symm)|(exact(decide_eq_false q0).symm)|(exact decide_eq_decide.2 q0)),rfl⟩
  ·refine ae G G (ab G G (ae G G (ek G G G (ae G G (ab G G ?_)))));refine aO (g:=12) G (λsd=>?_) (λsd=>?_)
   ·refine ae G G (ab G G (ae G G (fN G G G (ae G G (aU G G G (aA G G G (ad ?_)))))));refine bF G (λc1=>?_) (λc1=>?_)
    ·refine T.aP (Rg.aZ G G (aI ?_));exact aF rfl rfl ⟨by simp only[fD];first|rfl|(congr 1;first|(exact(decide_eq_true q0).symm)|(exact(decide_eq_false q0).symm)|(exact decide_eq_decide.2 q0)),rfl⟩
    ·refine aR (T.aP (ab G G (ek G G G (ab G G ?_))));refine aO (g:=19) G (λGx=>?_) (λGx=>?_)
     ·refine ae G G (ab G G (ae G G (fN G G G (aU G G G (ab G G ?_)))));refine aO (g:=23) G (λGy=>?_) (λGy=>?_)
      ·refine ae G G (ab G G (ae G G (eV G G G (aU G G G (ab G G ?_)))));refine aO (g:=27) G (λyE=>?_) (λyE=>?_)
       ·refine ae G G (ab G G (ae G G (eV G G G (aU G G G (Rg.aZ G G (aI ?_))))));exact aF rfl rfl ⟨by simp only[fD];first|rfl|(congr 1;first|(exact(decide_eq_true q0).symm)|(exact(decide_eq_false q0).symm)|(exact decide_eq_decide.2 q0)),rfl⟩
       ·refine aj G G G G (aj G G G G (aA G G G (Rg.aZ G G (aI ?_))));exact aF rfl rfl ⟨by simp only[fD];first|rfl|(congr 1;first|(exact(decide_eq_true q0).symm)|(exact(decide_eq_false q0).symm)|(exact decide_eq_decide.2 q0)),rfl⟩
      ·refine aj G G G G (aj G G G G (aA G G G (ab G G (aj G G G G (aj G G G G (aA G G G (Rg.aZ G G (aI ?_))))))));exact aF rfl rfl ⟨by simp only[fD];first|rfl|(congr 1;first|(exact(decide_eq_true q0).symm)|(exact(decide_eq_false q0).symm)|(exact decide_eq_decide.2 q0)),rfl⟩
     ·refine aj G G G G (aj G G G G (aA G G G (ab G G (aj G G G G (aj G G G G (aA G G G (ab G G (aj G G G G (aj G G G G (aA G G G (aG G G ?_)))))))))));refine ad (aI ?_);exact aF rfl rfl ⟨by simp only[fD];first|rfl|(congr 1;first|(exact(decide_eq_true q0).symm)|(exact(decide_eq_false q0).symm)|(exact decide_eq_decide.2 q0)),rfl⟩
   ·refine aj G G G G (aj G G G G (ae G G (aA G G G (aA G G G (ad (jJ G (aR (T.aP (ab G G (ek G G G ?_))))))))));refine ab G G ?_;refine aO (g:=19) G (λGx=>?_) (λGx=>?_)
    ·refine ae G G (ab G G (ae G G (fN G G G (aU G G G (ab G G ?_)))));refine aO (g:=23) G (λGy=>?_) (λGy=>?_)
     ·refine ae G G (ab G G (ae G G (eV G G G (aU G G G (ab G G ?_)))));refine aO (g:=27) G (λyE=>?_) (λyE=>?_)
      ·refine ae G G (ab G G (ae G G (eV G G G (aU G G G (Rg.aZ G G (aI ?_))))));exact aF rfl rfl ⟨by simp only[fD];first|rfl|(congr 1;first|(exact(decide_eq_true q0).symm)|(exact(decide_eq_false q0).symm)|(exact decide_eq_decide.2 q0)),rfl⟩
      ·refine aj G G G G (aj G G G G (aA G G G (Rg.aZ G G (aI ?_))));exact aF rfl rfl ⟨by simp only[fD];first|rfl|(congr 1;first|(exact(decide_eq_true q0).symm)|(exact(decide_eq_false q0).symm)|(exact decide_eq_decide.2 q0)),rfl⟩
     ·refine aj G G G G (aj G G G G (aA G G G (ab G G (aj G G G G (aj G G G G (aA G G G (Rg.aZ G G (aI ?_))))))));exact aF rfl rfl ⟨by simp only[fD];first|rfl|(congr 1;first|(exact(decide_eq_true q0).symm)|(exact(decide_eq_false q0).symm)|(exact decide_eq_decide.2 q0)),rfl⟩
    ·refine aj G G G G (aj G G G G (aA G G G (ab G G (aj G G G G (aj G G G G (aA G G G (ab G G (aj G G G G (aj G G G G (aA G G G (aG G G ?_)))))))))));refine ad (aI ?_);exact aF rfl rfl ⟨by simp only[fD];first|rfl|(congr 1;first|(exact(decide_eq_true q0).symm)|(exact(decide_eq_false q0).symm)|(exact decide_eq_decide.2 q0)),rfl⟩
 ·refine aj G G G G (aj G G G G (aA G G G (ab G G (ae G G (ab G G (ae G G (ek G G G (ae G G (ab G G ?_)))))))));refine aO (g:=12) G (λsd=>?_) (λsd=>?_)
  ·refine ae G G (ab G G (ae G G (fN G G G (ae G G (aU G G G (aA G G G (ad ?_)))))));refine bF G (λc1=>?_) (λc1=>?_)
   ·refine T.aP (Rg.aZ G G (aI ?_));exact aF rfl rfl ⟨by simp only[fD];first|rfl|(congr 1;first|(exact(decide_eq_true q0).symm)|(exact(decide_eq_false q0).symm)|(exact decide_eq_decide.2 q0)),rfl⟩
   ·refine aR (T.aP (ab G G (ek G G G (ab G G ?_))));refine aO (g:=19) G (λGx=>?_) (λGx=>?_)
    ·refine ae G G (ab G G (ae G G (fN G G G (aU G G G (ab G G ?_)))));refine aO (g:=23) G (λGy=>?_) (λGy=>?_)
     ·refine ae G G (ab G G (ae G G (eV G G G (aU G G G (ab G G ?_)))));refine aO (g:=27) G (λyE=>?_) (λyE=>?_)
      ·refine ae G G (ab G G (ae G G (eV G G G (aU G G G (Rg.aZ G G (aI ?_))))));exact aF rfl rfl ⟨by simp only[fD];first|rfl|(congr 1;first|(exact(decide_eq_true q0).symm)|(exact(decide_eq_false q0).symm)|(exact decide_eq_decide.2 q0)),rfl⟩
      ·refine aj G G G G (aj G G G G (aA G G G (Rg.aZ G G (aI ?_))));exact aF rfl rfl ⟨by simp only[fD];first|rfl|(congr 1;first|(exact(decide_eq_true q0).symm)|(exact(decide_eq_false q0).symm)|(exact decide_eq_decide.2 q0)),rfl⟩
     ·refine aj G G G G (aj G G G G (aA G G G (ab G G (aj G G G G (aj G G G G (aA G G G (Rg.aZ G G (aI ?_))))))));exact aF rfl rfl ⟨by simp only[fD];first|rfl|(congr 1;first|(exact(decide_eq_true q0).symm)|(exact(decide_eq_false q0).symm)|(exact decide_eq_decide.2 q0)),rfl⟩
    ·refine aj G G G G (aj G G G G (aA G G G (ab G G (aj G G G G (aj G G G G (aA G G G (ab G G (aj G G G G (aj G G G G (aA G G G (aG G G ?_)))))))))));refine ad (aI ?_);exact aF rfl rfl ⟨by simp only[fD];first|rfl|(congr 1;first|(exact(decide_eq_true q0).symm)|(exact(decide_eq_false q0).symm)|(exact decide_eq_decide.2 q0)),rfl⟩
  ·refine aj G G G G (aj G G G G (ae G G (aA G G G (aA G G G (ad (jJ G (aR (T.aP (ab G G (ek G G G ?_))))))))));refine ab G G ?_;refine aO (g:=19) G (λGx=>?_) (λGx=>?_)
   ·refine ae G G (ab G G (ae G G (fN G G G (aU G G G (ab G G ?_)))));refine aO (g:=23) G (λGy=>?_) (λGy=>?_)
    ·refine ae G G (ab G G (ae G G (eV G G G (aU G G G (ab G G ?_)))));refine aO (g:=27) G (λyE=>?_) (λyE=>?_)
     ·refine ae G G (ab G G (ae G G (eV G G G (aU G G G (Rg.aZ G G (aI ?_))))));exact aF rfl rfl ⟨by simp only[fD];first|rfl|(congr 1;first|(exact(decide_eq_true q0).symm)|(exact(decide_eq_false q0).symm)|(exact decide_eq_decide.2 q0)),rfl⟩
     ·refine aj G G G G (aj G G G G (aA G G G (Rg.aZ G G (aI ?_))));exact aF rfl rfl ⟨by simp only[fD];first|rfl|(congr 1;first|(exact(decide_eq_true q0).symm)|(exact(decide_eq_false q0).symm)|(exact decide_eq_decide.2 q0)),rfl⟩
    ·refine aj G G G G (aj G G G G (aA G G G (ab G G (aj G G G G (aj G G G G (aA G G G (Rg.aZ G G (aI ?_))))))));exact aF rfl rfl ⟨by simp only[fD];first|rfl|(congr 1;first|(exact(decide_eq_true q0).symm)|(exact(decide_eq_false q0).symm)|(exact decide_eq_decide.2 q0)),rfl⟩
   ·refine aj G G G G (aj G G G G (aA G G G (ab G G (aj G G G G (aj G G G G (aA G G G (ab G G (aj G G G G (aj G G G G (aA G G G (aG G G ?_)))))))))));refine ad (aI ?_);exact aF rfl rfl ⟨by simp only[fD];first|rfl|(congr 1;first|(exact(decide_eq_true q0).symm)|(exact(decide_eq_false q0).symm)|(exact decide_eq_decide.2 q0)),rfl⟩
theorem yF (c:Int) (w0:World) (hc:0<=c/\c<=1114111):
  Spec Tryz.prog 171 #[.int .i64 c] w0 (λv w=>v= .int .i64 (eh c)/\w=w0):=by
 refine a7 (args:=[_]) (fn:=Tryz.f171) Tryz.func171 G (n:=28) Tryz.ntmps171 (T.aP (Rg.aZ G G (aK (T.aP (ab G G (ek G G G (ab G G ?_)))))));refine aO (g:=5) G (λiw=>?_) (λiw=>?_)
 ·refine ae G G (ab G G (ae G G (fN G G G (aU G G G (ab G G ?_)))));refine aO (g:=9) G (λCr=>?_) (λCr=>?_)
  ·refine aj G G G G (aj G G G G (aj G G G G (cf G G G (cf G G G (aj G G G G (aU G G G (ab G G (aj G G G G (aj G G G G (aj G G G G (cf G G G ?_)))))))))));refine cf G G G (aj G G G G (aU G G G (ad (kA G (T.aP (ab G G (bC G G G q0 (Rg.aZ G G (aI ?_)))))))));exact a56
  ·refine ae G G (ab G G (ae G G (ek G G G (ae G G (ab G G ?_)))));refine aO (g:=12) G (λsd=>?_) (λsd=>?_)
   ·refine ae G G (ab G G (ae G G (fN G G G (ae G G (aU G G G (aA G G G (ab G G ?_)))))));refine aO (g:=17) G (λyA=>?_) (λyA=>?_)
    ·refine aj G G G G (aj G G G G (aj G G G G (cf G G G (cf G G G (aj G G G G (aU G G G (ad (kA G (T.aP (ab G G ?_))))))))));refine bC G G G q0 (Rg.aZ G G (aI ?_));exact a56
    ·refine ae G G (ab G G (ae G G (ek G G G (ae G G (ab G G ?_)))));refine aO (g:=20) G (λl3=>?_) (λl3=>?_)
     ·refine ae G G (ab G G (ae G G (fN G G G (ae G G (aU G G G (aA G G G (ad ?_)))))));refine bF G (λc1=>?_) (λc1=>?_)
      ·refine T.aP (ab G G (bC G G G q0 (Rg.aZ G G (aI ?_))));exact a56
      ·refine aR (T.aP (ab G G (Rg.aZ G G (aI ?_))));exact a19
     ·refine aj G G G G (aj G G G G (ae G G (aA G G G (aA G G G (ad (jJ G (aR (T.aP (ab G G (aG G G ?_))))))))));refine ad (aI ?_);exact a19
   ·refine aj G G G G (aj G G G G (ae G G (aA G G G (aA G G G (ab G G (ae G G (ab G G (ae G G (ek G G G (ae G G (ab G G ?_)))))))))));refine aO (g:=20) G (λl3=>?_) (λl3=>?_)
    ·refine ae G G (ab G G (ae G G (fN G G G (ae G G (aU G G G (aA G G G (ad ?_)))))));refine bF G (λc1=>?_) (λc1=>?_)
     ·refine T.aP (ab G G (bC G G G q0 (Rg.aZ G G (aI ?_))));exact a56
     ·refine aR (T.aP (ab G G (Rg.aZ G G (aI ?_))));exact a19
    ·refine aj G G G G (aj G G G G (ae G G (aA G G G (aA G G G (ad (jJ G (aR (T.aP (ab G G (aG G G ?_))))))))));refine ad (aI ?_);exact a19
 ·refine aj G G G G (aj G G G G (aA G G G (ab G G (ae G G (ab G G (ae G G (ek G G G (ae G G (ab G G ?_)))))))));refine aO (g:=12) G (λsd=>?_) (λsd=>?_)
  ·refine ae G G (ab G G (ae G G (fN G G G (ae G G (aU G G G (aA G G G (ab G G ?_)))))));refine aO (g:=17) G (λyA=>?_) (λyA=>?_)
   ·refine aj G G G G (aj G G G G (aj G G G G (cf G G G (cf G G G (aj G G G G (aU G G G (ad (kA G (T.aP (ab G G ?_))))))))));refine bC G G G q0 (Rg.aZ G G (aI ?_));exact a56
   ·refine ae G G (ab G G (ae G G (ek G G G (ae G G (ab G G ?_)))));refine aO (g:=20) G (λl3=>?_) (λl3=>?_)
    ·refine ae G G (ab G G (ae G G (fN G G G (ae G G (aU G G G (aA G G G (ad ?_)))))));refine bF G (λc1=>?_) (λc1=>?_)
     ·refine T.aP (ab G G (bC G G G q0 (Rg.aZ G G (aI ?_))));exact a56
     ·refine aR (T.aP (ab G G (Rg.aZ G G (aI ?_))));exact a19
    ·refine aj G G G G (aj G G G G (ae G G (aA G G G (aA G G G (ad (jJ G (aR (T.aP (ab G G (aG G G ?_))))))))));refine ad (aI ?_);exact a19
  ·refine aj G G G G (aj G G G G (ae G G (aA G G G (aA G G G (ab G G (ae G G (ab G G (ae G G (ek G G G (ae G G (ab G G ?_)))))))))));refine aO (g:=20) G (λl3=>?_) (λl3=>?_)
   ·refine ae G G (ab G G (ae G G (fN G G G (ae G G (aU G G G (aA G G G (ad ?_)))))));refine bF G (λc1=>?_) (λc1=>?_)
    ·refine T.aP (ab G G (bC G G G q0 (Rg.aZ G G (aI ?_))));exact a56
    ·refine aR (T.aP (ab G G (Rg.aZ G G (aI ?_))));exact a19
   ·refine aj G G G G (aj G G G G (ae G G (aA G G G (aA G G G (ad (jJ G (aR (T.aP (ab G G (aG G G ?_))))))))));refine ad (aI ?_);exact a19
def oB (c:Int):Bool:=decide (fD c=true\/l2 c=true)
theorem yG (c:Int) (w0:World):
  Spec Tryz.prog 113 #[.int .i64 c] w0 (λv w=>v= .bool (oB c)/\w=w0):=by
 refine a7 (args:=[_]) (fn:=Tryz.f113) Tryz.func113 G (n:=13) Tryz.ntmps113 (T.aP (Rg.aZ G G (T.aP (ab G G ?_))));refine aQ G G agM (Cs _ _) (λr wc hc=>?_);obtain⟨rfl,rfl⟩:=hc;refine br (v':= .bool (decide (fD c=true))) (by cases fD c<;>rfl) (ab rfl rfl ?_);refine aO (g:=5) G (λiw=>?_) (λiw=>?_)
 ·refine aj G G G G (aj G G G G (aj G G G G (cf G G G (cf G G G (aj G G G G (aU G G G (Rg.aZ G G (aI ?_))))))));have e:(l2 c=true)=(48<=c/\c<=57):=by simp[l2]
  exact aF rfl rfl ⟨by simp only[oB,e];first|(congr 1;first|(exact(decide_eq_true (.inl U3)).symm)|(exact(decide_eq_true (.inr q0)).symm)|(exact(decide_eq_false ah8).symm)|(exact decide_eq_decide.2 ⟨λh=> .inr q0,λh=>h.elim (λh=>absurd h U3) (λh=>by omega)⟩)),rfl⟩
 ·refine ae G G (ab G G (ae G G (ek G G G (ae G G (ab G G ?_)))));refine aO (g:=8) G (λk3=>?_) (λk3=>?_)
  ·refine ae G G (ab G G (ae G G (fN G G G (ae G G (aU G G G (aA G G G (Rg.aZ G G (aI ?_))))))));have e:(l2 c=true)=(48<=c/\c<=57):=by simp[l2]
   exact aF rfl rfl ⟨by simp only[oB,e];first|(congr 1;first|(exact(decide_eq_true (.inl U3)).symm)|(exact(decide_eq_true (.inr q0)).symm)|(exact(decide_eq_false ah8).symm)|(exact decide_eq_decide.2 ⟨λh=> .inr q0,λh=>h.elim (λh=>absurd h U3) (λh=>by omega)⟩)),rfl⟩
  ·refine aj G G G G (aj G G G G (ae G G (aA G G G (aA G G G (Rg.aZ G G (aI ?_))))));have e:(l2 c=true)=(48<=c/\c<=57):=by simp[l2]
   exact aF rfl rfl ⟨by simp only[oB,e];first|(congr 1;first|(exact(decide_eq_true (.inl U3)).symm)|(exact(decide_eq_true (.inr q0)).symm)|(exact(decide_eq_false ah8).symm)|(exact decide_eq_decide.2 ⟨λh=> .inr q0,λh=>h.elim (λh=>absurd h U3) (λh=>by omega)⟩)),rfl⟩
theorem VT {l:List UInt8} {c:Int} (hc:c=(jZ l 0:Int)) (hn:nO c≠0):∀{k:Nat},(∀j:Nat,1<=j->j<k+1->j5 l j=true)->k<=3->0<=vO l k/\vO l k<=100000000:=by
 have key:∀k:Nat,(∀j:Nat,1<=j->j<k+1->j5 l j=true)->0<=vO l k/\vO l k<=33*64^k-1:=by
  intro k
  induction k with
  |zero=>
   intro _;have:=nG hn;show 0<=vC (jZ l 0:Int)/\vC (jZ l 0:Int)<=33*64^0-1;rw[<-hc];simp only[Int.pow_zero];omega
  |succ k ih=>
   intro h;have h1:=ih λj h2 h3=>h j h2 q0
   have h2:=gG.1 (h (k+1) q0 q0);show 0<=64*vO l k+_-128/\64*vO l k+_-128<=_;rw[Int.pow_succ];omega
 intro k h hk;have:=key k h
 have h3:(64:Int)^k<=262144:=by
  rcases(show k=0\/k=1\/k=2\/k=3 by omega)with rfl|rfl|rfl|rfl<;>decide
 omega
theorem MK {l:List UInt8} (w0:World) (hl:l≠[]) (hlen:l.length<=4000000):
  Spec Tryz.prog 170 #[.string ⟨l.toArray⟩] w0 (λv w=>v= .tuple #[.int .i64 ((dec l).1:Int),.int .i64 ((dec l).2:Int)]/\w=w0):=by
 have xX:0<l.length:=dI.2 hl;have yH:=oz l 0;obtain⟨c,hc⟩:∃c:Int,c=(jZ l 0:Int):=⟨_,rfl⟩;have hcr:0<=c/\c<256:=by omega
 refine a7 (args:=[_]) (fn:=Tryz.f170) Tryz.func170 G (n:=85) Tryz.ntmps170 (T.aP (aG G G (Rg.aZ G G (T.aP (ab G G ?_)))));refine Rg.Iu (c:=l.getD 0 0) az G G G QZ (by rw[b4];show l[0]? =_;rw[an xX];rfl) ?_;refine br (v':= .int .u8 c) (by rw[hc];rfl) (Rg.uO cU ak rfl rfl q0 (Rg.aZ rfl rfl (aK (T.aP (ab rfl rfl (cy rfl rfl rfl (ad ?_)))))));refine bF G (λc2=>?_) (λc2=>?_)
 ·refine T.aP (ab G G (aG G G (Rg.aZ G G (aI ?_))));exact fc rfl rfl rfl ⟨by rw[aam q0,hc];rfl,rfl⟩
 ·refine aR (T.aP (Rg.aZ G G (T.aP (Rg.aZ G G (T.aP (aG G G ?_))))));refine ad ?_;refine T.mI [(0,.string ⟨l.toArray⟩),(4,.int .i64 c),(5,.int .i64 (nO c)),(6,.int .i64 (gR c)),(7,.int .i64 (vC c))] ?_ ?_
  ·refine T.aP (ab G G (ek G G G (ab G G ?_)));refine aO (g:=18) G (λaha=>?_) (λaha=>?_)
   ·refine ae G G (ab G G (ae G G (cy G G G (aU G G G (ad ?_)))));refine bF G (λc7=>?_) (λc7=>?_)
    ·refine T.aP (Rg.aZ G G (T.aP (Rg.aZ G G (aM (ab G G (jB G G G q0 (aG G G ?_)))))));refine ad ?_;exact⟨G,G,G,.cons G (.cons G (.cons (congrArg (λz=>some (Value.int .i64 z)) a08) (.cons (congrArg (λz=>some (Value.int .i64 z)) a09) (.cons (congrArg (λz=>some (Value.int .i64 z)) a10) (.nil)))))⟩
    ·refine T.aP (ab G G (ek G G G (ab G G ?_)));refine aO (g:=26) G (λiT=>?_) (λiT=>?_)
     ·refine ae G G (ab G G (ae G G (cy G G G (aU G G G (ad ?_)))));refine bF G (λxq=>?_) (λxq=>?_)
      ·refine T.aP (Rg.aZ G G (T.aP (Rg.aZ G G (aM (ab G G (jB G G G q0 (aG G G ?_)))))));refine ad ?_;exact⟨G,G,G,.cons G (.cons G (.cons (congrArg (λz=>some (Value.int .i64 z)) a08) (.cons (congrArg (λz=>some (Value.int .i64 z)) a09) (.cons (congrArg (λz=>some (Value.int .i64 z)) a10) (.nil)))))⟩
      ·refine T.aP (ab G G (ek G G G (ab G G ?_)));refine aO (g:=34) G (λyI=>?_) (λyI=>?_)
       ·refine ae G G (ab G G (ae G G (cy G G G (aU G G G (ad ?_)))));refine bF G (λGz=>?_) (λGz=>?_)
        ·refine T.aP (Rg.aZ G G (T.aP (Rg.aZ G G (aM (ab G G (jB G G G q0 (aG G G ?_)))))));refine ad ?_;exact⟨G,G,G,.cons G (.cons G (.cons (congrArg (λz=>some (Value.int .i64 z)) a08) (.cons (congrArg (λz=>some (Value.int .i64 z)) a09) (.cons (congrArg (λz=>some (Value.int .i64 z)) a10) (.nil)))))⟩
        ·refine aR ?_;exact⟨G,G,G,.cons G (.cons G (.cons (congrArg (λz=>some (Value.int .i64 z)) a08) (.cons (congrArg (λz=>some (Value.int .i64 z)) a09) (.cons (congrArg (λz=>some (Value.int .i64 z)) a10) (.nil)))))⟩
       ·refine aj G G G G (aj G G G G (aA G G G (ad (jJ G (aR ?_)))));exact⟨G,G,G,.cons G (.cons G (.cons (congrArg (λz=>some (Value.int .i64 z)) a08) (.cons (congrArg (λz=>some (Value.int .i64 z)) a09) (.cons (congrArg (λz=>some (Value.int .i64 z)) a10) (.nil)))))⟩
     ·refine aj G G G G (aj G G G G (aA G G G (ad (jJ G (T.aP (ab G G (ek G G G (ab G G ?_))))))));refine aO (g:=34) G (λyI=>?_) (λyI=>?_)
      ·refine ae G G (ab G G (ae G G (cy G G G (aU G G G (ad ?_)))));refine bF G (λGz=>?_) (λGz=>?_)
       ·refine T.aP (Rg.aZ G G (T.aP (Rg.aZ G G (aM (ab G G (jB G G G q0 (aG G G ?_)))))));refine ad ?_;exact⟨G,G,G,.cons G (.cons G (.cons (congrArg (λz=>some (Value.int .i64 z)) a08) (.cons (congrArg (λz=>some (Value.int .i64 z)) a09) (.cons (congrArg (λz=>some (Value.int .i64 z)) a10) (.nil)))))⟩
       ·refine aR ?_;exact⟨G,G,G,.cons G (.cons G (.cons (congrArg (λz=>some (Value.int .i64 z)) a08) (.cons (congrArg (λz=>some (Value.int .i64 z)) a09) (.cons (congrArg (λz=>some (Value.int .i64 z)) a10) (.nil)))))⟩
      ·refine aj G G G G (aj G G G G (aA G G G (ad (jJ G (aR ?_)))));exact⟨G,G,G,.cons G (.cons G (.cons (congrArg (λz=>some (Value.int .i64 z)) a08) (.cons (congrArg (λz=>some (Value.int .i64 z)) a09) (.cons (congrArg (λz=>some (Value.int .i64 z)) a10) (.nil)))))⟩
   ·refine aj G G G G (aj G G G G (aA G G G (ad (jJ G (T.aP (ab G G (ek G G G (ab G G ?_))))))));refine aO (g:=26) G (λiT=>?_) (λiT=>?_)
    ·refine ae G G (ab G G (ae G G (cy G G G (aU G G G (ad ?_)))));refine bF G (λxq=>?_) (λxq=>?_)
     ·refine T.aP (Rg.aZ G G (T.aP (Rg.aZ G G (aM (ab G G (jB G G G q0 (aG G G ?_)))))));refine ad ?_;exact⟨G,G,G,.cons G (.cons G (.cons (congrArg (λz=>some (Value.int .i64 z)) a08) (.cons (congrArg (λz=>some (Value.int .i64 z)) a09) (.cons (congrArg (λz=>some (Value.int .i64 z)) a10) (.nil)))))⟩
     ·refine T.aP (ab G G (ek G G G (ab G G ?_)));refine aO (g:=34) G (λyI=>?_) (λyI=>?_)
      ·refine ae G G (ab G G (ae G G (cy G G G (aU G G G (ad ?_)))));refine bF G (λGz=>?_) (λGz=>?_)
       ·refine T.aP (Rg.aZ G G (T.aP (Rg.aZ G G (aM (ab G G (jB G G G q0 (aG G G ?_)))))));refine ad ?_;exact⟨G,G,G,.cons G (.cons G (.cons (congrArg (λz=>some (Value.int .i64 z)) a08) (.cons (congrArg (λz=>some (Value.int .i64 z)) a09) (.cons (congrArg (λz=>some (Value.int .i64 z)) a10) (.nil)))))⟩
       ·refine aR ?_;exact⟨G,G,G,.cons G (.cons G (.cons (congrArg (λz=>some (Value.int .i64 z)) a08) (.cons (congrArg (λz=>some (Value.int .i64 z)) a09) (.cons (congrArg (λz=>some (Value.int .i64 z)) a10) (.nil)))))⟩
      ·refine aj G G G G (aj G G G G (aA G G G (ad (jJ G (aR ?_)))));exact⟨G,G,G,.cons G (.cons G (.cons (congrArg (λz=>some (Value.int .i64 z)) a08) (.cons (congrArg (λz=>some (Value.int .i64 z)) a09) (.cons (congrArg (λz=>some (Value.int .i64 z)) a10) (.nil)))))⟩
    ·refine aj G G G G (aj G G G G (aA G G G (ad (jJ G (T.aP (ab G G (ek G G G (ab G G ?_))))))));refine aO (g:=34) G (λyI=>?_) (λyI=>?_)
     ·refine ae G G (ab G G (ae G G (cy G G G (aU G G G (ad ?_)))));refine bF G (λGz=>?_) (λGz=>?_)
      ·refine T.aP (Rg.aZ G G (T.aP (Rg.aZ G G (aM (ab G G (jB G G G q0 (aG G G ?_)))))));refine ad ?_;exact⟨G,G,G,.cons G (.cons G (.cons (congrArg (λz=>some (Value.int .i64 z)) a08) (.cons (congrArg (λz=>some (Value.int .i64 z)) a09) (.cons (congrArg (λz=>some (Value.int .i64 z)) a10) (.nil)))))⟩
      ·refine aR ?_;exact⟨G,G,G,.cons G (.cons G (.cons (congrArg (λz=>some (Value.int .i64 z)) a08) (.cons (congrArg (λz=>some (Value.int .i64 z)) a09) (.cons (congrArg (λz=>some (Value.int .i64 z)) a10) (.nil)))))⟩
     ·refine aj G G G G (aj G G G G (aA G G G (ad (jJ G (aR ?_)))));exact⟨G,G,G,.cons G (.cons G (.cons (congrArg (λz=>some (Value.int .i64 z)) a08) (.cons (congrArg (λz=>some (Value.int .i64 z)) a09) (.cons (congrArg (λz=>some (Value.int .i64 z)) a10) (.nil)))))⟩
  ·refine aK (T.aP (ab G G (fi G G G (ab G G ?_))));refine aO (g:=42) G (λaao=>?_) (λaao=>?_)
   ·refine aj G G G G (aj G G G G (aj G G G G (aj G G G G (aU G G G (ad (kA G (T.aP (aG G G (Rg.aZ G G ?_)))))))));refine aI ?_
    have hx:nO (jZ l 0:Int)=0\/∃k:Nat,1<=k/\(k:Int)<nO (jZ l 0:Int)/\j5 l k=false:=by
     rw[<-hc];by_cases h0:nO c=0
     ·exact .inl h0
     ·have hnc:=nG h0;exact .inr ⟨(nO c).toNat-1,by omega,by omega,fu.2 λh=>by have:=(gG.1 h).1;omega⟩
    have e:dec l=(65533,1):=Iz q0 hx;exact fc rfl rfl rfl ⟨by rw[e];rfl,rfl⟩
   ·refine ae G G (ab G G (ae G G (rF az G G (br (v':= .int .i64 (l.length:Int)) a81 (ae G G (ab G G (ae G G (cy G G G (aA G G G (ad ?_))))))))));refine bF G (λc19=>?_) (λc19=>?_)
    ·refine T.aP (aG G G (Rg.aZ G G (aI ?_)))
     have hx:nO (jZ l 0:Int)=0\/∃k:Nat,1<=k/\(k:Int)<nO (jZ l 0:Int)/\j5 l k=false:=by
      rw[<-hc];by_cases h0:nO c=0
      ·exact .inl h0
      ·have hnc:=nG h0;exact .inr ⟨(nO c).toNat-1,by omega,by omega,fu.2 λh=>by have:=(gG.1 h).1;omega⟩
     have e:dec l=(65533,1):=Iz q0 hx;exact fc rfl rfl rfl ⟨by rw[e];rfl,rfl⟩
    ·refine aR (aK (T.aP (Rg.aZ G G (aX ?_))));refine cY (σ:=Nat) (λi=>[(0,.string ⟨l.toArray⟩),(5,.int .i64 (nO c)),(6,.int .i64 (gR c)),(7,.int .i64 (vO l (i-1))),(8,.int .i64 (i:Int))]) (λi w=>w=w0/\1<=i/\(i:Int)<=nO c/\∀k:Nat,1<=k->k<i->j5 l k=true) (λi=>(nO c).toNat-i) 1 (.cons G (.cons G (.cons G (.cons (congrArg (λz=>some (Value.int .i64 z)) (by show vC c=vC (jZ l 0:Int);rw[hc])) (.cons rfl .nil))))) ?_ ?_
     ·exact⟨G,bu _,by have:=nG (c:=c) q0;omega,λk h1 h2=>by omega⟩
     ·rintro i w ⟨rfl,A5,F2,fY⟩;have hnc:=nG (c:=c) q0
      have hvr:0<=vO l (i-1)/\vO l (i-1)<=100000000:=by
       exact VT (l:=l) (c:=c) (k:=i-1) hc q0 (λj h1 h2=>fY j h1 q0) q0
      refine aK (T.aP (ab G G (ab G G (cy G G G (ad ?_)))));refine bF G (λc22=>?_) (λc22=>?_)
      ·refine aR (aK (aX (T.aP (ab G G (ab G G ?_)))));have kZ:i<l.length:=by omega
       refine Rg.Iu (c:=l.getD i 0) az G G G q0 (by rw[b4,ar,an kZ];rfl) ?_;refine br (v':= .int .u8 (jZ l i:Int)) G ?_;have VU:=oz l i;refine Rg.uO cU ak G G q0 (Rg.aZ G G (aK (T.aP (ab G G (cy G G G (ab G G ?_))))));refine aO (g:=59) G (λaap=>?_) (λaap=>?_)
       ·refine aj G G G G (aj G G G G (aU G G G (ad (kA G (T.aP (aG G G (Rg.aZ G G (aI ?_))))))))
        have hx:nO (jZ l 0:Int)=0\/∃k:Nat,1<=k/\(k:Int)<nO (jZ l 0:Int)/\j5 l k=false:=by
         rw[<-hc];exact .inr ⟨i,A5,by omega,fu.2 λh=>by have:=gG.1 h;omega⟩
        have e:dec l=(65533,1):=Iz q0 hx;exact fc rfl rfl rfl ⟨by rw[e];rfl,rfl⟩
       ·refine ae G G (ab G G (ae G G (ek G G G (aA G G G (ad ?_)))));refine bF G (λc25=>?_) (λc25=>?_)
        ·refine T.aP (aG G G (Rg.aZ G G (aI ?_)))
         have hx:nO (jZ l 0:Int)=0\/∃k:Nat,1<=k/\(k:Int)<nO (jZ l 0:Int)/\j5 l k=false:=by
          rw[<-hc];exact .inr ⟨i,A5,by omega,fu.2 λh=>by have:=gG.1 h;omega⟩
         have e:dec l=(65533,1):=Iz q0 hx;exact fc rfl rfl rfl ⟨by rw[e];rfl,rfl⟩
        ·refine aR (aM (ab G G (Rg.Vb G G G q0 (ab G G (bC G G G q0 (jB G G G q0 (Rg.aZ G G (aM (ab G G (bC G G G q0 ?_))))))))));refine Rg.aZ G G ?_;refine⟨G,i+1,(.cons G (.cons G (.cons G (.cons (congrArg (λz=>some (Value.int .i64 z)) (by obtain⟨q,rfl⟩:∃q,i=q+1:=⟨i-1,by omega⟩;rfl)) (.cons rfl .nil))))),?_,?_⟩
         ·exact⟨G,by omega,by omega,λk h1 h2=>by
           rcases cI k i with h|h
           ·exact fY k h1 h
           ·obtain rfl:k=i:=by omega
            exact gG.2 q0⟩
         ·omega
      ·refine cN (aK (T.aP (ab G G (ab G G (cy G G G (ab G G ?_))))));refine aO (g:=71) G (λaaq=>?_) (λaaq=>?_)
       ·refine aj G G G G (aj G G G G (aU G G G (ab G G (aj G G G G (aj G G G G (aj G G G G (cf G G G (cf G G G (aj G G G G (aU G G G (ad ?_)))))))))));refine kA G (T.aP (aG G G (Rg.aZ G G (aI ?_))));have e:=D7 (l:=l) (by rw[<-hc];omega) ab9 (vO l (i-1)) ag9;rw[<-hc,if_pos q0]at e;exact fc rfl rfl rfl ⟨by rw[e];rfl,rfl⟩
       ·refine ae G G (ab G G (ae G G (eN G G G (aA G G G (ab G G ?_)))));refine aO (g:=75) G (λaar=>?_) (λaar=>?_)
        ·refine aj G G G G (aj G G G G (aj G G G G (cf G G G (cf G G G (aj G G G G (aU G G G (ad (kA G (T.aP (aG G G ?_))))))))));refine Rg.aZ G G (aI ?_);have e:=D7 (l:=l) (by rw[<-hc];omega) ab9 (vO l (i-1)) ag9;rw[<-hc,if_pos q0]at e;exact fc rfl rfl rfl ⟨by rw[e];rfl,rfl⟩
        ·refine ae G G (ab G G (ae G G (ek G G G (ae G G (ab G G ?_)))));refine aO (g:=78) G (λVV=>?_) (λVV=>?_)
         ·refine ae G G (ab G G (ae G G (fN G G G (ae G G (aU G G G (aA G G G (ad ?_)))))));refine bF G (λc28=>?_) (λc28=>?_)
          ·refine T.aP (aG G G (Rg.aZ G G (aI ?_)));have e:=D7 (l:=l) (by rw[<-hc];omega) ab9 (vO l (i-1)) ag9;rw[<-hc,if_pos q0]at e;exact fc rfl rfl rfl ⟨by rw[e];rfl,rfl⟩
          ·refine aR (T.aP (ab G G (ab G G (aG G G (Rg.aZ G G (aI ?_))))));have e:=D7 (l:=l) (by rw[<-hc];omega) ab9 (vO l (i-1)) ag9;rw[<-hc,if_neg q0]at e;exact fc rfl rfl rfl ⟨by rw[e];simp only[];rw[An hvr.1,An q0],rfl⟩
         ·refine aj G G G G (aj G G G G (ae G G (aA G G G (aA G G G (ad (jJ G (aR (T.aP (ab G G (ab G G ?_))))))))));refine aG G G (Rg.aZ G G (aI ?_));have e:=D7 (l:=l) (by rw[<-hc];omega) ab9 (vO l (i-1)) ag9;rw[<-hc,if_neg q0]at e;exact fc rfl rfl rfl ⟨by rw[e];simp only[];rw[An hvr.1,An q0],rfl⟩
theorem yJ {M:aL} {l:List UInt8} (w0:World) (hM:Lt M w0) (hl:l.length<=4000000):
  Spec Tryz.prog 111 #[.string ⟨l.toArray⟩] w0 (λv w=>∃M',Lt M' w/\Step M w0 M' w aD/\Own (RT.int .i64) 3 M' w w0.heap.size v (dC l)):=by
 have gX:=hM;refine a7 (args:=[_]) (fn:=Tryz.f111) Tryz.func111 G (n:=22) Tryz.ntmps111 ?_;have S:Step M w0 M w0 aD:=aW;refine T.aP (Rg.aZ G G (T.aP (Rg.aZ G G (aK (aX ?_)))));refine cY (σ:=Nat×List Int×Value) (λq=>[(0,.string ⟨(l.drop q.1).toArray⟩),(3,q.2.2)]) (λq w=>∃M',Lt M' w/\Step M w0 M' w aD/\Own (RT.int .i64) 3 M' w w0.heap.size q.2.2 q.2.1/\dC l=q.2.1++dC (l.drop q.1)/\q.1<=l.length) (λq=>l.length-q.1) (0,[],.slice none 0 0) a68 ?_ ?_
 ·exact⟨M,hM,S,eJ _ _ _ _ _,by simp,by simp⟩
 ·rintro⟨p,xs,u⟩ w ⟨M1,hM,S,ho,Ct,hp⟩;dsimp only at ho Ct hp ⊢;refine aK (T.aP (ab G G (rF az G G (br (v':= .int .i64 ((l.drop p).length:Int)) a81 (eN G G G (ad ?_))))));refine bF G (λc2=>?_) (λc2=>?_)
  ·refine aR (aX (T.aP (ab G G ?_)));have fh:l.drop p≠[]:=by intro h;rw[h]at c2;simp at c2
   have xG:p<l.length:=by have:=dI.2 fh;rw[cP]at this;omega
   have hwd:=jo fh;refine aQ rfl rfl agL (MK (l:=l.drop p) _ fh (by rw[cP];omega)) (λr3 w3 hc=>?_);obtain⟨rfl,rfl⟩:=hc;refine ab G G (cD G G G (cD G G G (aG G G (Rg.aZ G G (T.aP (ab G G (ab G G ?_)))))));refine fw (A:=RT.int .i64) (hn:=by decide) (M:=M1) ax I3 QZ G G hM (gJ (by have:=qA (l.drop p);omega)) (.inr ⟨rfl,rfl⟩) (λVW VX mM oC=>?_);replace ho:=ho.bQ oC;replace hM:=oC.lt hM;have:=S.size;replace S:=S.av oC;refine dF (M:=M1) (base:=w0.heap.size) ax I3 rfl rfl rfl rfl ho mM bU ac4 ac4 (S.size) (λaas ahf aqW aat VY=>?_);replace mM:=mM.le VY.le;replace hM:=VY.lt hM;have:=S.size;replace S:=S.dU VY ho (bu _);replace ho:=aat;refine Rg.aZ G G (aM (ab G G (ab G G (Rg.Rw az G G G q0 (br (v':= .string ⟨(l.drop (p+(dec (l.drop p)).2)).toArray⟩) (by rw[List.drop_drop];simp) (Rg.aZ rfl rfl ?_))))));refine⟨G,(p+(dec (l.drop p)).2,xs++[((dec (l.drop p)).1:Int)],aas),a68,?_,?_⟩
   ·refine⟨ahf,hM,S,ho,?_,?_⟩
    ·rw[Ct,lY fh,List.drop_drop];simp
    ·have:=hwd.2;rw[cP]at this;dsimp only;omega
   ·have:=hwd.1;have:=hwd.2;rw[cP]at this;dsimp only;omega
  ·refine cN (T.aP (ab G G (Rg.aZ G G (aI ?_))));have e:dC l=xs:=by rw[Ct,ja (by simp at c2;omega),nF];simp
   rw[e];exact aF G G ⟨_,hM,S,ho⟩
theorem wI {M:aL} {l:List UInt8} (w0:World) (hM:Lt M w0) (hl:l.length<=4000000):Spec Tryz.prog 111 #[.string ⟨l.toArray⟩] w0 (λv w=>((RT.int .i64).sl).V M w (dC l) v/\Step M w0 M w aD):=
 (yJ w0 hM hl).mono λ_ w ⟨M',h1,h2,h3⟩=>⟨h3.close hM h2 (by have:=gF l;omega),h2.back⟩
theorem rp {M:aL} {w:World} {x:Int} (h:0<=x/\x<256):RT.u8.V M w x.toNat.toUInt8 (.int .u8 (IntKind.u8.wrap x)):=by
 have e1:IntKind.u8.wrap x=x:=by
  show(if(false&&decide (x%256>=128))=true then x%256-256 else x%256)=x;rw[if_neg (by simp)];omega
 have e2:((x.toNat.toUInt8).toNat:Int)=x:=by
  have:x.toNat.toUInt8.toNat=x.toNat%256:=UInt8.toNat_ofNat' ..;omega
 rw[e1];exact⟨[.int .u8 x],by show _=_;rw[e2],rfl⟩
theorem aau {r:Int} (h:0<=r/\r<128):Lib.encodeRune r=[r.toNat.toUInt8]:=by rw[Lib.encodeRune,Lib.encodeRuneZ_one h.1 q0];rfl
theorem aav {r:Int} (h:128<=r/\r<2048):Lib.encodeRune r=[(192+r/64).toNat.toUInt8,(128+r%64).toNat.toUInt8]:=by rw[Lib.encodeRune,Lib.encodeRuneZ_two h.1 q0];rfl
theorem J1 (c:Int):qB c<55296\/57343<qB c:=by
 unfold qB
 split
 ·omega
 ·rename_i h
  have h2:Lib.validRune c=true:=by
   cases hv:Lib.validRune c with
   |true=>rfl
   |false=>exact absurd (.inr (.inr hv)) h
  simp only[Lib.validRune,decide_eq_true_eq]at h2;omega
theorem ahg {r:Int} (h:2048<=r/\r<65536) (h2:r<55296\/57343<r):Lib.encodeRune r=[(224+r/4096).toNat.toUInt8,(128+r/64%64).toNat.toUInt8,(128+r%64).toNat.toUInt8]:=by rw[Lib.encodeRune,Lib.encodeRuneZ_three q0];rfl
theorem ahh {r:Int} (h:65536<=r/\r<=1114111):Lib.encodeRune r=[(240+r/262144).toNat.toUInt8,(128+r/4096%64).toNat.toUInt8,(128+r/64%64).toNat.toUInt8,(128+r%64).toNat.toUInt8]:=by rw[Lib.encodeRune,Lib.encodeRuneZ_four h.1 h.2];rfl
theorem tD {c:Int} (h:c<0\/c>1114111\/(55296<=c/\c<=57343)):qB c=65533:=by
 rw[qB,if_pos];rcases h with h|h|h
 ·exact .inl h
 ·exact .inr (.inl h)
 ·refine .inr (.inr ?_);simp only[Lib.validRune,decide_eq_false_iff_not];omega
theorem nH {c:Int} (h: ¬(c<0\/c>1114111\/(55296<=c/\c<=57343))):qB c=c:=by
 rw[qB,if_neg];rintro(h1|h1|h1)
 ·omega
 ·omega
 ·simp only[Lib.validRune,decide_eq_false_iff_not]at h1;omega
theorem sf {M:aL} {xs:List Int} {v0:Value} (w0:World) (hM:Lt M w0) (hv:((RT.int .i64).sl).V M w0 xs v0) (hl:xs.length<=4000000):
  Spec Tryz.prog 172 #[v0] w0 (λv w=>v= .string ⟨(gN xs).toArray⟩/\Step M w0 M w aD):=by
 have gX:=hM;refine a7 (args:=[_]) (fn:=Tryz.f172) Tryz.func172 G (n:=91) Tryz.ntmps172 ?_;have S:Step M w0 M w0 aD:=aW;refine T.aP (Rg.aZ G G (T.aP (Rg.aZ G G (aK (T.aP (aG G G ?_))))));refine ad (aX ?_);refine cY (σ:=Nat×Value) (λq=>[(0,v0),(3,q.2),(4,.int .i64 (q.1:Int))]) (λq w=>∃M',Lt M' w/\Step M w0 M' w aD/\Own RT.u8 5 M' w w0.heap.size q.2 (gN (xs.take q.1))/\((RT.int .i64).sl).V M' w xs v0/\q.1<=xs.length) (λq=>xs.length-q.1) (0,.slice none 0 0) a00 ?_ ?_
 ·exact⟨M,hM,S,eJ _ _ _ _ _,hv,bp _⟩
 ·rintro⟨k,u⟩ w ⟨M1,hM,S,ho,hv,hk⟩;dsimp only at ho hk ⊢;refine aK (T.aP (ab G G (ab G G (bz ax G hv G (cy G G G (ad ?_))))));refine bF G (λc3=>?_) (λc3=>?_)
  ·refine aR (aK (aX (T.aP (ab G G (ab G G ?_)))));refine cB ax I3 G G G hv bU q0 (λu5 c J2 lB=>?_);refine bT ak G G lB bU (λin5=>?_);have tk:xs.take (k+1)=xs.take k++[c]:=by rw[b7];simp only[ar]at J2;rw[J2];rfl
   have hsr:=Iy c;have RE:=J1 c;refine Rg.aZ G G ?_;refine T.mI [(0,v0),(3,u),(4,.int .i64 (k:Int)),(5,.int .i64 (qB c))] ?_ ?_
   ·refine T.aP (ab G G (cy G G G (ab G G ?_)));refine aO (g:=18) G (λyK=>?_) (λyK=>?_)
    ·refine aj G G G G (aj G G G G (aU G G G (ab G G (aj G G G G (aj G G G G (aj G G G G (cf G G G (cf G G G (aj G G G G (aU G G G (ad ?_)))))))))));refine kA G (aM (Rg.aZ G G ?_));exact⟨G,G,G,.cons G (.cons G (.cons G (.cons (congrArg (λz=>some (Value.int .i64 z)) a98) (.nil))))⟩
    ·refine ae G G (ab G G (ae G G (eN G G G (aA G G G (ab G G ?_)))));refine aO (g:=22) G (λahi=>?_) (λahi=>?_)
     ·refine aj G G G G (aj G G G G (aj G G G G (cf G G G (cf G G G (aj G G G G (aU G G G (ad (kA G (aM (Rg.aZ G G ?_))))))))));exact⟨G,G,G,.cons G (.cons G (.cons G (.cons (congrArg (λz=>some (Value.int .i64 z)) a98) (.nil))))⟩
     ·refine ae G G (ab G G (ae G G (ek G G G (ae G G (ab G G ?_)))));refine aO (g:=25) G (λahj=>?_) (λahj=>?_)
      ·refine ae G G (ab G G (ae G G (fN G G G (ae G G (aU G G G (aA G G G (ad ?_)))))));refine bF G (λc6=>?_) (λc6=>?_)
       ·refine aM (Rg.aZ G G ?_);exact⟨G,G,G,.cons G (.cons G (.cons G (.cons (congrArg (λz=>some (Value.int .i64 z)) a98) (.nil))))⟩
       ·refine aR ?_;exact⟨G,G,G,.cons G (.cons G (.cons G (.cons (congrArg (λz=>some (Value.int .i64 z)) a98) (.nil))))⟩
      ·refine aj G G G G (aj G G G G (ae G G (aA G G G (aA G G G (ad (jJ G (aR ?_)))))));exact⟨G,G,G,.cons G (.cons G (.cons G (.cons (congrArg (λz=>some (Value.int .i64 z)) a98) (.nil))))⟩
   ·refine T.aP (ab G G (cy G G G (ad ?_)));refine bF G (λc8=>?_) (λc8=>?_)
    ·refine aM (ab G G (ab G G (wh ak cU G G ?_)));refine fw (A:=RT.u8) (hn:=by decide) (M:=M1) bX I5 QZ G G hM (rp q0) (.inr ⟨G,G⟩) (λaqX aaw ML p9=>?_);replace hv:=hv.le p9.le;replace ho:=ho.bQ p9;replace hM:=p9.lt hM;have:=S.size;replace S:=S.av p9;refine dF (M:=M1) (base:=w0.heap.size) bX I5 G G G G ho ML bU a47 a47 (S.size) (λaax ahk ahl aay AF=>?_);replace hv:=hv.le AF.le;replace ML:=ML.le AF.le;replace hM:=AF.lt hM;have:=S.size;replace S:=S.dU AF ho (bu _);replace ho:=aay;refine Rg.aZ G G (aM (ab G G (bC G G G q0 (Rg.aZ G G ?_))));refine⟨G,(k+1,aax),a00,?_,?_⟩
     ·exact⟨ahk,hM,S,by rw[tk,kg,aau q0];exact ho,hv,by dsimp only;omega⟩
     ·dsimp only;omega
    ·refine T.aP (ab G G (cy G G G (ad ?_)));refine bF G (λJ3=>?_) (λJ3=>?_)
     ·refine aM (ab G G (ab G G (Rg.xZ G G G q0 (bC G G G q0 (wh ak cU G G (ab G G (Rg.x7 G G G q0 (bC G G G q0 (wh ak cU G G ?_)))))))));refine Rg.LP (A:=RT.u8) (hn:=by decide) (M:=M1) (xs:=[(192+qB c/64).toNat.toUInt8,(128+qB c%64).toNat.toUInt8]) bX I5 G QZ G ⟨_,_,_,G,G,G,rp q0,_,_,_,G,G,G,rp q0,G⟩ G hM (.inr ⟨G,G⟩) QZ (λaaz ang yL IA=>?_);replace hv:=hv.le IA.le;replace ho:=ho.bQ IA;replace hM:=IA.lt hM;have:=S.size;replace S:=S.av IA;refine dF (M:=M1) (base:=w0.heap.size) bX I5 G G G G ho yL bU a47 a47 (S.size) (λVZ V0 ahm RF Cv=>?_);replace hv:=hv.le Cv.le;replace yL:=yL.le Cv.le;replace hM:=Cv.lt hM;have:=S.size;replace S:=S.dU Cv ho (bu _);replace ho:=RF;refine Rg.aZ G G (aM (ab G G (bC G G G q0 (Rg.aZ G G ?_))));refine⟨G,(k+1,VZ),a00,?_,?_⟩
      ·exact⟨V0,hM,S,by rw[tk,kg,aav q0];exact ho,hv,by dsimp only;omega⟩
      ·dsimp only;omega
     ·refine T.aP (ab G G (cy G G G (ad ?_)));refine bF G (λMM=>?_) (λMM=>?_)
      ·refine aM (ab G G (ab G G (Rg.xZ G G G q0 (bC G G G q0 (wh ak cU G G (ab G G (Rg.xZ G G G q0 (Rg.x7 G G G q0 (bC G G G q0 (wh ak cU G G (ab G G ?_)))))))))));refine Rg.x7 G G G q0 (bC G G G q0 (wh ak cU G G ?_));refine Rg.LP (A:=RT.u8) (hn:=by decide) (M:=M1) (xs:=[(224+qB c/4096).toNat.toUInt8,(128+qB c/64%64).toNat.toUInt8,(128+qB c%64).toNat.toUInt8]) bX I5 G QZ G ⟨_,_,_,G,G,G,rp q0,_,_,_,G,G,G,rp q0,_,_,_,G,G,G,rp q0,G⟩ G hM (.inr ⟨G,G⟩) QZ (λahn aho Cw Cx=>?_);replace hv:=hv.le Cx.le;replace ho:=ho.bQ Cx;replace hM:=Cx.lt hM;have:=S.size;replace S:=S.av Cx;refine dF (M:=M1) (base:=w0.heap.size) bX I5 G G G G ho Cw bU a47 a47 (S.size) (λV1 V2 ahp RG Cy=>?_);replace hv:=hv.le Cy.le;replace Cw:=Cw.le Cy.le;replace hM:=Cy.lt hM;have:=S.size;replace S:=S.dU Cy ho (bu _);replace ho:=RG;refine Rg.aZ G G (aM (ab G G (bC G G G q0 (Rg.aZ G G ?_))));refine⟨G,(k+1,V1),a00,?_,?_⟩
       ·exact⟨V2,hM,S,by rw[tk,kg,ahg q0 RE];exact ho,hv,by dsimp only;omega⟩
       ·dsimp only;omega
      ·refine aM (ab G G (ab G G (Rg.xZ G G G q0 (bC G G G q0 (wh ak cU G G (ab G G (Rg.xZ G G G q0 (Rg.x7 G G G q0 (bC G G G q0 (wh ak cU G G (ab G G ?_)))))))))));refine Rg.xZ G G G q0 (Rg.x7 G G G q0 (bC G G G q0 (wh ak cU G G (ab G G (Rg.x7 G G G q0 (bC G G G q0 (wh ak cU G G ?_)))))));refine Rg.LP (A:=RT.u8) (hn:=by decide) (M:=M1) (xs:=[(240+qB c/262144).toNat.toUInt8,(128+qB c/4096%64).toNat.toUInt8,(128+qB c/64%64).toNat.toUInt8,(128+qB c%64).toNat.toUInt8]) bX I5 G QZ G ⟨_,_,_,G,G,G,rp q0,_,_,_,G,G,G,rp q0,_,_,_,G,G,G,rp q0,_,_,_,G,G,G,rp q0,G⟩ G hM (.inr ⟨G,G⟩) QZ (λahq ahr Cz CA=>?_);replace hv:=hv.le CA.le;replace ho:=ho.bQ CA;replace hM:=CA.lt hM;have:=S.size;replace S:=S.av CA;refine dF (M:=M1) (base:=w0.heap.size) bX I5 G G G G ho Cz bU a47 a47 (S.size) (λV3 V4 ahs RH CB=>?_);replace hv:=hv.le CB.le;replace Cz:=Cz.le CB.le;replace hM:=CB.lt hM;have:=S.size;replace S:=S.dU CB ho (bu _);replace ho:=RH;refine Rg.aZ G G (aM (ab G G (bC G G G q0 (Rg.aZ G G ?_))));refine⟨G,(k+1,V3),a00,?_,?_⟩
       ·exact⟨V4,hM,S,by rw[tk,kg,ahh q0];exact ho,hv,by dsimp only;omega⟩
       ·dsimp only;omega
  ·refine cN (T.aP (ab G G (Rg.b2s (hn:=by decide) (M:=M) bX cU az G G (ho.close gX S (by have:=gm (xs.take k);rw[bJ]at this;omega)) bU (Rg.aZ rfl rfl (aI ?_)))));have e:xs.take k=xs:=bm q0;rw[e];exact aF G G ⟨G,S.back⟩
theorem GA {M:aL} {l:List UInt8} (w0:World) (hM:Lt M w0) (hl:l.length<=4000000):
  Spec Tryz.prog 244 #[.string ⟨l.toArray⟩] w0 (λv w=>((RT.int .i64).sl).V M w (dC l) v/\Step M w0 M w aD):=by
 have gX:=hM;refine a7 (args:=[_]) (fn:=Tryz.f244) Tryz.func244 G (n:=17) Tryz.ntmps244 ?_;have S:Step M w0 M w0 aD:=aW;refine T.aP (Rg.aZ G G (T.aP (Rg.aZ G G (aK (T.aP (ab G G ?_))))));refine Rg.Mx M az G G (λMN aqY aqZ aq0 aht V5=>?_);obtain⟨TZ,MO⟩:∃M',M'=ins M MN:=⟨_,rfl⟩;rw[<-MO]at V5;have V6:TZ MN:=by rw[MO];exact .inl G
 replace hM:=V5.lt hM;have:=S.size;replace S:=S.av V5;refine ad (aX ?_);refine cY (σ:=Nat×List Int×Value) (λq=>[(3,q.2.2),(7,.pointer (some ⟨MN,0,none⟩))]) (λq w=>∃M',Lt M' w/\Step M w0 M' w aD/\w.heap[MN]? =some (.stringIter ⟨l.toArray⟩ q.1)/\M' MN/\Own (RT.int .i64) 3 M' w w0.heap.size q.2.2 q.2.1/\dC l=q.2.1++dC (l.drop q.1)/\q.1<=l.length) (λq=>l.length-q.1) (0,[],.slice none 0 0) a68 ?_ ?_
 ·exact⟨TZ,hM,S,aht,V6,eJ _ _ _ _ _,by simp,by simp⟩
 ·rintro⟨p,xs,u⟩ w ⟨M1,hM,S,g,Bp,ho,Ct,hp⟩;dsimp only at g ho Ct hp ⊢;refine T.aP ?_;refine Rg.Rv (M:=M1) G g Bp G (λahu aq1 ahv MP=>?_) (λahu=>?_)
  ·have:=ah g;replace Bp:=(MP.mem _ this).2 Bp;replace ho:=ho.step MP (λb hb hk=>ho.eF g (hk▸hb));replace hM:=MP.lt hM;have:=S.size;replace S:=S.trans MP (λk hk h=>by have h:_=_:=h;subst h;first|(exfalso;omega)|(show _<=_;omega)|exact⟨by first|omega|assumption,(S.mem _ hk).1 ((MP.mem _ (ah g)).1 Bp)⟩|exact .inl rfl|exact .inr rfl|exact .inr (.inl rfl)|exact .inr (.inr rfl)|exact .inr (.inr (.inl rfl))|exact rfl);have g_:=ahv;clear g;have g:=g_;clear g_;refine cD G G G (ad (aK (kA G (aR (aX (T.aP (cD G G G (Rg.aZ G G (aM ?_)))))))));refine ab G G (ab G G (Rg.uO Tryz.underlying21 ak G G (by have:=qA (l.drop p);omega) ?_));refine fw (A:=RT.int .i64) (hn:=by decide) (M:=M1) ax I3 QZ G G hM (gJ (by have:=qA (l.drop p);omega)) (.inr ⟨rfl,rfl⟩) (λahw aaA IB xu=>?_);have:=ah g;replace Bp:=(xu.mem _ this).2 Bp;replace g:=xu.aE g;replace ho:=ho.bQ xu;replace hM:=xu.lt hM;have:=S.size;replace S:=S.av xu;refine dF (M:=M1) (base:=w0.heap.size) ax I3 rfl rfl rfl rfl ho IB bU ac4 ac4 (S.size) (λaaB ahx aq2 aaC MQ=>?_);have:=ah g;replace Bp:=(MQ.mem _ this).2 Bp;replace g:=MQ.bW g (λh=>by first|exact ho.eF g h|exact ho.fA g QZ h|(have:=(ho.base _ h).1;omega));replace IB:=IB.le MQ.le;replace hM:=MQ.lt hM;have:=S.size;replace S:=S.dU MQ ho (bu _);replace ho:=aaC;refine Rg.aZ G G ?_;have fh:l.drop p≠[]:=by intro h;have:=congrArg List.length h;simp at this;omega
   refine⟨G,(p+(dec (l.drop p)).2,xs++[((dec (l.drop p)).1:Int)],aaB),a68,?_,?_⟩
   ·refine⟨ahx,hM,S,g,Bp,ho,?_,?_⟩
    ·rw[Ct,lY fh,List.drop_drop];simp
    ·have:=(jo fh).2;rw[cP]at this;dsimp only;omega
   ·have:=(jo fh).1;have:=(jo fh).2;rw[cP]at this;dsimp only;omega
  ·refine cD G G G (ad (aK (jJ G (cN (T.aP (ab G G (Rg.aZ G G (aI ?_))))))));have e:dC l=xs:=by rw[Ct,ja q0,nF];simp
   rw[e];have:=gF l;rw[e]at this;exact aF G G ⟨ho.close gX S q0,S.back⟩
def eK (p:List Int×List (List UInt8)) (c:Int):List Int×List (List UInt8):=
 if fD c=true\/l2 c=true then(p.1++[eh c],p.2)else if 0<p.1.length then([],p.2++[gN p.1])else([],p.2)
structure MR (M:aL) (w:World) (B bo bs:Nat) (p:List Int×List (List UInt8)):Prop where
 a:∃u,w.heap[bo]? =some (.cells #[u] 61 (0,0))/\Own (RT.int .i64) 3 M w B u p.1
 b:∃u,w.heap[bs]? =some (.cells #[u] 25 (0,0))/\Own RT.str 9 M w B u p.2
 m:M bo/\M bs/\B<=bo/\B<=bs
theorem qa {c:Int} (h:fD c=true\/l2 c=true):0<=c/\c<=1114111:=by
 simp only[fD,l2,decide_eq_true_eq]at h;omega
theorem yM {M:aL} {B bo bs:Nat} {p:List Int×List (List UInt8)} (w0:World) (hM:Lt M w0) (c:Int) (ht:MR M w0 B bo bs p) (hl:p.1.length<=4000000/\p.2.length<=4000000):
  Spec Tryz.prog 239 #[.int .i64 c,.pointer (some ⟨bo,0,none⟩),.pointer (some ⟨bs,0,none⟩)] w0 (λv w=>∃M',Lt M' w/\MR M' w B bo bs (eK p c)/\Step M w0 M' w (lg M B)):=by
 obtain⟨⟨uo,go,ho⟩,⟨us,gs,hs⟩,gO,iF,Y8,Y9⟩:=ht;obtain⟨own,out⟩:=p;dsimp only at ho hs hl ⊢;have fh:bo≠bs:=λe=>by subst e;rw[go]at gs;cases gs
 refine a7 (args:=[_,_,_]) (fn:=Tryz.f239) Tryz.func239 G (n:=23) Tryz.ntmps239 ?_;have S:Step M w0 M w0 (lg M B):=(aW).ew a18 (λ_ h=>h.2);refine aK (T.aP (ab G G ?_));refine aQ G G agW (D4 _ _) (λr wc hc=>?_);obtain⟨rfl,rfl⟩:=hc;refine br (v':= .bool (decide (fD c=true))) (by cases fD c<;>rfl) (ab rfl rfl ?_);refine aO (g:=6) G (λahy=>?_) (λahy=>?_)
 ·refine aj G G G G (aj G G G G (aU G G G (ad (kA G (aK ?_)))));apply T.pR 2 [0] 2 aD mixed rfl rfl rfl rfl;intro J4 MS;have l4:=MS M;have:=ah go;replace gO:=(l4.mem _ this).2 gO;replace go:=l4.aE go;have:=ah gs;replace iF:=(l4.mem _ this).2 iF;replace gs:=l4.aE gs;replace ho:=ho.bQ l4;replace hs:=hs.bQ l4;replace hM:=l4.lt hM;have:=S.size;replace S:=S.av l4;refine aN ax G G G (by first|assumption|exact cg l4 U3) G (Rg.de (ab G G (Rg.de (fF (⟨jC ⟨ic G U3 a74,trivial⟩,?_⟩)))));have kp:=kT aD J4;have GB:fD c=true\/l2 c=true:=by first|exact .inl U3|exact .inr U3
  refine aQ G G aai (Bm c _ (qa GB)) (λr wc hc=>?_);obtain⟨rfl,rfl⟩:=hc;refine(fun(kp:fy _ _ _)=>ad ⟨G,G,λ_=>kp,?_⟩) a02;refine fw (A:=RT.int .i64) (hn:=by decide) (M:=M) ax I3 QZ G G hM (gJ (by have:=qa GB;unfold eh;split<;>omega)) (.inr ⟨rfl,rfl⟩) (λRI J5 j6 s1_3=>?_);have:=ah go;replace gO:=(s1_3.mem _ this).2 gO;replace go:=s1_3.aE go;have:=ah gs;replace iF:=(s1_3.mem _ this).2 iF;replace gs:=s1_3.aE gs;replace ho:=ho.bQ s1_3;replace hs:=hs.bQ s1_3;replace hM:=s1_3.lt hM;have:=S.size;replace S:=S.av s1_3;refine(fun(kp:fy _ _ _)=>ad ⟨G,G,λ_=>kp,?_⟩) a02;refine dF (M:=M) (base:=B) ax I3 rfl rfl rfl rfl ho j6 bU a11 a11 (by have:=ah go;omega) (λRJ MT V7 MU l5=>?_);have:=ah go;replace gO:=(l5.mem _ this).2 gO;replace go:=l5.bW go (λh=>by first|exact ho.eF go h|exact ho.fA go QZ h|(have:=(ho.base _ h).1;omega));have:=ah gs;replace iF:=(l5.mem _ this).2 iF;replace gs:=l5.bW gs (λh=>by first|exact ho.eF gs h|exact ho.fA gs QZ h|(have:=(ho.base _ h).1;omega));replace j6:=j6.le l5.le;replace hs:=hs.step l5 (λb h1 h2=>hs.jf ho QZ h1 h2);replace hM:=l5.lt hM;have:=S.size;replace S:=S.trans l5 (λb hb h=>⟨(ho.base b h).1,(S.mem b hb).1 (ho.mut_ b h)⟩);replace ho:=MU;refine ad ⟨G,G,λh=>absurd G h,?_⟩;refine cn (M:=MT) ph rfl rfl go rfl (a96) gO (λV8 k3 oD=>?_);change V8.heap[_]? =some (Obj.cells #[RJ] _ _)at k3
  have:=ah go;replace gO:=(oD.mem _ this).2 gO;have:=ah gs;replace iF:=(oD.mem _ this).2 iF;replace gs:=oD.bW gs a07;replace j6:=j6.le oD.le;replace ho:=ho.step oD (λb hb hk=>by have hk:b=_:=hk;subst hk;first|exact absurd hb (ho.fA go QZ)|exact absurd hb (ho.fA gs QZ));replace hs:=hs.step oD (λb hb hk=>by have hk:b=_:=hk;subst hk;first|exact absurd hb (hs.fA go QZ)|exact absurd hb (hs.fA gs QZ));replace hM:=oD.lt hM;have:=S.size;replace S:=S.trans oD (λk hk h=>by have h:_=_:=h;subst h;first|(exfalso;omega)|(show _<=_;omega)|exact⟨by first|omega|assumption,(S.mem _ hk).1 ((oD.mem _ (ah go)).1 gO)⟩|exact .inl rfl|exact .inr rfl|exact .inr (.inl rfl)|exact .inr (.inr rfl)|exact .inr (.inr (.inl rfl))|exact rfl);have MV:=k3;clear go;have go:=MV;clear MV;refine ad ⟨G,G,λh=>absurd G h,pH (aI ?_)⟩;rw[show eK (own,out) c=(own++[eh c],out)from if_pos GB];exact Ds G ⟨MT,hM,⟨⟨_,go,ho⟩,⟨_,gs,hs⟩,gO,iF,Y8,Y9⟩,S⟩
 ·refine ae G G (ab G G (ae G G ?_));refine aQ G G agX (Gu _ _) (λr wc hc=>?_);obtain⟨rfl,rfl⟩:=hc;refine br (v':= .bool (decide (l2 c=true))) (by cases l2 c<;>rfl) (aA rfl rfl rfl (ad ?_));refine bF G (λc0=>?_) (λc0=>?_)
  ·refine aK ?_;apply T.pR 2 [0] 2 aD mixed rfl rfl rfl rfl;intro J4 MS;have l4:=MS M;have:=ah go;replace gO:=(l4.mem _ this).2 gO;replace go:=l4.aE go;have:=ah gs;replace iF:=(l4.mem _ this).2 iF;replace gs:=l4.aE gs;replace ho:=ho.bQ l4;replace hs:=hs.bQ l4;replace hM:=l4.lt hM;have:=S.size;replace S:=S.av l4;refine aN ax G G G (by first|assumption|exact cg l4 U3) G (Rg.de (ab G G (Rg.de (fF (⟨jC ⟨ic G U3 a74,trivial⟩,?_⟩)))));have kp:=kT aD J4;have GB:fD c=true\/l2 c=true:=by first|exact .inl U3|exact .inr U3
   refine aQ G G aai (Bm c _ (qa GB)) (λr wc hc=>?_);obtain⟨rfl,rfl⟩:=hc;refine(fun(kp:fy _ _ _)=>ad ⟨G,G,λ_=>kp,?_⟩) a02;refine fw (A:=RT.int .i64) (hn:=by decide) (M:=M) ax I3 QZ G G hM (gJ (by have:=qa GB;unfold eh;split<;>omega)) (.inr ⟨rfl,rfl⟩) (λRI J5 j6 s1_3=>?_);have:=ah go;replace gO:=(s1_3.mem _ this).2 gO;replace go:=s1_3.aE go;have:=ah gs;replace iF:=(s1_3.mem _ this).2 iF;replace gs:=s1_3.aE gs;replace ho:=ho.bQ s1_3;replace hs:=hs.bQ s1_3;replace hM:=s1_3.lt hM;have:=S.size;replace S:=S.av s1_3;refine(fun(kp:fy _ _ _)=>ad ⟨G,G,λ_=>kp,?_⟩) a02;refine dF (M:=M) (base:=B) ax I3 rfl rfl rfl rfl ho j6 bU a11 a11 (by have:=ah go;omega) (λRJ MT V7 MU l5=>?_);have:=ah go;replace gO:=(l5.mem _ this).2 gO;replace go:=l5.bW go (λh=>by first|exact ho.eF go h|exact ho.fA go QZ h|(have:=(ho.base _ h).1;omega));have:=ah gs;replace iF:=(l5.mem _ this).2 iF;replace gs:=l5.bW gs (λh=>by first|exact ho.eF gs h|exact ho.fA gs QZ h|(have:=(ho.base _ h).1;omega));replace j6:=j6.le l5.le;replace hs:=hs.step l5 (λb h1 h2=>hs.jf ho QZ h1 h2);replace hM:=l5.lt hM;have:=S.size;replace S:=S.trans l5 (λb hb h=>⟨(ho.base b h).1,(S.mem b hb).1 (ho.mut_ b h)⟩);replace ho:=MU;refine ad ⟨G,G,λh=>absurd G h,?_⟩;refine cn (M:=MT) ph rfl rfl go rfl (a96) gO (λV8 k3 oD=>?_);change V8.heap[_]? =some (Obj.cells #[RJ] _ _)at k3
   have:=ah go;replace gO:=(oD.mem _ this).2 gO;have:=ah gs;replace iF:=(oD.mem _ this).2 iF;replace gs:=oD.bW gs a07;replace j6:=j6.le oD.le;replace ho:=ho.step oD (λb hb hk=>by have hk:b=_:=hk;subst hk;first|exact absurd hb (ho.fA go QZ)|exact absurd hb (ho.fA gs QZ));replace hs:=hs.step oD (λb hb hk=>by have hk:b=_:=hk;subst hk;first|exact absurd hb (hs.fA go QZ)|exact absurd hb (hs.fA gs QZ));replace hM:=oD.lt hM;have:=S.size;replace S:=S.trans oD (λk hk h=>by have h:_=_:=h;subst h;first|(exfalso;omega)|(show _<=_;omega)|exact⟨by first|omega|assumption,(S.mem _ hk).1 ((oD.mem _ (ah go)).1 gO)⟩|exact .inl rfl|exact .inr rfl|exact .inr (.inl rfl)|exact .inr (.inr rfl)|exact .inr (.inr (.inl rfl))|exact rfl);have MV:=k3;clear go;have go:=MV;clear MV;refine ad ⟨G,G,λh=>absurd G h,pH (aI ?_)⟩;rw[show eK (own,out) c=(own++[eh c],out)from if_pos GB];exact Ds G ⟨MT,hM,⟨⟨_,go,ho⟩,⟨_,gs,hs⟩,gO,iF,Y8,Y9⟩,S⟩
  ·refine aR (aK (T.aP (aN ax G G G U3 G (iV ax G ho G (eN G G G (ad ?_))))));refine bF G (λc2=>?_) (λc2=>?_)
   ·apply T.pR 2 [0] 2 aD mixed rfl rfl rfl rfl;intro wD3 sA3;have pq:=sA3 M;have:=ah go;replace gO:=(pq.mem _ this).2 gO;replace go:=pq.aE go;have:=ah gs;replace iF:=(pq.mem _ this).2 iF;replace gs:=pq.aE gs;replace ho:=ho.bQ pq;replace hs:=hs.bQ pq;replace hM:=pq.lt hM;have:=S.size;replace S:=S.av pq;refine aN aB G G G (by first|assumption|exact cg pq U3) G (Rg.de (aN ax G G G (by first|assumption|exact cg pq U3) G (Rg.de (fF (⟨jC ⟨ic G U3 a74,trivial⟩,?_⟩)))));have kp:=kT aD wD3;refine aQ G G agY (J0 (M:=rm M uo) _ (λb hb=>hM b hb.1) (ho.view q0) q0) (λr3 w3 hc=>?_);obtain⟨rfl,s3⟩:=hc;replace s3:=s3.any M;have:=ah go;replace gO:=(s3.mem _ this).2 gO;replace go:=s3.aE go;have:=ah gs;replace iF:=(s3.mem _ this).2 iF;replace gs:=s3.aE gs;replace ho:=ho.bQ s3;replace hs:=hs.bQ s3;replace hM:=s3.lt hM;have:=S.size;replace S:=S.av s3;refine(fun(kp:fy _ _ _)=>ad ⟨G,G,λ_=>kp,?_⟩) a02;refine fw (A:=RT.str) (hn:=by decide) (M:=M) aB I9 QZ G G hM (lH.2 ⟨G,by have:=gm own;omega⟩) (.inr ⟨rfl,rfl⟩) (λaq3 aq4 yN D8=>?_);have:=ah go;replace gO:=(D8.mem _ this).2 gO;replace go:=D8.aE go;have:=ah gs;replace iF:=(D8.mem _ this).2 iF;replace gs:=D8.aE gs;replace ho:=ho.bQ D8;replace hs:=hs.bQ D8;replace hM:=D8.lt hM;have:=S.size;replace S:=S.av D8;refine(fun(kp:fy _ _ _)=>ad ⟨G,G,λ_=>kp,?_⟩) a02
    refine dF (M:=M) (base:=B) aB I9 rfl rfl rfl rfl hs yN bU a11 a11 (by have:=ah go;omega) (λV9 aaF aq5 aaG D9=>?_);have:=ah go;replace gO:=(D9.mem _ this).2 gO;replace go:=D9.bW go (λh=>by first|exact hs.eF go h|exact hs.fA go QZ h|(have:=(hs.base _ h).1;omega));have:=ah gs;replace iF:=(D9.mem _ this).2 iF;replace gs:=D9.bW gs (λh=>by first|exact hs.eF gs h|exact hs.fA gs QZ h|(have:=(hs.base _ h).1;omega));replace yN:=yN.le D9.le;replace ho:=ho.step D9 (λb h1 h2=>ho.jf hs QZ h1 h2);replace hM:=D9.lt hM;have:=S.size;replace S:=S.trans D9 (λb hb h=>⟨(hs.base b h).1,(S.mem b hb).1 (hs.mut_ b h)⟩);replace hs:=aaG;refine ad ⟨G,G,λh=>absurd G h,?_⟩;refine cn (M:=aaF) xp rfl rfl gs rfl ((by obtain⟨_,_,he,_⟩:=hs.isSlice;rw[he];rfl)) iF (λahz aaH CC=>?_);change ahz.heap[_]? =some (Obj.cells #[V9] _ _)at aaH;have:=ah go;replace gO:=(CC.mem _ this).2 gO;replace go:=CC.bW go a07;have:=ah gs;replace iF:=(CC.mem _ this).2 iF;replace yN:=yN.le CC.le;replace ho:=ho.step CC (λb hb hk=>by have hk:b=_:=hk;subst hk;first|exact absurd hb (ho.fA go QZ)|exact absurd hb (ho.fA gs QZ));replace hs:=hs.step CC (λb hb hk=>by have hk:b=_:=hk;subst hk;first|exact absurd hb (hs.fA go QZ)|exact absurd hb (hs.fA gs QZ));replace hM:=CC.lt hM;have:=S.size;replace S:=S.trans CC (λk hk h=>by have h:_=_:=h;subst h;first|(exfalso;omega)|(show _<=_;omega)|exact⟨by first|omega|assumption,(S.mem _ hk).1 ((CC.mem _ (ah gs)).1 iF)⟩|exact .inl rfl|exact .inr rfl|exact .inr (.inl rfl)|exact .inr (.inr rfl)|exact .inr (.inr (.inl rfl))|exact rfl);have gs_:=aaH;clear gs;have gs:=gs_;clear gs_;refine ad ⟨G,G,λh=>absurd G h,pH (aM ?_)⟩;refine cn (M:=aaF) ph G G go G (G) gO (λMW Ea k4=>?_)
    change MW.heap[_]? =some (Obj.cells #[.slice none 0 0] _ _)at Ea;have:=ah go;replace gO:=(k4.mem _ this).2 gO;have:=ah gs;replace iF:=(k4.mem _ this).2 iF;replace gs:=k4.bW gs a07;replace yN:=yN.le k4.le;replace ho:=ho.step k4 (λb hb hk=>by have hk:b=_:=hk;subst hk;first|exact absurd hb (ho.fA go QZ)|exact absurd hb (ho.fA gs QZ));replace hs:=hs.step k4 (λb hb hk=>by have hk:b=_:=hk;subst hk;first|exact absurd hb (hs.fA go QZ)|exact absurd hb (hs.fA gs QZ));replace hM:=k4.lt hM;have:=S.size;replace S:=S.trans k4 (λk hk h=>by have h:_=_:=h;subst h;first|(exfalso;omega)|(show _<=_;omega)|exact⟨by first|omega|assumption,(S.mem _ hk).1 ((k4.mem _ (ah go)).1 gO)⟩|exact .inl rfl|exact .inr rfl|exact .inr (.inl rfl)|exact .inr (.inr rfl)|exact .inr (.inr (.inl rfl))|exact rfl);have MV:=Ea;clear go;have go:=MV;clear MV;refine ad ?_
    first|refine ig.nil ?_|simp+decide only[B8,pO,if_true,if_false]|skip
    have Za: ¬(fD c=true\/l2 c=true):=by rintro(h|h)<;>exact absurd h U3
    first
    |rw[show eK (own,out) c=([],out++[gN own])from(if_neg Za).trans (if_pos (by show 0<own.length;omega))]
     exact a92
    |rw[show eK (own,out) c=([],out)from(if_neg Za).trans (if_neg (by show¬0<own.length;omega))]
     exact a92
   ·refine aR (aM ?_);refine cn (M:=M) ph G G go G (G) gO (λMW Ea k4=>?_);change MW.heap[_]? =some (Obj.cells #[.slice none 0 0] _ _)at Ea;have:=ah go;replace gO:=(k4.mem _ this).2 gO;have:=ah gs;replace iF:=(k4.mem _ this).2 iF;replace gs:=k4.bW gs a07;replace ho:=ho.step k4 (λb hb hk=>by have hk:b=_:=hk;subst hk;first|exact absurd hb (ho.fA go QZ)|exact absurd hb (ho.fA gs QZ));replace hs:=hs.step k4 (λb hb hk=>by have hk:b=_:=hk;subst hk;first|exact absurd hb (hs.fA go QZ)|exact absurd hb (hs.fA gs QZ));replace hM:=k4.lt hM;have:=S.size;replace S:=S.trans k4 (λk hk h=>by have h:_=_:=h;subst h;first|(exfalso;omega)|(show _<=_;omega)|exact⟨by first|omega|assumption,(S.mem _ hk).1 ((k4.mem _ (ah go)).1 gO)⟩|exact .inl rfl|exact .inr rfl|exact .inr (.inl rfl)|exact .inr (.inr rfl)|exact .inr (.inr (.inl rfl))|exact rfl);have MV:=Ea;clear go;have go:=MV;clear MV;refine ad ?_
    first|refine ig.nil ?_|simp+decide only[B8,pO,if_true,if_false]|skip
    have Za: ¬(fD c=true\/l2 c=true):=by rintro(h|h)<;>exact absurd h U3
    first
    |rw[show eK (own,out) c=([],out++[gN own])from(if_neg Za).trans (if_pos (by show 0<own.length;omega))]
     exact a92
    |rw[show eK (own,out) c=([],out)from(if_neg Za).trans (if_neg (by show¬0<own.length;omega))]
     exact a92
theorem nI (l:List Int):∀p,(l.foldl eK p).1.length<=p.1.length+l.length/\(l.foldl eK p).2.length<=p.2.length+l.length:=by
 induction l with
 |nil=>intro p;simp
 |cons c l ih=>
  intro p;have:=ih (eK p c)
  have h1:(eK p c).1.length<=p.1.length+1/\(eK p c).2.length<=p.2.length+1:=by
   unfold eK
   split
   ·simp
   ·split<;>simp
  simp only[pI,cH];omega
def words (l:List UInt8):List (List UInt8):=((dC l++[32]).foldl eK ([],[])).2
theorem lC (l:List UInt8):(words l).length<=l.length+1:=by
 have h:=(nI (dC l++[32]) ([],[])).2;have h2:=gF l;rw[bM]at h;have h3:([]:List (List UInt8)).length=0:=rfl;have h4: [(32:Int)].length=1:=rfl;unfold words;simp only[h3,h4]at h;omega
theorem wJ {M:aL} {l:List UInt8} (w0:World) (hM:Lt M w0) (hl:l.length<=3900000):
  Spec Tryz.prog 182 #[.string ⟨l.toArray⟩] w0 (λv w=>(RT.str.sl).V M w (words l) v/\Step M w0 M w aD):=by
 have gX:=hM;refine a7 (args:=[_]) (fn:=Tryz.f182) Tryz.func182 G (n:=23) Tryz.ntmps182 ?_;have S:Step M w0 M w0 aD:=aW;refine T.aP (Rg.aZ G G (T.aP ?_));refine eB M xp G (λvD RL ahA ahB oE xv=>?_);obtain⟨Bq,yO⟩:∃M',M'=ins M vD:=⟨_,rfl⟩;rw[<-yO]at xv;have l6:Bq vD:=by rw[yO];exact .inl G
 change RL.heap[vD]? =some (.cells #[.slice none 0 0] _ _)at oE;replace hM:=xv.lt hM;have:=S.size;replace S:=S.av xv;refine ad (T.aP ?_);refine eB Bq ph G (λgw Wa ahC ahD Eb yP=>?_);obtain⟨MX,yQ⟩:∃M',M'=ins Bq gw:=⟨_,rfl⟩;rw[<-yQ]at yP;have yR:MX gw:=by rw[yQ];exact .inl G
 change Wa.heap[gw]? =some (.cells #[.slice none 0 0] _ _)at Eb;have:=ah oE;replace l6:=(yP.mem _ this).2 l6;replace oE:=yP.aE oE;replace hM:=yP.lt hM;have:=S.size;replace S:=S.av yP;refine ad (T.aP (jj (xs:=[]) (ys:=[.tmp 4,.tmp 3]) G G G (Rg.aZ G G (aK (T.aP (ab G G ?_))))));refine aQ G G agZ (GA _ hM q0) (λv4 w4 hc=>?_);obtain⟨Ct,s4⟩:=hc;have:=ah oE;replace l6:=(s4.mem _ this).2 l6;replace oE:=s4.aE oE;have:=ah Eb;replace yR:=(s4.mem _ this).2 yR;replace Eb:=s4.aE Eb;replace hM:=s4.lt hM;have:=S.size;replace S:=S.av s4;refine bz ax G Ct G (ab G G (ad (aX ?_)));refine cY (σ:=Nat) (λk=>[(3,.pointer (some ⟨vD,0,none⟩)),(5,.func (.func 239) #[] #[.pointer (some ⟨gw,0,none⟩),.pointer (some ⟨vD,0,none⟩)]),(10,v4),(11,.int .i64 ((dC l).length:Int)),(12,.int .i64 (k:Int))]) (λk w=>∃M',Lt M' w/\Step M w0 M' w aD/\MR M' w w0.heap.size gw vD (((dC l).take k).foldl eK ([],[]))/\((RT.int .i64).sl).V M' w (dC l) v4/\k<=(dC l).length) (λk=>(dC l).length-k) 0 a05 ?_ ?_
 ·exact⟨_,hM,S,⟨⟨_,Eb,eJ _ _ _ _ _⟩,⟨_,oE,eJ _ _ _ _ _⟩,yR,l6,by omega,by omega⟩,Ct,bp _⟩
 ·rintro k w ⟨M1,hM,S,ht,Ct,hk⟩;refine T.aP (cy G G G (ad (aK ?_)));refine bF G (λc5=>?_) (λc5=>?_)
  ·refine aR (aK (aX (T.aP ?_)));refine cB ax I3 G G G Ct bU q0 (λu6 c Lu tF=>?_);refine bT ak G G tF bU (λin6=>?_);refine Rg.aZ G G (aM (ab G G (ab G G ?_)));have qK:=gF l;have F4:=nI ((dC l).take k) ([],[]);rw[bJ]at F4;refine uI (first:=[]) (captured:=[.pointer (some ⟨gw,0,none⟩),.pointer (some ⟨vD,0,none⟩)]) rfl rfl rfl aah (yM (B:=w0.heap.size) _ hM c ht (by simp at F4;omega)) (λr7 w7 hc=>?_);obtain⟨M2,IC,RM,s7⟩:=hc;have tk:(dC l).take (k+1)=(dC l).take k++[c]:=by rw[b7];simp only[ar]at Lu;rw[Lu];rfl
   refine ad (aM (bC G G G q0 (ab G G (ad ?_))));refine⟨G,k+1,a05,?_,?_⟩
   ·exact⟨M2,IC,S.lM s7 (bu _),by rw[tk,iH];exact RM,Ct.le s7.le,by omega⟩
   ·omega
  ·refine cN (T.aP (ab G G ?_));have qK:=gF l;have F4:=nI ((dC l).take k) ([],[]);rw[bJ]at F4;refine uI (first:=[]) (captured:=[.pointer (some ⟨gw,0,none⟩),.pointer (some ⟨vD,0,none⟩)]) rfl rfl rfl aah (yM (B:=w0.heap.size) _ hM 32 ht (by simp at F4;omega)) (λr9 w9 hc=>?_);obtain⟨M2,IC,RM,s9⟩:=hc;have e9:eK (((dC l).take k).foldl eK ([],[])) 32=(dC l++[32]).foldl eK ([],[]):=by rw[iH,bm q0];rfl
   rw[e9]at RM;obtain⟨_,⟨us,gs,hs⟩,_⟩:=RM;replace S:=S.lM s9 (bu _);refine ad (T.aP (aN aB G G G gs G (Rg.aZ G G (aI ?_))));exact aF G G ⟨Own.close gX S hs (by have:=lC l;omega),S.back⟩
theorem yS {M:aL} {l:List UInt8} (w0:World) (hM:Lt M w0) (hl:l.length<=900000):Spec Tryz.prog 182 #[.string ⟨l.toArray⟩] w0 (λv w=>(RT.str.sl).V M w (words l) v/\Step M w0 M w aD):=wJ w0 hM q0
theorem yT {p:List Int×List (List UInt8)} {c:Int} (h:oB c=true):eK p c=(p.1++[eh c],p.2):=if_pos (by simpa[oB]using h)
theorem kh {p:List Int×List (List UInt8)} {c:Int} (h:oB c=false):eK p c=if 0<p.1.length then([],p.2++[gN p.1])else([],p.2):=if_neg (by simpa[oB]using h)
def Lv (sg:List Int) (i:Nat) (ws:List (List UInt8)):Prop:=(i<=sg.length/\(sg.take i).foldl eK ([],[])=([],ws))\/(i=sg.length+1/\((sg++[32]).foldl eK ([],[])).2=ws)
theorem MY {c:Int} (h:oB c=true):0<=c/\c<=1114111:=qa (by simpa[oB]using h)
theorem MZ:oB 32=false:=by decide
theorem vE {sg:List Int} {i:Nat} {c:Int} (h:sg[i]? =some c) (p:List Int×List (List UInt8)):(sg.take (i+1)).foldl eK p=eK ((sg.take i).foldl eK p) c:=by
 rw[b7,h,dH,iH];rfl
theorem Lv.skip {sg:List Int} {i:Nat} {ws:List (List UInt8)} {c:Int} (h:Lv sg i ws) (hc:sg[i]? =some c) (hi:oB c=false):Lv sg (i+1) ws:=by
 have eQ:=(al.1 hc).1;rcases h with⟨_,h⟩|⟨h,_⟩
 ·exact .inl ⟨eQ,by rw[vE hc,h,kh hi];rfl⟩
 ·omega
theorem Lv.word {sg:List Int} {j:Nat} {own:List Int} {ws:List (List UInt8)} (h:(sg.take j).foldl eK ([],[])=(own,ws)) (ho:0<own.length) (hj:j<=sg.length) (hn:∀c,sg[j]? =some c->oB c=false):Lv sg (j+1) (ws++[gN own]):=by
 rcases pN hj with e|eQ
 ·refine .inr ⟨by omega,?_⟩;rw[e,List.take_length]at h;rw[iH,h];show(eK (own,ws) 32).2=_;rw[kh MZ,if_pos ho]
 ·have hc:sg[j]? =some sg[j]:=an eQ;exact .inl ⟨eQ,by rw[vE hc,h,kh (hn _ hc),if_pos ho]⟩
theorem Lv.done {sg:List Int} {i:Nat} {ws:List (List UInt8)} (h:Lv sg i ws) (hi:sg.length<=i):((sg++[32]).foldl eK ([],[])).2=ws:=by
 rcases h with⟨h1,h⟩|⟨_,h⟩
 ·rw[bm q0]at h;rw[iH,h];show(eK ([],ws) 32).2=_;rw[kh MZ];rfl
 ·exact h
theorem Lv.len {sg:List Int} {i:Nat} {ws:List (List UInt8)} (h:Lv sg i ws):ws.length<=sg.length+1:=by
 rcases h with⟨_,h⟩|⟨_,h⟩
 ·have:=(nI (sg.take i) ([],[])).2;rw[h,bJ]at this;simp only[jQ]at this;have e:(([]:List Int),([]:List (List UInt8))).2.length=0:=rfl;omega
 ·have:=(nI (sg++[32]) ([],[])).2;rw[h,bM]at this;have e:(([]:List Int),([]:List (List UInt8))).2.length=0:=rfl;have e2: [(32:Int)].length=1:=rfl;omega
theorem gH {sg:List Int} {j:Nat} {own:List Int} {ws:List (List UInt8)} (h:(sg.take j).foldl eK ([],[])=(own,ws)):own.length<=sg.length/\ws.length<=sg.length:=by
 have:=nI (sg.take j) ([],[]);rw[h,bJ]at this;simp only[jQ]at this;have e:(([]:List Int),([]:List (List UInt8))).1.length=0:=rfl;have e2:(([]:List Int),([]:List (List UInt8))).2.length=0:=rfl;omega
theorem wK {M:aL} {l:List UInt8} (w0:World) (hM:Lt M w0) (hl:l.length<=900000):
  Spec Tryz.prog 122 #[.string ⟨l.toArray⟩] w0 (λv w=>(RT.str.sl).V M w (words l) v/\Step M w0 M w aD):=by
 have gX:=hM;have qK:=gF l;refine a7 (args:=[_]) (fn:=Tryz.f122) Tryz.func122 G (n:=50) Tryz.ntmps122 ?_;have S:Step M w0 M w0 aD:=aW;refine T.aP (Rg.aZ G G (T.aP (ab G G ?_)));refine aQ G G VN (wI _ hM q0) (λv1 w1 hc=>?_);obtain⟨hv,s1⟩:=hc;replace hM:=s1.lt hM;have:=S.size;replace S:=S.av s1;refine Rg.aZ G G (T.aP (Rg.aZ G G (aK (T.aP (Rg.aZ G G (aX ?_))))));refine cY (σ:=Nat×Value) (λq=>[(3,v1),(4,q.2),(5,.int .i64 (q.1:Int))]) (λq w=>∃M' ws,Lt M' w/\Step M w0 M' w aD/\Own RT.str 9 M' w w0.heap.size q.2 ws/\((RT.int .i64).sl).V M' w (dC l) v1/\Lv (dC l) q.1 ws) (λq=>(dC l).length+1-q.1) (0,.slice none 0 0) a00 ?_ ?_
 ·exact⟨M,[],hM,S,eJ _ _ _ _ _,hv,.inl ⟨bp _,G⟩⟩
 ·rintro⟨i,u4⟩ w ⟨M1,ws,hM,S,tG,hv,hwa⟩;dsimp only at tG hwa ⊢;refine aK (T.aP (ab G G (ab G G (bz ax G hv G (cy G G G (ad ?_))))));refine bF G (λc4=>?_) (λc4=>?_)
  ·refine aR (aK (aX (T.aP (ab G G (ab G G ?_)))));refine cB ax I3 G G G hv bU q0 (λaaJ c hgc huc=>?_);refine bT ak G G huc bU (λinc=>?_);rw[ar]at hgc;refine aQ G G VO (yG c _) (λr wc hc=>?_);obtain⟨rfl,rfl⟩:=hc;refine br (v':= .bool (decide (oB c=true))) (by cases oB c<;>rfl) (Rg.aZ rfl rfl (aK (T.aP (ab rfl rfl (ib rfl rfl (br (v':= .bool (decide (oB c=false))) (by cases oB c<;>rfl) (ad ?_)))))));refine bF G (λc7=>?_) (λc7=>?_)
   ·refine cN (aM (ab G G (bC G G G q0 (Rg.aZ G G ?_))));refine⟨G,(i+1,u4),a00,?_,?_⟩
    ·exact⟨M1,ws,hM,S,tG,hv,hwa.skip hgc U3⟩
    ·dsimp only;omega
   ·refine aR (T.aP (Rg.aZ G G (aK (aX ?_))));refine cY (σ:=Nat×List Int×Value) (λq=>[(3,v1),(4,u4),(5,.int .i64 (q.1:Int)),(7,q.2.2)]) (λq w=>∃M',Lt M' w/\Step M w0 M' w aD/\Own RT.str 9 M' w w0.heap.size u4 ws/\Own (RT.int .i64) 3 M' w w0.heap.size q.2.2 q.2.1/\((RT.int .i64).sl).V M' w (dC l) v1/\((dC l).take q.1).foldl eK ([],[])=(q.2.1,ws)/\i<=q.1/\q.1<=(dC l).length/\(i<q.1->0<q.2.1.length)) (λq=>(dC l).length-q.1) (i,[],.slice none 0 0) a38 ?_ ?_
    ·have ahE:((dC l).take i).foldl eK ([],[])=([],ws):=by
      rcases hwa with⟨_,h⟩|⟨h,_⟩
      ·exact h
      ·omega
     exact⟨M1,hM,S,tG,eJ _ _ _ _ _,hv,ahE,bu _,by dsimp only;omega,λh=>absurd h (ji _)⟩
    ·rintro⟨j,own,u7⟩ w ⟨M2,hM,S,tG,sO,hv,hf,Y7,wz,rO⟩;dsimp only at sO hf Y7 wz rO ⊢;refine aK (T.aP (ab G G (ab G G (bz ax G hv G (cy G G G (ab G G ?_))))));refine aO (g:=27) G (λahF=>?_) (λahF=>?_)
     ·refine ae G G (ab G G (ae G G (ab G G (ae G G ?_))));refine cB ax I3 G G G hv bU q0 (λaq7 d wL hud=>?_);refine ae G G ?_;refine bT ak G G hud bU (λind=>?_);rw[ar]at wL;refine ae G G ?_;refine aQ G G VO (yG d _) (λr wc hc=>?_);obtain⟨rfl,rfl⟩:=hc;refine br (v':= .bool (decide (oB d=true))) (by cases oB d<;>rfl) (aU rfl rfl rfl (ad ?_));refine bF G (λc9=>?_) (λc9=>?_)
      ·refine aR (aX (T.aP (ab G G (ab G G (ab G G ?_)))));refine cB ax I3 G G G hv bU q0 (λaaK e sV hue=>?_);refine bT ak G G hue bU (λmu=>?_);rw[ar]at sV;have Wb:oB e=true:=by rw[wL]at sV;cases sV;assumption
       refine aQ G G aag (yF e _ (MY Wb)) (λr wc hc=>?_);obtain⟨rfl,rfl⟩:=hc;refine fw (A:=RT.int .i64) (hn:=by decide) (M:=M2) ax I3 QZ G G hM (gJ (by have:=MY Wb;unfold eh;split<;>omega)) (.inr ⟨rfl,rfl⟩) (λani anj GC Ec=>?_);replace hv:=hv.le Ec.le;replace tG:=tG.bQ Ec;replace sO:=sO.bQ Ec;replace hM:=Ec.lt hM;have:=S.size;replace S:=S.av Ec;refine dF (M:=M2) (base:=w0.heap.size) ax I3 G G G G sO GC bU ae8 ae8 (S.size) (λT0 aaL aaM Wc o5=>?_);replace hv:=hv.le o5.le;replace GC:=GC.le o5.le;replace tG:=tG.step o5 (λb h1 h2=>tG.jf sO QZ h1 h2);replace hM:=o5.lt hM;have:=S.size;replace S:=S.dU o5 sO (bu _);replace sO:=Wc;refine Rg.aZ G G (aM (ab G G (bC G G G q0 (Rg.aZ G G ?_))));refine⟨G,(j+1,own++[eh e],T0),a38,?_,?_⟩
       ·exact⟨aaL,hM,S,tG,sO,hv,by rw[vE sV,hf,yT Wb],by dsimp only;omega,by dsimp only;omega,λ_=>by simp⟩
       ·dsimp only;omega
      ·refine cN (aM (ab G G (ab G G ?_)));refine aQ G G VQ (sf (M:=rm M2 u7) _ (λb hb=>hM b hb.1) (sO.view (by have:=gH hf;omega)) (by have:=gH hf;omega)) (λr12 Lw Wd=>?_);obtain⟨rfl,lu⟩:=Wd;replace lu:=lu.any M2;replace hv:=hv.le lu.le;replace tG:=tG.bQ lu;replace sO:=sO.bQ lu;replace hM:=lu.lt hM;have:=S.size;replace S:=S.av lu;refine fw (A:=RT.str) (hn:=by decide) (M:=M2) aB I9 QZ G G hM (lH.2 ⟨G,by have:=gm own;have:=gH hf;omega⟩) (.inr ⟨rfl,rfl⟩) (λaaN aaO sh qb=>?_);replace hv:=hv.le qb.le;replace tG:=tG.bQ qb;replace sO:=sO.bQ qb;replace hM:=qb.lt hM;have:=S.size;replace S:=S.av qb;refine dF (M:=M2) (base:=w0.heap.size) aB I9 G G G G tG sh bU ae8 ae8 (S.size) (λyU qc M8 si fj=>?_);replace hv:=hv.le fj.le;replace sh:=sh.le fj.le;replace sO:=sO.step fj (λb h1 h2=>sO.jf tG QZ h1 h2);replace hM:=fj.lt hM;have:=S.size;replace S:=S.dU fj tG (bu _);replace tG:=si;refine Rg.aZ G G (aM (ab G G (bC G G G q0 (Rg.aZ G G ?_))))
       have rO:0<own.length:=by
        rcases pN Y7 with e|h
        ·exfalso;subst e
         first|omega|(rw[hgc]at wL;cases wL;exact c9 (by cases hq:oB c with|true=>rfl|false=>exact absurd hq U3))
        ·exact rO h
       have J6:∀c,(dC l)[j]? =some c->oB c=false:=λc hc=>by
        first|(rw[cJ q0]at hc;cases hc)|(rw[wL]at hc;cases hc;exact fu.2 c9)
       refine⟨G,(j+1,yU),a00,?_,?_⟩
       ·exact⟨qc,_,hM,S,tG,hv,Lv.word hf rO wz J6⟩
       ·dsimp only;omega
     ·refine aj G G G G (aj G G G G (aj G G G G (aj G G G G (aj G G G G (aA G G G (ad (jJ G (cN (aM (ab G G (ab G G ?_)))))))))));refine aQ G G VQ (sf (M:=rm M2 u7) _ (λb hb=>hM b hb.1) (sO.view (by have:=gH hf;omega)) (by have:=gH hf;omega)) (λr12 Lw Wd=>?_);obtain⟨rfl,lu⟩:=Wd;replace lu:=lu.any M2;replace hv:=hv.le lu.le;replace tG:=tG.bQ lu;replace sO:=sO.bQ lu;replace hM:=lu.lt hM;have:=S.size;replace S:=S.av lu;refine fw (A:=RT.str) (hn:=by decide) (M:=M2) aB I9 QZ G G hM (lH.2 ⟨G,by have:=gm own;have:=gH hf;omega⟩) (.inr ⟨rfl,rfl⟩) (λaaN aaO sh qb=>?_);replace hv:=hv.le qb.le;replace tG:=tG.bQ qb;replace sO:=sO.bQ qb;replace hM:=qb.lt hM;have:=S.size;replace S:=S.av qb;refine dF (M:=M2) (base:=w0.heap.size) aB I9 G G G G tG sh bU ae8 ae8 (S.size) (λyU qc M8 si fj=>?_);replace hv:=hv.le fj.le;replace sh:=sh.le fj.le;replace sO:=sO.step fj (λb h1 h2=>sO.jf tG QZ h1 h2);replace hM:=fj.lt hM;have:=S.size;replace S:=S.dU fj tG (bu _);replace tG:=si;refine Rg.aZ G G (aM (ab G G (bC G G G q0 (Rg.aZ G G ?_))))
      have rO:0<own.length:=by
       rcases pN Y7 with e|h
       ·exfalso;subst e
        first|omega|(rw[hgc]at wL;cases wL;exact c9 (by cases hq:oB c with|true=>rfl|false=>exact absurd hq U3))
       ·exact rO h
      have J6:∀c,(dC l)[j]? =some c->oB c=false:=λc hc=>by
       first|(rw[cJ q0]at hc;cases hc)|(rw[wL]at hc;cases hc;exact fu.2 c9)
      refine⟨G,(j+1,yU),a00,?_,?_⟩
      ·exact⟨qc,_,hM,S,tG,hv,Lv.word hf rO wz J6⟩
      ·dsimp only;omega
  ·refine cN (T.aP (ab G G (Rg.aZ G G (aI ?_))));have e:=hwa.done q0;have e2:words l=ws:=e;rw[e2];exact aF G G ⟨tG.close gX S (by have:=hwa.len;omega),S.back⟩
def l7:Nat->List (List UInt8)->Int
 |_,[]=>0
 |i,w::ws=>if 30<w.length then 3 else if 500<=i then 7 else l7 (i+1) ws
theorem ID {i k:Nat} {ws:List (List UInt8)} {x:List UInt8} (h:ws[k]? =some x):l7 i (ws.drop k)=if 30<x.length then 3 else if 500<=i then 7 else l7 (i+1) (ws.drop (k+1)):=by
 have eQ:=(al.1 h).1;rw[eW eQ,(al.1 h).2];rfl
theorem dS {M:aL} {w:World} {x:List UInt8} {v:Value} (h:RT.str.V M w x v):v= .string ⟨x.toArray⟩:=(lH.1 h).1
theorem J7 {M:aL} {l:List UInt8} (w0:World) (hM:Lt M w0) (hl:l.length<=900000):
  Spec Tryz.prog 138 #[.string ⟨l.toArray⟩] w0 (λv w=>(∃u,v= .tuple #[u,.int .i64 (l7 0 (words l))]/\(l7 0 (words l)=0->∃a cap,u= .slice a (words l).length cap))/\Step M w0 M w aD):=by
 have gX:=hM;refine a7 (args:=[_]) (fn:=Tryz.f138) Tryz.func138 G (n:=30) Tryz.ntmps138 ?_;have S:Step M w0 M w0 aD:=aW;refine T.aP (aG G G (Rg.aZ G G (T.aP (Rg.aZ G G (aK (T.aP ?_))))));refine ab G G ?_;refine aQ G G VR (yS _ hM hl) (λv1 w1 hc=>?_);obtain⟨hv,s1⟩:=hc;replace hM:=s1.lt hM;have:=S.size;replace S:=S.av s1;refine bz aB G hv G (ab G G (ad (aX ?_)));refine cY (σ:=Nat×Value) (λq=>[(8,v1),(4,q.2),(9,.int .i64 ((words l).length:Int)),(10,.int .i64 (q.1:Int))]) (λq w=>(∃M' xs,Lt M' w/\Step M w0 M' w aD/\Own (RT.pair RT.str (RT.int .i64)) 218 M' w w0.heap.size q.2 xs/\xs.length=q.1/\(RT.str.sl).V M' w (words l) v1)/\l7 0 (words l)=l7 q.1 ((words l).drop q.1)/\q.1<=(words l).length/\q.1<=500) (λq=>(words l).length-q.1) (0,.slice none 0 0) a38 ?_ ?_
 ·exact⟨⟨M,[],hM,S,eJ _ _ _ _ _,G,hv⟩,G,bp _,bp _⟩
 ·rintro⟨i,u⟩ w ⟨⟨M1,xs,hM,S,ho,xm,hv⟩,JM,hi,hi5⟩;dsimp only at ho xm JM hi hi5 ⊢;refine T.aP (cy G G G (ad (aK ?_)));refine bF G (λc3=>?_) (λc3=>?_)
  ·refine aR (aK (aX (T.aP (ab G G ?_))));refine cB aB I9 G G G hv bU q0 (λaaP x IE hux=>?_);refine bD az G G G G G hux bU (λvx yV=>?_);rw[ar]at IE;obtain rfl:=dS yV;have ht:=ID (i:=i) IE;refine aG G G (Rg.aZ G G (aK (aX (T.aP (ab G G (rF az G G (br (v':= .int .i64 (x.length:Int)) a81 (eN G G G (aG G G ?_)))))))));refine ad ?_;refine bF G (λc5=>?_) (λc5=>?_)
   ·refine T.aP (aG G G (Rg.aZ G G (aI ?_)));rw[JM,ht,if_pos q0];exact ad1
   ·refine T.aP (ab G G (fi G G G (Rg.aZ G G ?_)));refine bF G (λc7=>?_) (λc7=>?_)
    ·refine T.aP (aG G G (Rg.aZ G G (aI ?_)));rw[JM,ht,if_neg q0,if_pos q0];exact ad1
    ·refine aR (aM (ab rfl rfl (ab rfl rfl (ab rfl rfl (dN (places:=[(0,1),(1,1)]) Tryz.underlying218 JY aad rfl ⟨_,_,rfl,rfl,_,_,rfl,rfl,rfl⟩ (out:=[_,_]) ⟨0,[_],rfl,rfl,by simp[Value.cells],1,[_],rfl,rfl,by simp[Value.cells],rfl⟩ ?_)))));refine fw (A:=(RT.pair RT.str (RT.int .i64))) (hn:=by decide) (M:=M1) Tryz.underlying154 JY QZ G G hM (fz yV (gJ (x:=(i:Int)) q0) G G G G) (.inl G) (λaax ahl Na AF=>?_);replace hv:=hv.le AF.le;replace yV:=yV.le AF.le;replace ho:=ho.bQ AF;replace hM:=AF.lt hM;have:=S.size;replace S:=S.av AF;refine dF (M:=M1) (base:=w0.heap.size) Tryz.underlying154 JY rfl rfl rfl rfl ho Na bU a11 a11 (S.size) (λahJ ahK aaQ aaR qd=>?_);replace hv:=hv.le qd.le;replace yV:=yV.le qd.le;replace Na:=Na.le qd.le;replace hM:=qd.lt hM;have:=S.size;replace S:=S.dU qd ho (bu _);replace ho:=aaR;refine Rg.aZ G G (aM (bC G G G q0 (ab G G (ad ?_))));refine⟨G,(i+1,ahJ),a38,?_,?_⟩
     ·exact⟨⟨ahK,_,hM,S,ho,by simp[xm],hv⟩,by rw[JM,ht,if_neg q0,if_neg q0],by dsimp only;omega,by dsimp only;omega⟩
     ·dsimp only;omega
  ·refine cN (T.aP (ab G G (aG G G (Rg.aZ G G (aI ?_)))));have e:l7 0 (words l)=0:=by rw[JM,ja q0];rfl
   rw[e];obtain⟨a,cap,he,_⟩:=ho.isSlice;exact fc rfl rfl rfl ⟨⟨u,rfl,λ_=>⟨a,cap,by rw[he,xm];congr 1;omega⟩⟩,S.back⟩
theorem GD {M:aL} {l:List UInt8} (w0:World) (hM:Lt M w0) (hl:l.length<=900000):
  Spec Tryz.prog 74 #[.string ⟨l.toArray⟩] w0 (λv w=>(∃u,v= .tuple #[u,.int .i64 (l7 0 (words l))]/\(l7 0 (words l)=0->∃a cap,u= .slice a (words l).length cap))/\Step M w0 M w aD):=by
 have gX:=hM;refine a7 (args:=[_]) (fn:=Tryz.f74) Tryz.func74 G (n:=33) Tryz.ntmps74 ?_;have S:Step M w0 M w0 aD:=aW;refine T.aP (aG G G (Rg.aZ G G (T.aP (ab G G ?_))));refine aQ G G aae (wK _ hM hl) (λv1 w1 hc=>?_);obtain⟨hv,s1⟩:=hc;replace hM:=s1.lt hM;have:=S.size;replace S:=S.av s1;refine Rg.aZ G G (T.aP (Rg.aZ G G (aK (T.aP (Rg.aZ G G (aX ?_))))));refine cY (σ:=Nat×Value) (λq=>[(4,v1),(5,q.2),(6,.int .i64 (q.1:Int))]) (λq w=>(∃M' xs,Lt M' w/\Step M w0 M' w aD/\Own (RT.pair RT.str (RT.int .i64)) 218 M' w w0.heap.size q.2 xs/\xs.length=q.1/\(RT.str.sl).V M' w (words l) v1)/\l7 0 (words l)=l7 q.1 ((words l).drop q.1)/\q.1<=(words l).length/\q.1<=500) (λq=>(words l).length-q.1) (0,.slice none 0 0) a00 ?_ ?_
 ·exact⟨⟨M,[],hM,S,eJ _ _ _ _ _,G,hv⟩,G,bp _,bp _⟩
 ·rintro⟨i,u⟩ w ⟨⟨M1,xs,hM,S,ho,xm,hv⟩,JM,hi,hi5⟩;dsimp only at ho xm JM hi hi5 ⊢;refine aK (T.aP (ab G G (ab G G (bz aB G hv G (cy G G G (ad ?_))))));refine bF G (λc4=>?_) (λc4=>?_)
  ·refine aR (aK (aX (aK (T.aP (ab G G (ab G G ?_))))));refine cB aB I9 G G G hv bU q0 (λaaJ x IE hux=>?_);refine bD az G G G G G hux bU (λvx yV=>?_);rw[ar]at IE;obtain rfl:=dS yV;have ht:=ID (i:=i) IE;refine rF az G G (br (v':= .int .i64 (x.length:Int)) a81 (eN G G G (ad ?_)));refine bF G (λc6=>?_) (λc6=>?_)
   ·refine T.aP (aG G G (Rg.aZ G G (aI ?_)));rw[JM,ht,if_pos q0];exact ad1
   ·refine aR (aK (T.aP (ab G G (ek G G G (ad ?_)))));refine bF G (λc8=>?_) (λc8=>?_)
    ·refine T.aP (aG G G (Rg.aZ G G (aI ?_)));rw[JM,ht,if_neg q0,if_pos q0];exact ad1
    ·refine aR (aM (ab G G (ab G G (ab G G ?_))));refine cB aB I9 G G G hv bU q0 (λaaK y J8 huy=>?_);refine bD az G G G G G huy bU (λvy Zb=>?_);rw[ar]at J8;obtain rfl:=dS Zb;obtain rfl:x=y:=by rw[IE]at J8;exact aJ J8
     refine ab rfl rfl (dN (places:=[(0,1),(1,1)]) Tryz.underlying218 JY aad rfl ⟨_,_,rfl,rfl,_,_,rfl,rfl,rfl⟩ (out:=[_,_]) ⟨0,[_],rfl,rfl,by simp[Value.cells],1,[_],rfl,rfl,by simp[Value.cells],rfl⟩ ?_);refine fw (A:=(RT.pair RT.str (RT.int .i64))) (hn:=by decide) (M:=M1) Tryz.underlying154 JY QZ G G hM (fz Zb (gJ (x:=(i:Int)) q0) G G G G) (.inl G) (λT0 aaM GF o5=>?_);replace hv:=hv.le o5.le;replace yV:=yV.le o5.le;replace Zb:=Zb.le o5.le;replace ho:=ho.bQ o5;replace hM:=o5.lt hM;have:=S.size;replace S:=S.av o5;refine dF (M:=M1) (base:=w0.heap.size) Tryz.underlying154 JY rfl rfl rfl rfl ho GF bU a11 a11 (S.size) (λaaS aaT IF We gx=>?_);replace hv:=hv.le gx.le;replace yV:=yV.le gx.le;replace Zb:=Zb.le gx.le;replace GF:=GF.le gx.le;replace hM:=gx.lt hM;have:=S.size;replace S:=S.dU gx ho (bu _);replace ho:=We;refine Rg.aZ G G (aM (ab G G (bC G G G q0 (Rg.aZ G G ?_))));refine⟨G,(i+1,aaS),a00,?_,?_⟩
     ·exact⟨⟨aaT,_,hM,S,ho,by simp[xm],hv⟩,by rw[JM,ht,if_neg q0,if_neg q0],by dsimp only;omega,by dsimp only;omega⟩
     ·dsimp only;omega
  ·refine cN (T.aP (ab G G (aG G G (Rg.aZ G G (aI ?_)))));have e:l7 0 (words l)=0:=by rw[JM,ja q0];rfl
   rw[e];obtain⟨a,cap,he,_⟩:=ho.isSlice;exact fc rfl rfl rfl ⟨⟨u,rfl,λ_=>⟨a,cap,by rw[he,xm];congr 1;omega⟩⟩,S.back⟩
end Go.K
namespace Go.Proofs
open Go.Shelf
def Tryz.Ed:Go.Shelf.Ren:=⟨fun|160=>183|232=>246|231=>245|227=>247|234=>249|233=>248|236=>251|235=>250|228=>283|271=>286|151=>285|197=>284|120=>311|152=>310|260=>309|137=>319|119=>308|224=>320|225=>321|217=>323|266=>324|n=>n,fun|9=>9|4=>4|3=>3|5=>5|117=>340|116=>339|0=>0|124=>343|21=>21|105=>373|46=>262|119=>401|139=>404|138=>403|n=>n,fun|3=>2|4=>3|n=>n⟩
theorem Tryz.RN:Go.Proofs.Lays.n160 Tryz.prog Tryz.Ed:={
 mixed:=by kernel_rfl
 f119:=Tryz.func308.trans a03
 f120:=Tryz.func311.trans a03
 f137:=Tryz.func319.trans a03
 f151:=Tryz.func285.trans a03
 f152:=Tryz.func310.trans a03
 f160:=Tryz.func183.trans a03
 f197:=Tryz.func284.trans a03
 f217:=Tryz.func323.trans a03
 f224:=Tryz.func320.trans a03
 f225:=Tryz.func321.trans a03
 f227:=Tryz.func247.trans a03
 f228:=Tryz.func283.trans a03
 f231:=Tryz.func245.trans a03
 f232:=Tryz.func246.trans a03
 f233:=Tryz.func248.trans a03
 f234:=Tryz.func249.trans a03
 f235:=Tryz.func250.trans a03
 f236:=Tryz.func251.trans a03
 f260:=Tryz.func309.trans a03
 f266:=Tryz.func324.trans a03
 f271:=Tryz.func286.trans a03
 t0:=As
 a0:=Tryz.isAgg0
 z0:=Tryz.sizeOf0
 v0:=Tryz.zeroValue0
 t3:=ak
 a3:=Tryz.isAgg3
 z3:=Tryz.sizeOf3
 v3:=Tryz.zeroValue3
 t4:=jK
 a4:=Tryz.isAgg4
 z4:=Tryz.sizeOf4
 v4:=Tryz.zeroValue4
 t5:=cU
 a5:=Tryz.isAgg5
 z5:=Tryz.sizeOf5
 v5:=Tryz.zeroValue5
 t9:=az
 a9:=Tryz.isAgg9
 z9:=Au
 v9:=nh
 t21:=Tryz.underlying21
 a21:=Tryz.isAgg21
 z21:=Tryz.sizeOf21
 v21:=Tryz.zeroValue21
 t46:=Tryz.underlying262
 a46:=Tryz.isAgg262
 z46:=Tryz.sizeOf262
 v46:=Tryz.zeroValue262
 t105:=Tryz.underlying373
 a105:=Tryz.isAgg373
 z105:=Tryz.sizeOf373
 v105:=Tryz.zeroValue373
 t116:=Tryz.underlying339
 a116:=Tryz.isAgg339
 z116:=Tryz.sizeOf339
 t117:=Tryz.underlying340
 a117:=Tryz.isAgg340
 z117:=Tryz.sizeOf340
 v117:=Tryz.zeroValue340
 t119:=Tryz.underlying401
 a119:=Tryz.isAgg401
 z119:=Tryz.sizeOf401
 t124:=Tryz.underlying343
 a124:=Tryz.isAgg343
 z124:=Tryz.sizeOf343
 v124:=Tryz.zeroValue343
 t138:=Tryz.underlying403
 a138:=Tryz.isAgg403
 z138:=Tryz.sizeOf403
 v138:=Tryz.zeroValue403
 t139:=Tryz.underlying404
 a139:=Tryz.isAgg404
 z139:=Tryz.sizeOf404
 v139:=Tryz.zeroValue404
 g3:=by kernel_rfl
 g4:=by kernel_rfl}
end Go.Proofs
namespace Go.K
open Go.Proofs
set_option maxRecDepth 10000
open Go.RowKit Go.Shelf
def lv:List UInt8:=[97,98,99,100,101,102,103,104,105,106,107,108,109,110,111,112,113,114,115,116,117,118,119,120,121,122]
def hY (b:UInt8):Bool:=decide (97<=b.toNat/\b.toNat<=122)
def ez (s:List UInt8):Bool:=decide (1<=s.length/\s.length<=12)&&s.all hY
theorem Ee (b:UInt8):lv.contains b=hY b:=by
 have key:∀n:Fin 256,lv.contains (UInt8.ofNat n)=hY (UInt8.ofNat n):=by decide
 have:=key ⟨b.toNat,UInt8.toNat_lt b⟩;simpa using this
theorem drop_nil {α:Type} (p:α->Bool):∀l:List α,l.dropWhile p=[]↔∀x∈l,p x=true
 |[]=>by simp
 |x::l=>by
  rw[List.dropWhile_cons];by_cases h:p x=true
  ·rw[if_pos h,drop_nil p l];simp[h]
  ·rw[if_neg h];simp[h]
theorem yW (s:List UInt8):Lib.trimS s lv=[]↔s.all hY=true:=by
 have e:(λb=>lv.contains b)=hY:=funext Ee;unfold Lib.trimS Lib.trimLeftS Lib.trimRightS;rw[e,drop_nil,ec];constructor
 ·intro h
  have h2:s.reverse.dropWhile hY=[]:=by
   cases hd:s.reverse.dropWhile hY with
   |nil=>rfl
   |cons x r=>
    have h3:=h x (by rw[hd];simp);have h4:=List.head?_dropWhile_not hY s.reverse;rw[hd]at h4;simp[h3]at h4
  intro x hx;exact(drop_nil _ _).1 h2 x (List.mem_reverse.2 hx)
 ·intro h x hx;rw[(drop_nil hY s.reverse).2 (λy hy=>h y (List.mem_reverse.1 hy))]at hx
  cases hx
theorem J9 (s:List UInt8) (hs:s.length<=140737488355328) (w:World):Spec Tryz.prog 183 #[.string ⟨s.toArray⟩,.string ⟨lv.toArray⟩] w (λv w'=>v= .string ⟨(Lib.trimS s lv).toArray⟩/\∀M,Step M w M w' aD):=
 (Any.strings_Trim_ascii Tryz.RN Tryz.zeroValue339 ah2 ⟨s.toArray⟩ ⟨lv.toArray⟩ w (by simp[ByteArray.size];omega) QZ (λj b hj=>by
  have hm:b∈lv:=au hj;have:=Ee b;rw[fS.2 hm]at this;have h2:97<=b.toNat/\b.toNat<=122:=by simpa[hY]using this.symm
  omega)).mono λe w' ⟨h1,h2⟩=>⟨_,h1,rfl,λM=> .Cp h2 M⟩
theorem vF (s:List UInt8) (hs:s.length<=140737488355328) (w0:World):
  Spec Tryz.prog 139 #[.string ⟨s.toArray⟩] w0 (λv w=>v= .bool (ez s)/\∀M,Step M w0 M w aD):=by
 refine a7 (args:=[_]) (fn:=Tryz.f139) Tryz.func139 G (n:=15) Tryz.ntmps139 (T.aP (Rg.aZ G G (T.aP (ab G G (Rg.Du (p:=s) (q:=[]) G G G (ab G G ?_))))));refine aO (g:=5) G (λiw=>?_) (λiw=>?_)
 ·refine ae G G (ab G G (ae G G (rF az G G (br (v':= .int .i64 (s.length:Int)) a81 (ae G G (fN G G G (aU G G G (ab G G ?_))))))));refine aO (g:=10) G (λahL=>?_) (λahL=>?_)
  ·refine ae G G (ab G G (ae G G ?_));refine aQ G G agN (J9 s hs _) (λr w9 hc=>?_);obtain⟨rfl,s9⟩:=hc;refine ae G G (Rg.sY (p:=Lib.trimS s lv) (q:=[]) G G G (aU G G G (Rg.aZ G G (aI ?_))))
   first
   |exact aF rfl rfl ⟨by rw[ez,decide_eq_true (p:=1<=s.length/\s.length<=12) ⟨dI.2 iw,by omega⟩,dr];exact congrArg Value.bool (by rw[jR,decide_eq_true_eq];exact yW s),s9⟩
   |exact ab1
   |(have Wf:s=[]:=Classical.not_not.1 iw
     subst Wf;exact aF G G ⟨G,λM=>aW⟩)
  ·refine aj G G G G (aj G G G G (aj G G G G (aA G G G (Rg.aZ G G (aI ?_)))))
   first
   |exact aF rfl rfl ⟨by rw[ez,decide_eq_true (p:=1<=s.length/\s.length<=12) ⟨dI.2 iw,by omega⟩,dr];exact congrArg Value.bool (by rw[jR,decide_eq_true_eq];exact yW s),s9⟩
   |exact ab1
   |(have Wf:s=[]:=Classical.not_not.1 iw
     subst Wf;exact aF G G ⟨G,λM=>aW⟩)
 ·refine aj G G G G (aj G G G G (aj G G G G (aA G G G (ab G G (aj G G G G (aj G G G G (aj G G G G (aA G G G (Rg.aZ G G (aI ?_))))))))))
  first
  |exact aF rfl rfl ⟨by rw[ez,decide_eq_true (p:=1<=s.length/\s.length<=12) ⟨dI.2 iw,by omega⟩,dr];exact congrArg Value.bool (by rw[jR,decide_eq_true_eq];exact yW s),s9⟩
  |exact ab1
  |(have Wf:s=[]:=Classical.not_not.1 iw
    subst Wf;exact aF G G ⟨G,λM=>aW⟩)
theorem Nb {s:List UInt8} (h:∀(k:Nat) c,s[k]? =some c->hY c=true):s.all hY=true:=ec.2 λc hc=>by
 obtain⟨k,hk⟩:=bK.1 hc;exact h k c hk
theorem tH {s:List UInt8} {i:Nat} (h:i<s.length):s[i]? =some (s.getD i 0):=by rw[b4,an h];rfl
theorem ki {M:aL} {w:World} {p:Fd} {v:Value} (h:RT.fd.V M w p v):v= .agg #[.string ⟨p.1.toArray⟩,.string ⟨p.2.toArray⟩]:=by
 obtain⟨vs,⟨va,vb,rfl,⟨rfl,_⟩,⟨rfl,_⟩⟩,rfl⟩:=h;rfl
theorem Nc {M:aL} {w:World} {p:Fd} {v:Value} (h:RT.fd.V M w p v):p.1.length<=140737488355328/\p.2.length<=140737488355328:=by
 obtain⟨vs,⟨va,vb,rfl,⟨rfl,h1⟩,⟨rfl,h2⟩⟩,_⟩:=h;exact⟨h1,h2⟩
def AG:List Fd->List Fd->Nat->Int
 |_,[],n=>if 500<n then 7 else 0
 |seen,f::fs,n=>if ez f.1=false then 4 else if(seen.any λg=>decide (g.1=f.1))=true then 5 else if l7 0 (words f.2)≠0 then l7 0 (words f.2)else AG (seen++[f]) fs (n+(words f.2).length)
def nJ (d:Dc):Int:=if 8<d.2.length then 7 else AG [] d.2 0
theorem IG {fs:List Fd} {i n:Nat} {x:Fd} (h:fs[i]? =some x):AG (fs.take i) (fs.drop i) n=if ez x.1=false then 4 else if((fs.take i).any λg=>decide (g.1=x.1))=true then 5 else if l7 0 (words x.2)≠0 then l7 0 (words x.2)else AG (fs.take (i+1)) (fs.drop (i+1)) (n+(words x.2).length):=by
 have eQ:=(al.1 h).1;rw[eW eQ,(al.1 h).2,b7,h];rfl
theorem tI {fs:List Fd} {i n:Nat} (h:fs.length<=i):AG (fs.take i) (fs.drop i) n=if 500<n then 7 else 0:=by
 rw[ja h];rfl
theorem sk (s:List UInt8) (hs:s.length<=140737488355328) (w0:World):
  Spec Tryz.prog 58 #[.string ⟨s.toArray⟩] w0 (λv w=>v= .bool (ez s)/\w=w0):=by
 refine a7 (args:=[_]) (fn:=Tryz.f58) Tryz.func58 G (n:=28) Tryz.ntmps58 (T.aP (Rg.aZ G G (aK (T.aP (Rg.aZ G G (aX ?_))))));refine cY (σ:=Nat) (λi=>[(0,.string ⟨s.toArray⟩),(3,.int .i64 (i:Int))]) (λi w=>w=w0/\i<=s.length/\∀k c,k<i->s[k]? =some c->hY c=true) (λi=>s.length-i) 0 a68 ?_ ?_
 ·exact⟨G,bp _,λk c h=>absurd h (eC k)⟩
 ·rintro i w ⟨rfl,hi,fY⟩;refine aK (T.aP (ab G G (ab G G (rF az G G (br (v':= .int .i64 (s.length:Int)) a81 (cy G G G (ad ?_)))))));refine bF G (λc2=>?_) (λc2=>?_)
  ·refine aR (aK (aX (T.aP (ab G G (ab G G (Rg.Iu (c:=s.getD i 0) az G G G q0 (by rw[ar];exact tH q0) (cy G G G (ab G G ?_))))))));refine aO (g:=14) G (λahM=>?_) (λahM=>?_)
   ·refine aj G G G G (aj G G G G (aj G G G G (aj G G G G (aU G G G (ad (kA G (T.aP (Rg.aZ G G (aI ?_)))))))))
    have hx:s.all hY=false:=fu.2 λh=>by
     have h2:=ec.1 h _ (au (tH (s:=s) (i:=i) q0));simp only[hY,decide_eq_true_eq]at h2;omega
    exact aF rfl rfl ⟨by rw[ez,hx,Bool.and_false],rfl⟩
   ·refine ae G G (ab G G (ae G G (ab G G (ae G G (Rg.Iu (c:=s.getD i 0) az G G G q0 (by rw[ar];exact tH q0) (ae G G (eN G G G (aA G G G (ad ?_)))))))));refine bF G (λc4=>?_) (λc4=>?_)
    ·refine T.aP (Rg.aZ G G (aI ?_))
     have hx:s.all hY=false:=fu.2 λh=>by
      have h2:=ec.1 h _ (au (tH (s:=s) (i:=i) q0));simp only[hY,decide_eq_true_eq]at h2;omega
     exact aF rfl rfl ⟨by rw[ez,hx,Bool.and_false],rfl⟩
    ·refine aR (aM (ab G G (bC G G G q0 (Rg.aZ G G ?_))));refine⟨G,i+1,a68,?_,?_⟩
     ·exact⟨G,by omega,λk c h hc=>by
       rcases cI k i with h2|h2
       ·exact fY k c h2 hc
       ·obtain rfl:k=i:=by omega
        rw[tH q0]at hc;cases hc;simp only[hY,decide_eq_true_eq];omega⟩
     ·omega
  ·refine cN (T.aP (ab G G (rF az G G (br (v':= .int .i64 (s.length:Int)) a81 (ek G G G (ab G G ?_))))));refine aO (g:=23) G (λpv=>?_) (λpv=>?_)
   ·refine ae G G (ab G G (ae G G (rF az G G (br (v':= .int .i64 (s.length:Int)) a81 (ae G G (fN G G G (aU G G G (Rg.aZ G G (aI ?_)))))))));have ha:s.all hY=true:=Nb λk c hc=>fY k c (by have:=(al.1 hc).1;omega) hc
    first
    |exact aF rfl rfl ⟨by rw[ez,ha,ly];exact congrArg Value.bool (decide_eq_decide.2 q0),G⟩
    |exact aF rfl rfl ⟨by rw[ez,ha,ly];exact congrArg Value.bool (decide_eq_false q0).symm,G⟩
   ·refine aj G G G G (aj G G G G (aj G G G G (aA G G G (Rg.aZ G G (aI ?_)))));have ha:s.all hY=true:=Nb λk c hc=>fY k c (by have:=(al.1 hc).1;omega) hc
    first
    |exact aF rfl rfl ⟨by rw[ez,ha,ly];exact congrArg Value.bool (decide_eq_decide.2 q0),G⟩
    |exact aF rfl rfl ⟨by rw[ez,ha,ly];exact congrArg Value.bool (decide_eq_false q0).symm,G⟩
theorem Ka {M:aL} {o:Fd} {v0:Value} (w0:World) (hM:Lt M w0) (hv:RT.fd.V M w0 o v0) {nm:List UInt8} {t:Value} {bf:Nat} (g:w0.heap[bf]? =some (.cells #[.string ⟨nm.toArray⟩,t] 153 (0,0))) (Bp:M bf):
  Spec Tryz.prog 141 #[v0,.pointer (some ⟨bf,0,none⟩)] w0 (λv w=>v= .bool (decide (o.1=nm))/\Step M w0 M w aD):=by
 refine a7 (args:=[_,_]) (fn:=Tryz.f141) Tryz.func141 G (n:=9) Tryz.ntmps141 ?_;have S:Step M w0 M w0 aD:=aW;refine T.aP ?_;refine Rg.gC (A:=RT.fd) G G hM hv G (λu0 w1 du s0 _=>?_);have:=ah g;replace Bp:=(s0.mem _ this).2 Bp;replace g:=s0.aE g;replace hM:=s0.lt hM;have:=S.size;replace S:=S.av s0;refine Rg.aZ G G (T.aP ?_);refine ao (M:=M) (A:=RT.fd) (B:=RT.str) cE G G I9 QZ (DZ) G G QZ U3 (by repeat (first|exact bN _ _|refine bg (bO U3) ?_)) (λyX kb=>?_);refine bD az G G G G G kb bU (λv1 j9=>?_);obtain rfl:=dS j9;refine aY (o':=0) cE G G I9 QZ G G (aN az G G G U3 G (Rg.sY (p:=o.1) (q:=nm) G G G (Rg.aZ G G (aI ?_))));exact aF G G ⟨G,S⟩
theorem GG {M:aL} {fs:List Fd} {v0:Value} (w0:World) (hM:Lt M w0) (hv:(RT.fd.sl).V M w0 fs v0) {nm:List UInt8} {t:Value} {bf:Nat} (g:w0.heap[bf]? =some (.cells #[.string ⟨nm.toArray⟩,t] 153 (0,0))) (Bp:M bf):
  Spec Tryz.prog 184 #[v0,.func (.func 141) #[] #[.pointer (some ⟨bf,0,none⟩)]] w0 (λv w=>(∃k:Int,v= .int .i64 k/\(0<=k↔(fs.any λg=>decide (g.1=nm))=true)/\ -1<=k/\k<=9223372036854775807)/\Step M w0 M w aD):=by
 have Dj:=cQ hv;refine a7 (args:=[_,_]) (fn:=Tryz.f184) Tryz.func184 G (n:=19) Tryz.ntmps184 ?_;have S:Step M w0 M w0 aD:=aW;refine T.aP (Rg.aZ G G (aK (T.aP (ab G G (bz bA G hv G (ab G G (ad (aX ?_))))))));refine cY (σ:=Nat) (λi=>[(0,v0),(1,.func (.func 141) #[] #[.pointer (some ⟨bf,0,none⟩)]),(6,v0),(7,.int .i64 (fs.length:Int)),(8,.int .i64 (i:Int))]) (λi w=>Lt M w/\Step M w0 M w aD/\(w.heap[bf]? =some (.cells #[.string ⟨nm.toArray⟩,t] 153 (0,0)))/\(RT.fd.sl).V M w fs v0/\i<=fs.length/\∀k o,k<i->fs[k]? =some o->o.1≠nm) (λi=>fs.length-i) 0 a05 ?_ ?_
 ·exact⟨hM,S,g,hv,bp _,λk c h=>absurd h (eC k)⟩
 ·rintro i w ⟨hM,S,g,hv,hi,fY⟩;refine T.aP (cy G G G (ad (aK ?_)));refine bF G (λc2=>?_) (λc2=>?_)
  ·refine aR (aK (aX (T.aP (ab G G (Rg.aZ G G (T.aP (ab G G (ab G G ?_))))))));refine ab G G ?_;refine cB bA jW G G G hv bU q0 (λu4 o Gw Ls=>?_);refine bR (A:=RT.fd) cE G jW QZ G G G Ls bU (λv4 pK=>?_);rw[ar]at Gw;refine uI (first:=[]) (captured:=[.pointer (some ⟨bf,0,none⟩)]) G G G agG (Ka _ hM pK g Bp) (λr5 w5 hc=>?_);obtain⟨rfl,s5⟩:=hc;have:=ah g;replace Bp:=(s5.mem _ this).2 Bp;replace g:=s5.aE g;replace hv:=hv.le s5.le;replace hM:=s5.lt hM;have:=S.size;replace S:=S.av s5;refine ad ?_;refine bF G (λc4=>?_) (λc4=>?_)
   ·refine T.aP (ab G G (Rg.aZ G G (aI ?_)));exact aF rfl rfl ⟨⟨_,rfl,⟨λ_=>jk.2 ⟨o,au Gw,by simpa using U3⟩,λ_=>by omega⟩,by omega,by omega⟩,S.back⟩
   ·refine aR (aM (bC G G G q0 (ab G G (ad ?_))));refine⟨G,i+1,a05,?_,?_⟩
    ·exact⟨hM,S,g,hv,by omega,λk o' h hc=>by
      rcases cI k i with h2|h2
      ·exact fY k o' h2 hc
      ·obtain rfl:k=i:=by omega
       rw[Gw]at hc;cases hc;assumption⟩
    ·omega
  ·refine cN (T.aP (Rg.aZ G G (aI ?_)))
   exact aF G G ⟨⟨-1,G,⟨λh=>by omega,λh=>by
    obtain⟨o,ho,he⟩:=jk.1 h;obtain⟨k,hk⟩:=bK.1 ho;exact absurd (by simpa using he) (fY k o (by have:=(al.1 hk).1;omega) hk)⟩,by omega,by omega⟩,S.back⟩
theorem Ef {M:aL} {fs:List Fd} {v0:Value} (w0:World) (hM:Lt M w0) (hv:(RT.fd.sl).V M w0 fs v0) {nm:List UInt8} {t:Value} {bf:Nat} (g:w0.heap[bf]? =some (.cells #[.string ⟨nm.toArray⟩,t] 153 (0,0))) (Bp:M bf):
  Spec Tryz.prog 140 #[v0,.func (.func 141) #[] #[.pointer (some ⟨bf,0,none⟩)]] w0 (λv w=>v= .bool (fs.any λg=>decide (g.1=nm))/\Step M w0 M w aD):=by
 refine a7 (args:=[_,_]) (fn:=Tryz.f140) Tryz.func140 G (n:=9) Tryz.ntmps140 ?_;have S:Step M w0 M w0 aD:=aW;refine T.aP (Rg.aZ G G (T.aP (ab G G (ab G G ?_))));refine aQ G G agO (GG _ hM hv g Bp) (λr1 w1 hc=>?_);obtain⟨⟨k,rfl,hk,_⟩,s1⟩:=hc;have:=ah g;replace Bp:=(s1.mem _ this).2 Bp;replace g:=s1.aE g;replace hv:=hv.le s1.le;replace hM:=s1.lt hM;have:=S.size;replace S:=S.av s1;refine ek G G G (Rg.aZ G G (aI ?_));exact aF rfl rfl ⟨congrArg Value.bool (by rw[jR,decide_eq_true_eq];exact hk),S⟩
theorem Nd {M:aL} {d:Dc} {v0:Value} (w0:World) (hM:Lt M w0) (hv:RT.dc.V M w0 d v0) (hl:∀f∈d.2,f.1.length<=900000/\f.2.length<=900000):
  Spec Tryz.prog 93 #[v0] w0 (λv w=>v= .int .i64 (nJ d)/\Step M w0 M w aD):=by
 have gX:=hM;refine a7 (args:=[_]) (fn:=Tryz.f93) Tryz.func93 G (n:=49) Tryz.ntmps93 ?_;have S:Step M w0 M w0 aD:=aW;refine T.aP ?_;refine Rg.gC (A:=RT.dc) G G hM hv G (λu0 w1 du s0 _=>?_);replace hM:=s0.lt hM;have:=S.size;replace S:=S.av s0;refine Rg.aZ G G (aK (T.aP ?_));refine ao (M:=M) (A:=RT.dc) (B:=(RT.fd).sl) aT G G sN QZ (F6) G G QZ U3 (by repeat (first|exact bN _ _|refine bg (bO U3) ?_)) (λyX kb=>?_);refine bD (M:=M) bA G G G G G U3 (by repeat (first|exact bN _ _|refine bg (bO U3) ?_)) (λxx kO=>?_);refine bz bA G kO G (eN G G G (ad ?_));refine bF G (λc1=>?_) (λc1=>?_)
 ·refine T.aP (Rg.aZ G G (aI ?_));exact aF rfl rfl ⟨by rw[nJ,if_pos q0],S.back⟩
 ·refine aR (T.aP (Rg.aZ G G (aK (T.aP ?_))));refine ao (M:=M) (A:=RT.dc) (B:=(RT.fd).sl) aT G G sN QZ (F6) G G QZ U3 (by repeat (first|exact bN _ _|refine bg (bO U3) ?_)) (λKb rq=>?_);refine bD (M:=M) bA G G G G G U3 (by repeat (first|exact bN _ _|refine bg (bO U3) ?_)) (λGH nK=>?_);refine bz bA G nK G (ab G G (ad (aX ?_)));refine cY (σ:=Nat×Nat) (λq=>[(1,u0),(3,.int .i64 (q.2:Int)),(13,GH),(14,.int .i64 (d.2.length:Int)),(15,.int .i64 (q.1:Int))]) (λq w=>∃M',Lt M' w/\Step M w0 M' w aD/\cM RT.dc M' w u0 d/\(RT.fd.sl).V M' w d.2 GH/\nJ d=AG (d.2.take q.1) (d.2.drop q.1) q.2/\q.1<=d.2.length/\q.2<=900001*q.1) (λq=>d.2.length-q.1) (0,0) a05 ?_ ?_
  ·exact⟨M,hM,S,du,nK,by rw[nJ,if_neg q0];rfl,bp _,bu _⟩
  ·rintro⟨i,n⟩ w ⟨M1,hM,S,du,mV,GI,hi,hn⟩;dsimp only at GI hi hn ⊢;refine T.aP (cy G G G (ad (aK ?_)));refine bF G (λc5=>?_) (λc5=>?_)
   ·refine aR (aK (aX (T.aP (ab G G ?_))));refine cB bA jW G G G mV bU q0 (λu6 x Lu tF=>?_);refine bR (A:=RT.fd) cE G jW QZ G G G tF bU (λv6 pw=>?_);rw[ar]at Lu;obtain rfl:=ki pw;have kI:=IG (n:=n) Lu;have xm:=hl _ (au Lu);refine eB M1 jW G (λWg ahN arb arc pv Nf=>?_);obtain⟨Eg,Ng⟩:∃M',M'=ins M1 Wg:=⟨_,rfl⟩;rw[<-Ng]at Nf;have l8:Eg Wg:=by rw[Ng];exact .inl G
    change ahN.heap[Wg]? =some (.cells #[.string ⟨#[]⟩,.string ⟨#[]⟩] _ _)at pv;replace du:=du.le QZ Nf.le;replace mV:=mV.le Nf.le;replace hM:=Nf.lt hM;have:=S.size;replace S:=S.av Nf;refine aG G G ?_;refine dP (M:=Eg) (vs:=[.string ⟨x.1.toArray⟩,.string ⟨x.2.toArray⟩]) jW G G (by intro u hu;simp at hu;rcases hu with rfl|rfl<;>rfl) rfl rfl pv l8 (λw6 g6 s6=>?_);have:=ah pv;replace l8:=(s6.mem _ this).2 l8;replace du:=du.le QZ s6.le;replace mV:=mV.le s6.le;replace hM:=s6.lt hM;have:=S.size;replace S:=S.trans s6 (λk hk h=>by have h:_=_:=h;subst h;first|(exfalso;omega)|(show _<=_;omega)|exact⟨by first|omega|assumption,(S.mem _ hk).1 ((s6.mem _ (ah pv)).1 l8)⟩|exact .inl rfl|exact .inr rfl|exact .inr (.inl rfl)|exact .inr (.inr rfl)|exact .inr (.inr (.inl rfl))|exact rfl);have T1:=g6;clear pv;have pv:=T1;clear T1;refine ad (T.aP (aY (o':=1) cE G G I9 QZ G G (aN az G G G U3 G ?_)));refine aQ G G agE (J7 _ hM xm.2) (λr7 w7 hc=>?_);obtain⟨⟨u7,rfl,hu7⟩,s7⟩:=hc;have:=ah pv;replace l8:=(s7.mem _ this).2 l8;replace pv:=s7.aE pv;replace du:=du.le QZ s7.le;replace mV:=mV.le s7.le;replace hM:=s7.lt hM;have:=S.size;replace S:=S.av s7;refine ab G G (cD G G G (cD G G G (aG G G (Rg.aZ G G (aK (aX (T.aP (aY (o':=0) cE G G I9 QZ G G (aN az G G G U3 G ?_)))))))));refine aQ G G VP (vF x.1 q0 _) (λr8 w8 hc=>?_);obtain⟨rfl,s8_⟩:=hc;have s8:=s8_ Eg;have:=ah pv;replace l8:=(s8.mem _ this).2 l8;replace pv:=s8.aE pv;replace du:=du.le QZ s8.le;replace mV:=mV.le s8.le;replace hM:=s8.lt hM;have:=S.size;replace S:=S.av s8
    refine ib rfl rfl (br (v':= .bool (decide (ez x.1=false))) (by cases ez x.1<;>rfl) (Rg.aZ rfl rfl ?_));refine bF G (λc8=>?_) (λc8=>?_)
    ·refine T.aP (Rg.aZ G G (aI ?_));exact aF rfl rfl ⟨by rw[GI,kI,if_pos U3],S.back⟩
    ·refine T.aP ?_;refine ao (M:=Eg) (A:=RT.dc) (B:=(RT.fd).sl) aT G G sN QZ (F6) G G QZ U3 (by repeat (first|exact bN _ _|refine bg (bO U3) ?_)) (λNh yY=>?_);refine bD (M:=Eg) bA G G G G G U3 (by repeat (first|exact bN _ _|refine bg (bO U3) ?_)) (λaaU Ni=>?_);refine ab G G ?_;refine Rg.Io bA jW G G G Ni q0 (λIH mC=>?_);rw[ar]at mC;refine jj (xs:=[]) (ys:=[.tmp 5]) G G G ?_;refine aQ G G agF (Ef _ hM mC pv l8) (λr10 w10 hc=>?_);obtain⟨rfl,uG⟩:=hc;have:=ah pv;replace l8:=(uG.mem _ this).2 l8;replace pv:=uG.aE pv;replace du:=du.le QZ uG.le;replace mV:=mV.le uG.le;replace hM:=uG.lt hM;have:=S.size;replace S:=S.av uG;refine aG rfl rfl (br (v':= .bool (decide (((d.2.take i).any λg=>decide (g.1=x.1))=true))) (by cases((d.2.take i).any λg=>decide (g.1=x.1))<;>rfl) (ad ?_));refine bF G (λJ3=>?_) (λJ3=>?_)
     ·refine T.aP (Rg.aZ G G (aI ?_));exact aF rfl rfl ⟨by rw[GI,kI,if_neg U3,if_pos U3],S.back⟩
     ·refine T.aP (ab G G (eV G G G (Rg.aZ G G ?_)));refine bF G (λMM=>?_) (λMM=>?_)
      ·refine T.aP (ab G G (Rg.aZ G G (aI ?_)));exact aF rfl rfl ⟨by rw[GI,kI,if_neg U3,if_neg U3,if_pos U3];rfl,S.back⟩
      ·refine aR (aM (ab G G ?_));have htk:l7 0 (words x.2)=0:=Classical.not_not.1 MM;obtain⟨a,cap,rfl⟩:=hu7 htk;have Nj:=lC x.2;refine ab G G (Rg.Cn Tryz.underlying154 G G (bC G G G q0 (Rg.aZ G G (aM (bC G G G q0 (ab G G (ad ?_)))))));refine⟨G,(i+1,n+(words x.2).length),a05,?_,?_⟩
       ·exact⟨_,hM,S,du,mV,by rw[GI,kI,if_neg U3,if_neg U3,if_neg MM],by dsimp only;omega,by dsimp only;omega⟩
       ·dsimp only;omega
   ·refine cN (aK (T.aP (ab G G (eN G G G (ad ?_)))));refine bF G (λF8=>?_) (λF8=>?_)
    ·refine T.aP (Rg.aZ G G (aI ?_));exact aF rfl rfl ⟨by rw[GI,tI q0,if_pos q0],S.back⟩
    ·refine aR (T.aP (Rg.aZ G G (aI ?_)));exact aF rfl rfl ⟨by rw[GI,tI q0,if_neg q0],S.back⟩
end Go.K
