/- What the law 'MatchAlike' needs of walks and plain Lean, part 2: nothing is assumed beyond the texts that it imports. -/
import Derived.ChangeKeysEq
import Derived.Ground.Names2Prog
import Derived.KernelRfl
import Derived.Laws.IdiomCopy
import Derived.Laws.MakeOwn
import Derived.Laws.StructEq
import Derived.Lib.RuneBytes
import Derived.Lib.SliceRun
import Derived.Maps.OwnSet
import Derived.Shelf.SlGeneric
import Derived.Shelf.Slices.SearchI
import Derived.Shelf.Small.Strs
import Derived.Shelf.Small.Utf8
import Derived.Shelf.Strings.Builder1
import Derived.Shelf.Strings.BuilderRune
import Derived.Shelf.Strings.SlTrimAscii
import Derived.Test.YtaobajlebdchhaaGreatDoorProg
import Derived.Test.YtaobajlebdchhaaGreatDoorZMatchAlike1
set_option linter.unusedVariables false
set_option linter.unusedSimpArgs false
theorem ab:type_of% @Go.K.Rg.move:=@Go.K.Rg.move
theorem ad:type_of% @Go.K.Rg.nil:=@Go.K.Rg.nil
theorem ah:type_of% @Go.K.Rg.aC:=@Go.K.Rg.aC
theorem aj:type_of% @Go.K.Rg.bH:=@Go.K.Rg.bH
theorem ak:type_of% @Go.Proofs.Tryz.underlying3:=@Go.Proofs.Tryz.underlying3
theorem al:type_of% @List.getElem?_eq_some_iff:=@List.getElem?_eq_some_iff
theorem an:type_of% @List.getElem?_eq_getElem:=@List.getElem?_eq_getElem
theorem ao:type_of% @List.mem_of_getElem?:=@List.mem_of_getElem?
theorem ar:type_of% @Go.K.Rg.fieldAddr:=@Go.K.Rg.fieldAddr
theorem au:type_of% @Go.Proofs.Tryz.underlying28:=@Go.Proofs.Tryz.underlying28
theorem av:type_of% @Go.Proofs.Tryz.underlying61:=@Go.Proofs.Tryz.underlying61
theorem aw:type_of% @Int.toNat_natCast:=@Int.toNat_natCast
theorem ay:type_of% @Go.K.bC.cons:=@Go.K.bC.cons
theorem az:type_of% @Go.K.Rg.bz:=@Go.K.Rg.bz
theorem aA:type_of% @Go.Proofs.Tryz.underlying9:=@Go.Proofs.Tryz.underlying9
theorem aD:type_of% @Go.Proofs.Tryz.underlying25:=@Go.Proofs.Tryz.underlying25
theorem aF:type_of% @Go.K.Rg.assign:=@Go.K.Rg.assign
theorem aG:type_of% @Go.K.Rg.bQ:=@Go.K.Rg.bQ
theorem aI:type_of% @Go.K.cp.cons:=@Go.K.cp.cons
theorem aJ:type_of% @Go.K.T.ret:=@Go.K.T.ret
theorem aK:type_of% @Option.some.inj:=@Option.some.inj
theorem aL:type_of% @Go.K.T.region:=@Go.K.T.region
theorem aN:type_of% @Go.K.T.seq:=@Go.K.T.seq
theorem aO:type_of% @Go.K.Rg.bA:=@Go.K.Rg.bA
theorem aQ:type_of% @Go.K.Rg.call:=@Go.K.Rg.call
theorem aR:type_of% @Go.K.T.skip:=@Go.K.T.skip
theorem aS:type_of% @Go.Proofs.Tryz.underlying36:=@Go.Proofs.Tryz.underlying36
theorem aT:type_of% @Go.K.Rg.bS:=@Go.K.Rg.bS
theorem aU:type_of% @Go.K.Rg.bZ:=@Go.K.Rg.bZ
theorem aW:type_of% @Go.K.Rg.nilCheck:=@Go.K.Rg.nilCheck
theorem aX:type_of% @Go.K.Le.trans:=@Go.K.Le.trans
theorem aY:type_of% @Go.K.T.block:=@Go.K.T.block
theorem a7:type_of% @List.length_take:=@List.length_take
theorem bh:type_of% @Go.K.Rg.eqv:=@Go.K.Rg.eqv
theorem bm:type_of% @Nat.zero_le:=@Nat.zero_le
theorem bp:type_of% @Go.Proofs.Tryz.underlying72:=@Go.Proofs.Tryz.underlying72
theorem br:type_of% @Nat.le_refl:=@Nat.le_refl
theorem bu:type_of% @Go.Proofs.Tryz.underlying117:=@Go.Proofs.Tryz.underlying117
theorem bB:type_of% @Go.K.Rg.cU:=@Go.K.Rg.cU
theorem bD:type_of% @List.take_of_length_le:=@List.take_of_length_le
theorem bE:type_of% @Go.Proofs.Tryz.underlying70:=@Go.Proofs.Tryz.underlying70
theorem bF:type_of% @Go.K.T.dO:=@Go.K.T.dO
theorem bG:type_of% @List.length_append:=@List.length_append
theorem bI:type_of% @Go.K.Le.refl:=@Go.K.Le.refl
theorem bJ:type_of% @Go.K.Step.le:=@Go.K.Step.le
theorem bK:type_of% @Go.Proofs.Tryz.underlying24:=@Go.Proofs.Tryz.underlying24
theorem bL:type_of% @List.mem_cons_self:=@List.mem_cons_self
theorem bN:type_of% @Go.K.Rg.cG:=@Go.K.Rg.cG
theorem bO:type_of% @List.mem_iff_getElem?:=@List.mem_iff_getElem?
theorem bP:type_of% @Go.K.Rg.load:=@Go.K.Rg.load
theorem bT:type_of% @Go.Proofs.Tryz.underlying293:=@Go.Proofs.Tryz.underlying293
theorem bU:type_of% @Go.Proofs.Tryz.underlying323:=@Go.Proofs.Tryz.underlying323
theorem bW:type_of% @List.length_map:=@List.length_map
theorem bX:type_of% @List.take_add_one:=@List.take_add_one
theorem bY:type_of% @Go.K.Step.aB:=@Go.K.Step.aB
theorem b4:type_of% @Go.K.Rg.cJ:=@Go.K.Rg.cJ
theorem b7:type_of% @Bool.and_eq_true:=@Bool.and_eq_true
theorem b9:type_of% @Go.Proofs.Tryz.underlying188:=@Go.Proofs.Tryz.underlying188
theorem cg:type_of% @Go.K.Rg.dd:=@Go.K.Rg.dd
theorem ck:type_of% @Go.Proofs.Tryz.underlying26:=@Go.Proofs.Tryz.underlying26
theorem cn:type_of% @List.mem_cons_of_mem:=@List.mem_cons_of_mem
theorem cq:type_of% @Go.K.Rg.extract:=@Go.K.Rg.extract
theorem cr:type_of% @Decidable.not_not:=@Decidable.not_not
theorem cu:type_of% @List.getD_eq_getElem?_getD:=@List.getD_eq_getElem?_getD
theorem cv:type_of% @Go.K.Rg.cW:=@Go.K.Rg.cW
theorem cx:type_of% @List.mem_map:=@List.mem_map
theorem cy:type_of% @Go.K.Rg.gh:=@Go.K.Rg.gh
theorem cz:type_of% @List.length_cons:=@List.length_cons
theorem cA:type_of% @Go.Sem.run_bind:=@Go.Sem.run_bind
theorem cC:type_of% @Go.K.Rg.ey:=@Go.K.Rg.ey
theorem cD:type_of% @Go.K.Rg.idx:=@Go.K.Rg.idx
theorem cE:type_of% @List.length_eq_zero_iff:=@List.length_eq_zero_iff
theorem cF:type_of% @Go.Proofs.Tryz.underlying153:=@Go.Proofs.Tryz.underlying153
theorem cK:type_of% @Nat.lt_or_ge:=@Nat.lt_or_ge
theorem cM:type_of% @Go.K.Rg.de:=@Go.K.Rg.de
theorem cN:type_of% @List.length_drop:=@List.length_drop
theorem cO:type_of% @List.mem_singleton:=@List.mem_singleton
theorem cP:type_of% @Go.Proofs.Tryz.underlying5:=@Go.Proofs.Tryz.underlying5
theorem cQ:type_of% @Go.K.T.exit:=@Go.K.T.exit
theorem cT:type_of% @Go.Result.andThen_ok:=@Go.Result.andThen_ok
theorem cY:type_of% @List.mem_cons:=@List.mem_cons
theorem db:type_of% @Go.Proofs.Tryz.underlying261:=@Go.Proofs.Tryz.underlying261
theorem dg:type_of% @Go.K.Rg.build:=@Go.K.Rg.build
theorem dq:type_of% @Go.Proofs.Tryz.underlying114:=@Go.Proofs.Tryz.underlying114
theorem dr:type_of% @Bool.true_and:=@Bool.true_and
theorem du:type_of% @Nat.le_trans:=@Nat.le_trans
theorem dv:type_of% @Array.getElem?_setIfInBounds:=@Array.getElem?_setIfInBounds
theorem dw:type_of% @List.mem_append:=@List.mem_append
theorem dx:type_of% @Option.toList_some:=@Option.toList_some
theorem dz:type_of% @Go.K.T.loop:=@Go.K.T.loop
theorem dB:type_of% @Go.Proofs.Tryz.underlying45:=@Go.Proofs.Tryz.underlying45
theorem dE:type_of% @List.getElem?_eq_none:=@List.getElem?_eq_none
theorem dH:type_of% @Go.K.Rg.append:=@Go.K.Rg.append
theorem dI:type_of% @List.getElem?_take:=@List.getElem?_take
theorem dJ:type_of% @Eq.symm:=@Eq.symm
theorem dL:type_of% @Go.Proofs.Tryz.underlying250:=@Go.Proofs.Tryz.underlying250
theorem dM:type_of% @Go.Proofs.Tryz.underlying126:=@Go.Proofs.Tryz.underlying126
theorem dV:type_of% @List.pairwise_map:=@List.pairwise_map
theorem dY:type_of% @Go.Proofs.Tryz.underlying182:=@Go.Proofs.Tryz.underlying182
theorem ec:type_of% @Go.K.Rg.alloc:=@Go.K.Rg.alloc
theorem ed:type_of% @Go.K.Rg.kA:=@Go.K.Rg.kA
theorem ef:type_of% @Go.Proofs.Tryz.underlying74:=@Go.Proofs.Tryz.underlying74
theorem eg:type_of% @Go.Proofs.Tryz.underlying296:=@Go.Proofs.Tryz.underlying296
theorem eh:type_of% @List.length_pos_iff:=@List.length_pos_iff
theorem eu:type_of% @List.map_append:=@List.map_append
theorem ew:type_of% @List.all_eq_true:=@List.all_eq_true
theorem eC:type_of% @Go.K.Rg.eH:=@Go.K.Rg.eH
theorem eG:type_of% @Go.K.Own.nil:=@Go.K.Own.nil
theorem eJ:type_of% @List.length_singleton:=@List.length_singleton
theorem eL:type_of% @Bool.false_and:=@Bool.false_and
theorem eN:type_of% @List.getElem?_map:=@List.getElem?_map
theorem eO:type_of% @List.getElem?_set:=@List.getElem?_set
theorem eR:type_of% @List.drop_eq_getElem_cons:=@List.drop_eq_getElem_cons
theorem eT:type_of% @List.drop_eq_nil_of_le:=@List.drop_eq_nil_of_le
theorem eV:type_of% @Go.K.Part.snd:=@Go.K.Part.snd
theorem eW:type_of% @Go.K.Rg.mc:=@Go.K.Rg.mc
theorem fa:type_of% @Go.Proofs.Tryz.underlying249:=@Go.Proofs.Tryz.underlying249
theorem fc:type_of% @Go.Proofs.Tryz.underlying294:=@Go.Proofs.Tryz.underlying294
theorem fe:type_of% @List.map_cons:=@List.map_cons
theorem fi:type_of% @List.length_filter_le:=@List.length_filter_le
theorem fk:type_of% @Nat.lt_trichotomy:=@Nat.lt_trichotomy
theorem fm:type_of% @Bool.eq_false_iff:=@Bool.eq_false_iff
theorem fp:type_of% @Go.K.Rg.mX:=@Go.K.Rg.mX
theorem fz:type_of% @List.append_nil:=@List.append_nil
theorem fA:type_of% @Option.map_some:=@Option.map_some
theorem fB:type_of% @Nat.not_lt_zero:=@Nat.not_lt_zero
theorem fE:type_of% @Go.Proofs.Tryz.underlying128:=@Go.Proofs.Tryz.underlying128
theorem fL:type_of% @List.mem_map_of_mem:=@List.mem_map_of_mem
theorem fQ:type_of% @Go.K.Rg.oR:=@Go.K.Rg.oR
theorem fR:type_of% @List.take_append_drop:=@List.take_append_drop
theorem fS:type_of% @List.contains_iff_mem:=@List.contains_iff_mem
theorem fU:type_of% @Go.K.Rg.o6:=@Go.K.Rg.o6
theorem gm:type_of% @Go.K.mA.nil:=@Go.K.mA.nil
theorem gp:type_of% @Go.Proofs.Tryz.underlying122:=@Go.Proofs.Tryz.underlying122
theorem gC:type_of% @List.take_succ_eq_append_getElem:=@List.take_succ_eq_append_getElem
theorem gD:type_of% @Go.K.cH.load:=@Go.K.cH.load
theorem gT:type_of% @Go.Proofs.Tryz.underlying29:=@Go.Proofs.Tryz.underlying29
theorem gU:type_of% @Decidable.byContradiction:=@Decidable.byContradiction
theorem gX:type_of% @List.take_eq_take_iff:=@List.take_eq_take_iff
theorem gY:type_of% @List.getElem?_drop:=@List.getElem?_drop
theorem gZ:type_of% @List.filter_append:=@List.filter_append
theorem ic:type_of% @Go.K.Rg.qP:=@Go.K.Rg.qP
theorem im:type_of% @Go.Proofs.Tryz.underlying180:=@Go.Proofs.Tryz.underlying180
theorem iq:type_of% @Go.Proofs.Tryz.underlying274:=@Go.Proofs.Tryz.underlying274
theorem iv:type_of% @Go.K.Rg.not:=@Go.K.Rg.not
theorem iD:type_of% @List.ext_getElem?:=@List.ext_getElem?
theorem iE:type_of% @List.foldl_append:=@List.foldl_append
theorem iH:type_of% @List.nil_append:=@List.nil_append
theorem iQ:type_of% @Go.K.Rg.iI:=@Go.K.Rg.iI
theorem iS:type_of% @Go.K.T.iff:=@Go.K.T.iff
theorem iV:type_of% @List.drop_of_length_le:=@List.drop_of_length_le
theorem jd:type_of% @Go.K.Rg.makeFunc:=@Go.K.Rg.makeFunc
theorem jq:type_of% @List.getElem?_append_right:=@List.getElem?_append_right
theorem jr:type_of% @List.pairwise_cons:=@List.pairwise_cons
theorem jw:type_of% @Go.K.Rg.lv:=@Go.K.Rg.lv
theorem jz:type_of% @Go.K.Part.fst:=@Go.K.Part.fst
theorem jA:type_of% @Go.Proofs.Tryz.underlying183:=@Go.Proofs.Tryz.underlying183
theorem jE:type_of% @List.length_nil:=@List.length_nil
theorem jF:type_of% @Bool.eq_iff_iff:=@Bool.eq_iff_iff
theorem jG:type_of% @List.mem_filter:=@List.mem_filter
theorem jL:type_of% @Go.IntWalk.i64_in:=@Go.IntWalk.i64_in
theorem jM:type_of% @List.mem_append_left:=@List.mem_append_left
theorem jP:type_of% @Go.K.cH.field:=@Go.K.cH.field
theorem jR:type_of% @Nat.lt_irrefl:=@Nat.lt_irrefl
theorem jS:type_of% @Go.K.bC.nil:=@Go.K.bC.nil
theorem j1:type_of% @Go.K.iL.all:=@Go.K.iL.all
theorem kJ:type_of% @Go.K.T.qN:=@Go.K.T.qN
theorem k5:type_of% @Bool.and_true:=@Bool.and_true
theorem ll:type_of% @List.getElem?_toArray:=@List.getElem?_toArray
theorem lp:type_of% @Go.Proofs.Tryz.underlying238:=@Go.Proofs.Tryz.underlying238
theorem lr:type_of% @Go.Proofs.Tryz.underlying301:=@Go.Proofs.Tryz.underlying301
theorem l6:type_of% @List.append_assoc:=@List.append_assoc
theorem l7:type_of% @Go.Sem.run_pure:=@Go.Sem.run_pure
theorem l8:type_of% @Go.DataW.weights_mem_each:=@Go.DataW.weights_mem_each
theorem l9:type_of% @Go.K.fI.refl:=@Go.K.fI.refl
theorem mW:type_of% @Go.Proofs.Tryz.zeroValue9:=@Go.Proofs.Tryz.zeroValue9
theorem nd:type_of% @Nat.zero_add:=@Nat.zero_add
theorem nf:type_of% @List.any_eq_true:=@List.any_eq_true
theorem ng:type_of% @List.cons_append:=@List.cons_append
theorem nT:type_of% @Go.K.Le.close:=@Go.K.Le.close
theorem oQ:type_of% @Go.K.Rg.kc:=@Go.K.Rg.kc
theorem o2:type_of% @Go.K.Rg.box:=@Go.K.Rg.box
theorem pB:type_of% @Option.map_none:=@Option.map_none
theorem pC:type_of% @List.foldl_cons:=@List.foldl_cons
theorem pG:type_of% @BitVec.toNat_ofInt:=@BitVec.toNat_ofInt
theorem pH:type_of% @Nat.eq_or_lt_of_le:=@Nat.eq_or_lt_of_le
theorem qi:type_of% @Int.le_refl:=@Int.le_refl
theorem qj:type_of% @List.filter_cons_of_pos:=@List.filter_cons_of_pos
theorem qA:type_of% @Go.K.qD.none:=@Go.K.qD.none
theorem rp:type_of% @Go.K.Rg.kK:=@Go.K.Rg.kK
theorem rq:type_of% @Go.K.ux.nil:=@Go.K.ux.nil
theorem rr:type_of% @Bool.not_eq_true':=@Bool.not_eq_true'
theorem ru:type_of% @Go.Proofs.Tryz.underlying205:=@Go.Proofs.Tryz.underlying205
theorem rv:type_of% @Go.K.cH.move:=@Go.K.cH.move
theorem ry:type_of% @Go.Proofs.Tryz.underlying269:=@Go.Proofs.Tryz.underlying269
theorem rz:type_of% @Go.Proofs.Tryz.underlying267:=@Go.Proofs.Tryz.underlying267
theorem ug:type_of% @Array.getElem?_modify:=@Array.getElem?_modify
theorem uj:type_of% @List.map_toArray:=@List.map_toArray
theorem uk:type_of% @Go.K.Rg.ni:=@Go.K.Rg.ni
theorem um:type_of% @Go.K.T.kb:=@Go.K.T.kb
theorem vJ:type_of% @Go.K.Rg.conv:=@Go.K.Rg.conv
theorem vK:type_of% @Go.Proofs.Tryz.underlying32:=@Go.Proofs.Tryz.underlying32
theorem wH:type_of% @Nat.pow_le_pow_right:=@Nat.pow_le_pow_right
theorem xd:type_of% @Go.K.Own.close:=@Go.K.Own.close
theorem xA:type_of% @Nat.min_eq_left:=@Nat.min_eq_left
theorem xB:type_of% @List.cons.injEq:=@List.cons.injEq
theorem zM:type_of% @Int.toNat_of_nonneg:=@Int.toNat_of_nonneg
theorem zN:type_of% @List.getD_cons_zero:=@List.getD_cons_zero
theorem zO:type_of% @List.getD_cons_succ:=@List.getD_cons_succ
theorem zR:type_of% @List.map_nil:=@List.map_nil
theorem zS:type_of% @Go.Proofs.Tryz.underlying0:=@Go.Proofs.Tryz.underlying0
theorem zT:type_of% @Go.Proofs.Tryz.sizeOf9:=@Go.Proofs.Tryz.sizeOf9
theorem zU:type_of% @Go.Proofs.Tryz.underlying4:=@Go.Proofs.Tryz.underlying4
theorem zV:type_of% @Go.K.cp.nil:=@Go.K.cp.nil
namespace Go.K
abbrev Po:=Int×List Int
abbrev Bl:=Int×Int×Int×Int
abbrev Li:=List UInt8×List Bl×Int
abbrev RT.po:RT Po:=RT.pair (RT.int .i64) ((RT.int .i64).sl)
abbrev RT.bl:RT Bl:=RT.pair (RT.int .i64) (RT.pair (RT.int .i64) (RT.pair (RT.int .i64) (RT.int .i64)))
abbrev RT.li:RT Li:=RT.pair (RT.u8.sl) (RT.pair ((RT.bl).sl) (RT.int .i64))
theorem PX:Part RT.po (RT.int .i64) (λp=>p.1) 0:=jz _ _
theorem UM:Part RT.po ((RT.int .i64).sl) (λp=>p.2) 1:=eV _ _
theorem bl0:Part RT.bl (RT.int .i64) (λb=>b.1) 0:=jz _ _
theorem bl1:Part RT.bl (RT.int .i64) (λb=>b.2.1) 1:=(eV _ _).trans (jz _ _)
theorem bl2:Part RT.bl (RT.int .i64) (λb=>b.2.2.1) 2:=(eV _ _).trans ((eV _ _).trans (jz _ _))
theorem bl3:Part RT.bl (RT.int .i64) (λb=>b.2.2.2) 3:=(eV _ _).trans ((eV _ _).trans (eV _ _))
theorem li0:Part RT.li (RT.u8.sl) (λx=>x.1) 0:=jz _ _
theorem li1:Part RT.li ((RT.bl).sl) (λx=>x.2.1) 1:=(eV _ _).trans (jz _ _)
def Lv (n:Nat) (k:Int):Bool:=decide (0<=k/\k<n)
def C7 (bs:List Bl) (k:Int):Int:=if Lv bs.length k then(bs.getD k.toNat (0,0,0,0)).2.2.1 else-1
def ei:Int->List Po->List UInt8
 |_,[]=>[]
 |last,(d,ps)::l=>put (d-last-1).toNat++eM ps++ei d l
def cI:Int->List Po->Int
 |last,[]=>last
 |_,(d,_)::l=>cI d l
def iX (l:List Po):Int:=(l.map λp=>(p.2.length:Int)).sum
theorem sY (l l':List Po) (last:Int):ei last (l++l')=ei last l++ei (cI last l) l':=by
 induction l generalizing last with
 |nil=>rfl
 |cons p l ih=>obtain⟨d,ps⟩:=p;simp[ei,cI,ih]
theorem zZ (l l':List Po) (last:Int):cI last (l++l')=cI (cI last l) l':=by
 induction l generalizing last with
 |nil=>rfl
 |cons p l ih=>obtain⟨d,ps⟩:=p;simp[cI,ih]
theorem ta (l l':List Po):iX (l++l')=iX l+iX l':=by simp[iX]
def tb (l:List Po) (k:Nat):Bl:=((ei (-1) (l.take (8*k))).length,cI (-1) (l.take (8*k)),cI (-1) (l.take (8*k+8)),((l.drop (8*k)).take 8).length)
def o9 (l:List Po) (m:Nat):List Bl:=(List.range m).map (tb l)
def kG (l:List Po):Li:=(ei (-1) l,o9 l ((l.length+7)/8),iX l)
def n4 (l:List Int):Bool:=fT (-1) l&&l.all (λn=>decide (n<2147483648))
def ez:Int->List Po->Bool
 |_,[]=>true
 |last,(d,ps)::l=>decide (last<d)&&decide (d<2147483648)&& !ps.isEmpty&&n4 ps&&ez d l
theorem pO:∀{l:List Po} {i:Nat} {last d:Int} {ps:List Int},ez last l=true->l[i]? =some (d,ps)->
  cI last (l.take i)<d/\d<2147483648/\ps≠[]/\n4 ps=true/\cI last (l.take (i+1))=d/\last<=cI last (l.take i)
 |[],i,_,_,_,_,h=>by simp at h
 |(d0,p0)::l,0,last,d,ps,hm,h=>by
  simp only[List.getElem?_cons_zero,Option.some.injEq,Prod.mk.injEq]at h;obtain⟨rfl,rfl⟩:=h;simp only[ez,b7,decide_eq_true_eq]at hm;obtain⟨⟨⟨⟨h1,h2⟩,h3⟩,h4⟩,h5⟩:=hm;refine⟨h1,h2,?_,h4,by simp[cI],by simp[cI]⟩;rintro rfl;simp at h3
 |(d0,p0)::l,i+1,last,d,ps,hm,h=>by
  simp only[ez,b7,decide_eq_true_eq]at hm;obtain⟨⟨⟨⟨h1,h2⟩,h3⟩,h4⟩,h5⟩:=hm;obtain⟨a1,a2,a3,a4,a5,a6⟩:=pO (i:=i) h5 a81;refine ⟨by simpa[cI]using a1,a2,a3,a4,by simpa[cI]using a5,?_⟩;simp only[List.take_succ_cons,cI];omega
theorem xW {l:List Po} {i:Nat} {d:Int} {ps:List Int} (last:Int) (h:l[i]? =some (d,ps)):
  ei last (l.take (i+1))=ei last (l.take i)++put (d-cI last (l.take i)-1).toNat++eM ps:=by
 obtain⟨h1,h2⟩:=al.1 h;rw[gC h1,h2,sY];simp[ei]
theorem pP {l:List Po} {i:Nat} (last:Int):ei last l=ei last (l.take i)++ei (cI last (l.take i)) (l.drop i):=by
 conv=>lhs;rw[<-fR i l]
 exact sY _ _ _
theorem oc {l:List Int}:n4 l=true↔fT (-1) l=true/\∀x∈l,x<2147483648:=by
 simp[n4]
def qT (b:List UInt8) (at_ ahead:Int):Po×Int×Int:=
 if(get b at_).2.2≠0 then((0,[]),0,(get b at_).2.2)
 else((IntKind.i64.wrap (IntKind.i64.wrap (ahead+1)+(get b at_).1),(gE b (get b at_).2.1).2.1),(gE b (get b at_).2.1).2.2,(gE b (get b at_).2.1).1)
theorem Lw {l:List Po} {i:Nat} {d:Int} {ps:List Int} (hm:ez (-1) l=true) (h:l[i]? =some (d,ps)) (hl:ps.length<=1099511627776):
  qT (ei (-1) l) (((ei (-1) (l.take i)).length:Nat):Int) (cI (-1) (l.take i))=((d,ps),(((ei (-1) (l.take (i+1))).length:Nat):Int),0):=by
 obtain⟨h1,h2,h3,h4,h5,h6⟩:=pO hm h;obtain⟨h7,h8⟩:=oc.1 h4;have e1:=pP (l:=l) (i:=i+1) (-1);have e2:=xW (-1) h;generalize hla:cI (-1) (l.take i)=last at h1 h6 e2 ⊢;generalize IX:ei (-1) (l.take i)=pre at e2 ⊢;generalize ei (cI (-1) (l.take (i+1))) (l.drop (i+1))=post at e1;rw[e2]at e1 ⊢;have g1:=BM pre (eM ps++post) (n:=(d-last-1).toNat) hV;have g2:=zY (pre++put (d-last-1).toNat) post h7 (λx hx=>by have:=h8 x hx;omega) hV;rw[show pre++put (d-last-1).toNat++(eM ps++post)=ei (-1) l from by rw[e1];simp]at g1;rw[<-e1]at g2;unfold qT;rw[g1];simp only[ne_eq,not_true_eq_false,if_false];have xg:((pre.length+(put (d-last-1).toNat).length:Nat):Int)=((pre++put (d-last-1).toNat).length:Int):=by simp
 rw[xg,g2];refine Prod.ext (Prod.ext ?_ G) (Prod.ext ?_ G)
 ·simp only;rw[jL (last+1) hV,jL _ hV];omega
 ·simp;omega
theorem pQ {l:List Int} {k:Nat} {x:Int} (p:Int->Bool) (h:l[k]? =some x):(l.drop k).all p=(p x&&(l.drop (k+1)).all p):=by
 obtain⟨h1,h2⟩:=al.1 h;rw[eR h1,h2,List.all_cons]
theorem lI {l:List Po} {k:Nat} {d:Int} {ps:List Int} (h:l[k]? =some (d,ps)) (last:Int):
  ez last (l.drop k)=(decide (last<d)&&decide (d<2147483648)&& !ps.isEmpty&&n4 ps&&ez d (l.drop (k+1))):=by
 obtain⟨h1,h2⟩:=al.1 h;rw[eR h1,h2,ez]
theorem xX {l:List Po} {i:Nat} {d:Int} {ps:List Int} (h:l[i]? =some (d,ps)):iX (l.take (i+1))=iX (l.take i)+ps.length:=by
 obtain⟨h1,h2⟩:=al.1 h;rw[gC h1,h2,ta];simp[iX]
theorem od (l:List Po):0<=iX l:=by
 induction l with
 |nil=>simp[iX]
 |cons p l ih=>simp only[iX,fe,List.sum_cons]at ih ⊢;omega
theorem C8 (l:List Po) (i:Nat):0<=iX (l.take i)/\iX (l.take i)<=iX l:=by
 refine ⟨od _,?_⟩
 conv=>rhs;rw[<-fR i l,ta]
 have:=od (l.drop i);omega
theorem mN (l:List Po) (i:Nat):(ei (-1) (l.take i)).length<=(ei (-1) l).length:=by
 rw[pP (l:=l) (i:=i) (-1)];simp
theorem Ja (l:List Po) (k:Nat):o9 l (k+1)=o9 l k++[tb l k]:=by simp[o9,List.range_succ]
theorem kd:∀(l:List Po) (last:Int),ez last l=true->last<2147483648->∀n:Nat,last<=cI last (l.take n)/\cI last (l.take n)<2147483648
 |[],last,_,h,n=>by simp[cI];exact h
 |(d,ps)::l,last,hm,h,0=>by simp[cI];exact h
 |(d,ps)::l,last,hm,h,n+1=>by
  simp only[ez,b7,decide_eq_true_eq]at hm;obtain⟨⟨⟨⟨h1,h2⟩,h3⟩,h4⟩,h5⟩:=hm;have:=kd l d h5 h2 n;simp only[List.take_succ_cons,cI];omega
theorem ae6 {M:aH} {w:World} {a b c d:Int} (ha: -9223372036854775808<=a/\a<=9223372036854775807) (hb: -9223372036854775808<=b/\b<=9223372036854775807) (hc: -9223372036854775808<=c/\c<=9223372036854775807) (hd: -9223372036854775808<=d/\d<=9223372036854775807):
  RT.bl.V M w (a,b,c,d) (.agg [.int .i64 a,.int .i64 b,.int .i64 c,.int .i64 d].toArray):=
 ⟨_,⟨[.int .i64 a],[.int .i64 b,.int .i64 c,.int .i64 d],rfl,⟨rfl,ha⟩,[.int .i64 b],[.int .i64 c,.int .i64 d],rfl,⟨rfl,hb⟩,[.int .i64 c],[.int .i64 d],rfl,⟨rfl,hc⟩,⟨rfl,hd⟩⟩,rfl⟩
theorem Za {M:aH} {w:World} {bx:Nat} {b:List UInt8} {ks:List Bl} {uC:Int} {vb vk:Value} {e:TypeId} {fr:Nat×Nat} (hx:w.heap[bx]? =some (.cells #[vb,vk,.int .i64 uC] e fr)) (hm: ¬M bx) (hb:(RT.u8.sl).V M w b vb) (hk:((RT.bl).sl).V M w ks vk) (ht: -9223372036854775808<=uC/\uC<=9223372036854775807):
  cR RT.li M w (.pointer (some ⟨bx,0,none⟩)) (b,ks,uC):=
 ⟨bx,0,[vb,vk,.int .i64 uC],rfl,hm,⟨[vb],[vk,.int .i64 uC],rfl,lH hb rfl rfl,[vk],[.int .i64 uC],rfl,lH hk rfl rfl,⟨rfl,ht⟩⟩,λj v hj=>je hx a90⟩
theorem Lx {l:List Po} {i:Nat} (h8:i%8=0) (hi:i<l.length):o9 l ((i+7)/8)++[(((ei (-1) (l.take i)).length:Int),cI (-1) (l.take i),cI (-1) (l.take (min (i+8) l.length)),(((l.drop i).take 8).length:Int))]=o9 l ((min (i+8) l.length+7)/8):=by
 rw[show(min (i+8) l.length+7)/8=(i+7)/8+1 from by omega,Ja];have e:8*((i+7)/8)=i:=by omega
 have e2:l.take (i+8)=l.take (min (i+8) l.length):=by rw[gX];omega
 simp only[tb,e,e2]
theorem pR:∀(l:List Po) (last:Int) (n m:Nat),ez last l=true->last<2147483648->n<=m->cI last (l.take n)<=cI last (l.take m)
 |[],last,n,m,_,_,_=>by simp
 |(d,ps)::l,last,0,m,hm,h,_=>by
  have:=(kd ((d,ps)::l) last hm h m).1;simpa[cI]using this
 |(d,ps)::l,last,n+1,0,_,_,h=>by omega
 |(d,ps)::l,last,n+1,m+1,hm,h,hnm=>by
  simp only[ez,b7,decide_eq_true_eq]at hm;obtain⟨⟨⟨⟨h1,h2⟩,h3⟩,h4⟩,h5⟩:=hm;simpa[cI]using pR l d n m h5 h2 (by omega)
theorem C9 {g:List Po} {k:Nat} (hk:k<(g.length+7)/8):C7 (kG g).2.1 (k:Int)=cI (-1) (g.take (8*k+8)):=by
 have hl:(kG g).2.1.length=(g.length+7)/8:=by simp[kG,o9]
 have hb:(kG g).2.1[k]? =some (tb g k):=by simp only[kG,o9,eN];rw[List.getElem?_range hk];rfl
 unfold C7 Lv;rw[if_pos (by rw[hl];simp;omega),aw,cu,hb];rfl
section
variable {P:Program} {r:Option Nat} {n:Nat} {L:Sl} {ds:List Deferred} {w:World} {K:Kt} {ops:Array Oper} {rest:List Oper} {d:Nat} {x y:Operand} {ty:TypeId} {pos:String} {af:Array Edge}
theorem Rg.HE {t t' e:TypeId} {p:Option Addr} (ht:P.underlying t=some (.pointer e)) (hx:ev L x=some (.pointer p)) (hy:ev L y=some (.pointer none)) (hd:Nat.blt d n=true)
  (k:Rg P r n ops rest ((d,.bool (decide (p=none)))::L) ds w K):
  Rg P r n ops ({dst:=some d,op:= .binOp .eql t x y t',type:=ty,pos,after:=af,guard:=none}::rest) L ds w K:=
 .op a04 rfl rfl hd _ w (λρ h=>by
  have hpe:P.underlying t=some (.pointer (P.pointee t)):=by simp[Program.pointee,ht]
  have he:=run_equal_pointer_nil (P:=P) w t p hpe;simp only[execOp];rw[h x _ hx,h y _ hy]
  cases p<;>simp[eqGuard,binOp,run_underlying ht,he]) k
end
def idx:List Po->Int->Nat
 |[],_=>0
 |p::l,to=>if p.1<to then idx l to+1 else 0
theorem Ly:∀(l:List Po) (to:Int),idx l to<=l.length
 |[],_=>br _
 |p::l,to=>by
  have:=Ly l to;simp only[idx,cz];split<;>omega
theorem xY:∀{l:List Po} {to:Int} {j:Nat} {p:Po},j<idx l to->l[j]? =some p->p.1<to
 |[],_,_,_,h,_=>by simp[idx]at h
 |q::l,to,j,p,h,hp=>by
  simp only[idx]at h
  split at h
  ·cases j with
   |zero=>simp at hp;subst hp;assumption
   |succ j=>exact xY (l:=l) (j:=j) hV (by simpa using hp)
  ·omega
theorem xZ:∀{l:List Po} {to:Int} {p:Po},l[idx l to]? =some p->to<=p.1
 |[],_,_,h=>by simp[idx]at h
 |q::l,to,p,h=>by
  simp only[idx]at h
  split at h
  ·exact xZ a81
  ·simp at h;subst h;omega
theorem BN:∀{l:List Po} {to:Int} {e:Nat} {p:Po},l[e]? =some p->to<=p.1->idx l to<=e
 |[],_,_,_,h,_=>by simp at h
 |q::l,to,e,p,h,hp=>by
  simp only[idx]
  split
  ·cases e with
   |zero=>simp at h;subst h;omega
   |succ e=>have:=BN (l:=l) (e:=e) a81 hp;omega
  ·omega
theorem idx_eq {l:List Po} {to:Int} {i:Nat} (h1:∀j,j<i->∀p,l[j]? =some p->p.1<to) (h2:∀p,l[i]? =some p->to<=p.1) (h3:i<=l.length):idx l to=i:=by
 rcases fk (idx l to) i with h|h|h
 ·have hx:l[idx l to]? =some l[idx l to]:=an hV;have:=xZ hx;have:=h1 _ h _ hx;omega
 ·exact h
 ·have:=Ly l to;have hx:l[i]? =some l[i]:=an hV;have:=xY h hx;have:=h2 _ hx;omega
def eI (l:List Po) (i:Int):Int:=if i<0 then-1 else match l[i.toNat]? with|some p=>p.1|none=>2147483648
def fV (l:List Po) (i:Int):List Int:=if i<0 then[]else match l[i.toNat]? with|some p=>p.2|none=>[]
def kM (l:List Po) (i:Int):List Po:=if i<0 then[]else(l.drop i.toNat).take (8-i.toNat%8)
def rL (l:List Po) (i to:Int):Int:=if to<=eI l i then i else idx l to
theorem kY {l:List Po} {i:Nat} {d:Int} {ps:List Int} (hm:ez (-1) l=true) (h:l[i]? =some (d,ps)):0<=d/\d<2147483648:=by
 obtain⟨f1,f2,f3,f4,f5,f6⟩:=pO hm h;omega
theorem jh {l:List Po} {i:Nat} {d:Int} {ps:List Int} (h:l[i]? =some (d,ps)):eI l (i:Int)=d:=by
 unfold eI;rw[if_neg hV,aw,h]
theorem Jb {l:List Po} {i:Int} (h:i<0):eI l i= -1:=by unfold eI;rw[if_pos h]
theorem qm {l:List Po} {i:Int} (h:(l.length:Int)<=i):eI l i=2147483648:=by
 unfold eI;rw[if_neg hV,dE hV]
theorem eQ (l:List Po) (i:Int):(i<0/\eI l i= -1/\fV l i=[])\/(∃j:Nat,∃d ps,i=j/\l[j]? =some (d,ps)/\eI l i=d/\fV l i=ps)\/((l.length:Int)<=i/\eI l i=2147483648/\fV l i=[]):=by
 by_cases h0:i<0
 ·exact .inl ⟨h0,Jb h0,by unfold fV;rw[if_pos h0]⟩
 ·by_cases h1:(l.length:Int)<=i
  ·exact .inr (.inr ⟨h1,qm h1,by unfold fV;rw[if_neg h0,dE hV]⟩)
  ·obtain⟨j,rfl⟩:∃j:Nat,i=j:=⟨i.toNat,by omega⟩;obtain⟨⟨d,ps⟩,hx⟩:∃x,l[j]? =some x:=⟨_,an hV⟩;exact .inr (.inl ⟨j,d,ps,G,hx,jh hx,by unfold fV;rw[if_neg h0,aw,hx]⟩)
theorem uD {l:List Po} (hm:ez (-1) l=true) (i:Int): -1<=eI l i/\eI l i<=2147483648:=by
 rcases eQ l i with⟨_,h,_⟩|⟨j,d,ps,rfl,hx,h,_⟩|⟨_,h,_⟩
 ·omega
 ·have:=kY hm hx;omega
 ·omega
theorem Da {l:List Po} (hm:ez (-1) l=true) {i:Int}:(0<=eI l i/\eI l i<2147483648)↔0<=i/\i<l.length:=by
 rcases eQ l i with⟨h0,h,_⟩|⟨j,d,ps,rfl,hx,h,_⟩|⟨h0,h,_⟩
 ·omega
 ·have:=kY hm hx;have:=(al.1 hx).1;omega
 ·omega
theorem AM {g:List Po} {i:Nat} {d:Int} {ps:List Int} (h:g[i]? =some (d,ps)) (last:Int):cI last (g.take (i+1))=d:=by
 obtain⟨h1,h2⟩:=al.1 h;rw[gC h1,h2,zZ];rfl
theorem BO {l:List Po} (hm:ez (-1) l=true) {t s:Nat} {p:Po} (hp:l[t]? =some p) (Lk:t<s):p.1<=cI (-1) (l.take s):=by
 obtain⟨d,ps⟩:=p;rw[<-AM hp (-1)];exact pR l (-1) (t+1) s hm q0 Lk
theorem mD {l:List Po} (hm:ez (-1) l=true) {t s:Nat} {p q:Po} (hp:l[t]? =some p) (hq:l[s]? =some q) (Lk:t<s):p.1<q.1:=by
 obtain⟨e,qs⟩:=q;have h1:=BO hm hp Lk;have h2:=(pO hm hq).1;omega
theorem AN {l lf:List Po} (hm:ez (-1) l=true) {s k:Nat} {to:Int} (h1:8*k<=s) (h2:s<8*k+8) (hs:s<l.length) (Yj:cI (-1) (l.take s)<to) (Zb:to<=cI (-1) (l.take (8*k+8)))
  (UN:lf=(l.drop s).take (8*k+8-s)):idx l to=s+idx lf to/\idx lf to<lf.length/\idx l to<l.length/\idx l to/8=k/\lf.drop (idx lf to)=kM l (idx l to:Nat):=by
 have Yk:s<=idx l to:=by
  rcases cK (idx l to) s with h|h
  ·have hx:l[idx l to]? =some l[idx l to]:=an hV;have:=xZ hx;have:=BO hm hx h;omega
  ·exact h
 obtain⟨⟨d,ps⟩,he⟩:∃x,l[min (8*k+8) l.length-1]? =some x:=⟨_,an hV⟩
 have hde:cI (-1) (l.take (8*k+8))=d:=by
  rw[<-AM he (-1),show l.take (8*k+8)=l.take (min (8*k+8) l.length-1+1)from by rw[gX];omega]
 have vP:=BN he (to:=to) ai4;have PV:lf.length=min (8*k+8-s) (l.length-s):=by rw[UN,a7,cN]
 have iy:∀t,t<lf.length->lf[t]? =l[s+t]? :=λt ht=>by rw[UN,dI,if_pos hV,gY]
 have hif:idx lf to=idx l to-s:=by
  refine idx_eq (λj hj p hp=>?_) (λp hp=>?_) hV
  ·have o7:=(al.1 hp).1;rw[iy j o7]at hp;exact xY hV hp
  ·have o7:=(al.1 hp).1;rw[iy _ o7,show s+(idx l to-s)=idx l to from by omega]at hp;exact xZ hp
 refine ⟨by omega,by omega,by omega,by omega,?_⟩;unfold kM;rw[if_neg hV,aw,hif,UN,List.drop_take,List.drop_drop,show s+(idx l to-s)=idx l to from by omega,gX,cN];omega
theorem Qx {l:List Po} (hm:ez (-1) l=true) {to:Int} {n:Nat} (hn:l.length<=n) (Yj:cI (-1) (l.take n)<to):idx l to=l.length:=by
 refine idx_eq (λj hj p hp=>?_) (λp hp=>?_) (br _)
 ·have:=BO hm hp (s:=n) hV;omega
 ·simp at hp
theorem Jc {l:List Po} (hm:ez (-1) l=true) {i k to:Int} (hi: -1<=i/\i<=l.length) (hk: -1<=k/\k<((l.length+7)/8:Nat)) (SL:i<0->k= -1) (pD:0<=i->i<l.length->k=i/8) (Y4:eI l i<to):
  cI (-1) (l.take (8*(max k 0).toNat))<to:=by
 rcases eQ l i with⟨h0,h,_⟩|⟨j,d,ps,rfl,hx,h,_⟩|⟨h0,h,_⟩
 ·rw[SL h0];simp only[show(max (-1:Int) 0).toNat=0 from by decide,Nat.mul_zero,List.take_zero,cI];omega
 ·have hj:=(al.1 hx).1;have C1:=pD hV hV;have h2:=(pO hm hx).1;have h3:=pR l (-1) (8*(max k 0).toNat) j hm q0 hV;omega
 ·have:=(kd l (-1) hm q0 (8*(max k 0).toNat)).2;omega
def Cu (T:TypeId) (l:List Po) (i:Int) (M:aH) (w:World) (bc:Nat):Prop:=
 ∃(p u:Value) (k Db:Int),M bc/\w.heap[bc]? =some (.cells #[p,.int .i64 k,u,.int .i64 (eI l i),.int .i64 Db] T (0,0))/\cR RT.li M w p (kG l)/\((RT.po).sl).V M w (kM l i) u/\
  (-1<=i/\i<=l.length)/\(-1<=k/\k<((l.length+7)/8:Nat))/\(i<0->k= -1)/\(0<=i->i<l.length->k=i/8)
theorem Cu.step {T:TypeId} {l:List Po} {i:Int} {M M' N:aH} {w w':World} {bc:Nat} (h:Cu T l i M w bc) (s:Step M w M' w' N) (hn: ¬N bc):Cu T l i M' w' bc:=by
 obtain⟨p,u,k,Db,h1,h2,h3,h4,h5⟩:=h;exact⟨p,u,k,Db,(s.mem bc (ae h2)).2 h1,s.bR h2 hn,h3.le q0 s.le,h4.le s.le,h5⟩
theorem Cu.rng {T:TypeId} {l:List Po} {i:Int} {M:aH} {w:World} {bc:Nat} (h:Cu T l i M w bc): -1<=i/\i<=l.length:=by
 obtain⟨p,u,k,Db,_,_,_,_,h5,_⟩:=h;exact h5
theorem UO {M:aH} {w:World} {d:Int} {ps:List Int} {v:Value} (h:RT.po.V M w (d,ps) v):∃u,v= .agg #[.int .i64 d,u]/\u.oneCell'=true/\(-9223372036854775808<=d/\d<=9223372036854775807):=by
 obtain⟨vs,⟨va,vb,rfl,⟨rfl,hd⟩,hb⟩,rfl⟩:=h;obtain⟨a,cap,rfl,_⟩:=hb;exact⟨_,G,G,hd⟩
section
variable {P:Program} {r:Option Nat} {n:Nat} {L:Sl} {ds:List Deferred} {w:World}
theorem jX {fn:Func} {Q:Value->World->Prop} {c t b:Nat} {vs:List Value} {fs:TypeDesc} {e:TypeId} {fr:Nat×Nat} {zv:Value} {size bytes:Nat} (hr:fn.results= #[.cell c t]) (hc:lk L c=some (.pointer (some ⟨b,0,none⟩))) (hu:P.underlying t=some fs) (hf:fs.isRow=true) (hi:TI P t zv size bytes) (hl:vs.length=size)
  (hb:w.heap[b]? =some (.cells vs.toArray e fr)) (h:Q (.agg vs.toArray) w):wI P fn Q .ret L [] w:=
 ⟨rfl,λa ha=>⟨_,by
  obtain⟨i,AA,_,Fk,_⟩:=hi.get;have UK:w.rangeAt b 0 vs:=λj v hj=>je hb a90
  have:=run_loadVar_mid (P:=P) w b 0 t vs fs UK hu hf (by simp[AA,Fk,hl]);simp[results,hr,ha _ _ hc,asAddr,this,cA],h⟩⟩
end
section
variable {P:Program} {r:Option Nat} {n:Nat} {L:Sl} {ds:List Deferred} {w:World} {K:Kt} {ops:Array Oper} {rest:List Oper} {d:Nat} {ty:TypeId} {pos:String} {af:Array Edge} {x y i:Operand} {α:Type} {A:RT α}
theorem fF.set {M:aH} {x:α} {vs:List Value} (hx:A.R M w x vs):∀{xs:List α} {C:List Value},fF A M w xs C->∀{j:Nat},j<xs.length->fF A M w (xs.set j x) (C.take (j*A.n)++vs++C.drop (j*A.n+A.n))
 |[],_,_,j,hj=>by simp at hj
 |y::xs,_,⟨us,rest,h1,h2,h3⟩,0,_=>by
  subst h1;have hl:=A.len h2;refine⟨vs,rest,?_,hx,h3⟩;rw[Nat.zero_mul,List.take_zero,iH,nd,<-hl,List.drop_left]
 |y::xs,_,⟨us,rest,h1,h2,h3⟩,j+1,hj=>by
  subst h1;have hl:=A.len h2;refine⟨us,_,?_,h2,fF.set hx h3 (j:=j) a90⟩;have e1:(j+1)*A.n=us.length+j*A.n:=by rw[Nat.add_mul,hl];omega
  rw[e1,List.take_length_add_append,show us.length+j*A.n+A.n=us.length+(j*A.n+A.n)from by omega,List.drop_length_add_append];simp
theorem Qz {l vs:List Value} {o:Nat} (h:o+vs.length<=l.length) (t:Nat):(l.take o++vs++l.drop (o+vs.length))[t]? =if o<=t/\t<o+vs.length then vs[t-o]? else l[t]? :=by
 have h1:(l.take o).length=o:=by rw[a7];omega
 rcases cK t o with h2|h2
 ·rw[if_neg hV,l6,List.getElem?_append_left hV,dI,if_pos h2]
 ·rcases cK t (o+vs.length)with h3|h3
  ·rw[if_pos ⟨h2,h3⟩,List.getElem?_append_left (by rw[bG];omega),jq hV,h1]
  ·rw[if_neg hV,jq (by rw[bG];omega),gY,bG,h1];congr 1;omega
theorem Own.setCells {e:TypeId} {M:aH} {base g len cap j:Nat} {xs:List α} {x:α} {vs:List Value} (h:Own A e M w base (.slice (some ⟨g,0,none⟩) len cap) xs) (hj:j<xs.length) (hx:A.R M w x vs):
  ∃w',w'=w.setCells g (j*A.n) vs/\Own A e M w' base (.slice (some ⟨g,0,none⟩) len cap) (xs.set j x)/\Step M w M w' (λk=>k=g):=by
 obtain⟨⟨C,hr,ha⟩,hm⟩:=h;have hmg:=hm g rfl;have hl:=A.len hx;rcases hr.2 with⟨h1,_⟩|⟨g',Qk,cur,h1,h2,h3,h4,h5,h6,h7⟩
 ·cases h1
 ·simp only[Value.slice.injEq,Option.some.injEq,Addr.mk.injEq]at h1;obtain⟨⟨rfl,_⟩,rfl,rfl⟩:=h1;obtain⟨Lo,c1,c2,c3,c4⟩:=pN vs w g (j*A.n) cur e (0,0) h3;have hs:=c4 M hmg;have hjn:j*A.n+A.n<=xs.length*A.n:=by have:=Nat.mul_le_mul_right A.n (show j+1<=xs.length from hj);rw[Nat.add_mul]at this;omega
  have j2:xs.length*A.n<=cap*A.n:=Nat.mul_le_mul_right _ h4;have Up:C.length=xs.length*A.n:=hr.1;refine⟨_,rfl,⟨⟨C.take (j*A.n)++vs++C.drop (j*A.n+A.n),⟨?_,.inr ⟨g,cap,Lo,by rw[List.length_set],h2,c1,by rw[List.length_set];exact h4,h5,by rw[c2];exact h6,?_⟩⟩,fF.set (A.le hs.le hx) (ha.le hs.le) hj⟩,λb hb=>hm b hb⟩,hs⟩
  ·rw[bG,bG,a7,cN,Up,List.length_set];omega
  ·rw[List.length_set];refine iD λt=>?_
   have Zc:=Qz (l:=C) (vs:=vs) (o:=j*A.n) (by rw[hl,Up];exact hjn) t;rw[hl]at Zc;rw[Zc,dI];have hct:∀t,t<xs.length*A.n->C[t]? =cur[t]? :=λt ht=>by rw[<-h7,dI,if_pos ht];simp
   split
   ·rename_i ht
    have e0:Lo.toList[t]? =Lo[t]? :=by simp
    rw[e0,c3 t,hl];by_cases h8:j*A.n<=t/\t<j*A.n+A.n
    ·rw[if_pos ⟨h8.1,h8.2,by omega⟩,if_pos h8]
    ·rw[if_neg (λh=>h8 ⟨h.1,h.2.1⟩),if_neg h8,hct t ht]
   ·rename_i ht
    rw[if_neg hV,dE (by rw[Up];omega)]
end
section
variable {P:Program} {r:Option Nat} {n:Nat} {L:Sl} {ds:List Deferred} {w:World} {K:Kt} {ops:Array Oper} {rest:List Oper} {d:Nat} {x y i:Operand} {ty:TypeId} {pos:String} {af:Array Edge}
theorem Rg.BP {t e:TypeId} {κ:IntKind} {j:Int} {b len cap bytes:Nat} {zv:Value} (ht:P.underlying t=some (.slice e)) (hi:TI P e zv 1 bytes) (hx:ev L x=some (.slice (some ⟨b,0,none⟩) len cap)) (Fx:ev L i=some (.int κ j)) (hd:Nat.blt d n=true) (hj:0<=j/\j<len)
  (k:Rg P r n ops rest ((d,.pointer (some ⟨b,j.toNat,none⟩))::L) ds w K):
  Rg P r n ops ({dst:=some d,op:= .indexAddr t x i,type:=ty,pos,after:=af,guard:=none}::rest) L ds w K:=
 .op a04 rfl rfl hd _ w (λρ h=>by
  simp only[execOp,h x _ hx,h i _ Fx];simp[Instr.indexAt,run_underlying ht,asIntOf,hj,hi.sizeOf,Addr.add_mid]) k
theorem Rg.UP {t e:TypeId} {κ:IntKind} {j:Int} {b len bytes:Nat} {zv:Value} (ht:P.underlying t=some (.array len e)) (hi:TI P e zv 1 bytes) (hx:ev L x=some (.pointer (some ⟨b,0,none⟩))) (Fx:ev L i=some (.int κ j)) (hd:Nat.blt d n=true) (hj:0<=j/\j<len)
  (k:Rg P r n ops rest ((d,.pointer (some ⟨b,j.toNat,none⟩))::L) ds w K):
  Rg P r n ops ({dst:=some d,op:= .indexAddr t x i,type:=ty,pos,after:=af,guard:=none}::rest) L ds w K:=
 .op a04 rfl rfl hd _ w (λρ h=>by
  simp only[execOp,h x _ hx,h i _ Fx];simp[Instr.indexAt,run_underlying ht,asIntOf,hj,hi.sizeOf,Addr.add_mid,Instr.sureAddr]) k
theorem Rg.mk0 {t e:TypeId} {len:Nat} {bytes:Nat} {zv:Value} (M:aH) (ht:P.underlying t=some (.slice e)) (hi:TI P e zv 1 bytes) (hz:zv.cells= #[zv]) (hx:ev L x=some (.int .i64 len)) (hy:ev L y=some (.int .i64 len)) (hd:Nat.blt d n=true) (hb:bytes*len<=140737488355328) (hl:len<=9223372036854775807)
  (k:∀b w',w.heap.size<=b->b<w'.heap.size->w'.heap[b]? =some (.cells (List.replicate len zv).toArray e (0,0))->Step M w (ins M b) w' aE->Rg P r n ops rest ((d,.slice (some ⟨b,0,none⟩) len len)::L) ds w' K):
  Rg P r n ops ({dst:=some d,op:= .makeSlice t x y,type:=ty,pos,after:=af,guard:=none}::rest) L ds w K:=by
 obtain⟨inf,i1,i2,i3,i4⟩:=hi.get
 have hm:madeCells zv.cells (len*1)=(List.replicate len zv).toArray:=by
  apply Array.ext
  ·simp[madeCells]
  ·intro j h1 h2;simp[madeCells,hz,Nat.mod_one]
 refine .op a04 G G hd (.slice (some ⟨w.heap.size,0,none⟩) len len) (w.alloc (.cells (List.replicate len zv).toArray e)) (λρ hρ=>?_) (k w.heap.size _ (br _) (by simp) (dp w _) ((dT M w _).own (br _) (by simp)))
 have hbc:(inf.bytes:Int)*(len:Int)<=281474976710656:=by
  rw[i4];have h1:((bytes*len:Nat):Int)<=281474976710656:=by omega
  rwa [Int.natCast_mul]at h1
 have hr:=run_make (P:=P) w t e inf zv ht i1 i2 .i64 .i64 (len:Int) (len:Int) hV (qi _) hbc hV;simp only[aw,i3,hm]at hr;simp only[execOp,hρ x _ hx,hρ y _ hy];simp[cA,hr]
theorem Rg.Zd {xt:TypeId} {p:Nat} (hx:ev L x=some (.int .u64 p)) (hd:Nat.blt d n=true) (hp:p<2^64) (k:Rg P r n ops rest ((d,.int .u64 ((2^64-1-p:Nat):Int))::L) ds w K):
  Rg P r n ops ({dst:=some d,op:= .unOp .xor xt x,type:=ty,pos,after:=af,guard:=none}::rest) L ds w K:=by
 refine .op a04 G G hd _ w (λρ h=>?_) k
 have e:(2^64-1:Nat)^^^p=2^64-1-p:=by
  apply Nat.eq_of_testBit_eq;intro j;have h1:=Nat.testBit_two_pow_sub_succ (x:=p) (n:=64) hp j;rw[show 2^64-1-p=2^64-(p+1)from by omega,h1,Nat.testBit_xor,Nat.testBit_two_pow_sub_one];by_cases hj:j<64
  ·simp[hj]
  ·have:p.testBit j=false:=Nat.testBit_lt_two_pow (Nat.lt_of_lt_of_le hp (wH q0 hV));simp[hj,this]
 simp only[execOp,h x _ hx]
 have hb:(BitVec.ofInt IntKind.u64.bits IntKind.u64.max^^^BitVec.ofInt IntKind.u64.bits (p:Int)).toNat=2^64-1-p:=by
  rw[BitVec.toNat_xor,pG,pG];have h1:(IntKind.u64.max%((2^IntKind.u64.bits:Nat):Int)).toNat=2^64-1:=by decide
  have h2:((p:Int)%((2^IntKind.u64.bits:Nat):Int)).toNat=p:=by
   change((p:Int)%((18446744073709551616:Nat):Int)).toNat=p;omega
  rw[h1,h2,e]
 have hw:IntKind.u64.wrap ((2^64-1-p:Nat):Int)=((2^64-1-p:Nat):Int):=IntWalk.u64_in _ hV
 have hu:(Op.unary .xor (.int .u64 (p:Int))).run P w= .ok (.int .u64 ((2^64-1-p:Nat):Int)) w:=by
  change(Op.intBits .xor .u64 IntKind.u64.max (p:Int)).run P w=_;unfold Op.intBits;simp only[];rw[hb,hw];simp
 simp[hu]
theorem Rg.ae8 {xt:TypeId} {κ:IntKind} {p:Int} (hx:ev L x=some (.int κ p)) (hd:Nat.blt d n=true) (k:Rg P r n ops rest ((d,.int κ (κ.wrap (0-p)))::L) ds w K):
  Rg P r n ops ({dst:=some d,op:= .unOp .neg xt x,type:=ty,pos,after:=af,guard:=none}::rest) L ds w K:=by
 refine .op a04 G G hd _ w (λρ h=>?_) k;simp only[execOp,h x _ hx];simp[Op.unary,Op.intArith]
theorem FI (p q:Nat) (hp:p<2^64) (hq:q<2^64):IntKind.u64.wrap (BitVec.ofInt IntKind.u64.bits (p:Int)&&&BitVec.ofInt IntKind.u64.bits (q:Int)).toNat=((p&&&q:Nat):Int):=by
 have h:∀z:Nat,z<2^64->((z:Int)%((2^IntKind.u64.bits:Nat):Int)).toNat=z:=λz hz=>by
  change((z:Int)%((18446744073709551616:Nat):Int)).toNat=z;omega
 rw[BitVec.toNat_and,pG,pG,h p hp,h q hq];exact IntWalk.u64_in _ (by have:=Nat.and_le_left (n:=p) (m:=q);omega)
theorem Ze (p q:Nat) (hp:p<2^64) (hq:q<2^64):IntKind.u64.wrap (BitVec.ofInt IntKind.u64.bits (p:Int)^^^BitVec.ofInt IntKind.u64.bits (q:Int)).toNat=((p^^^q:Nat):Int):=by
 have h:∀z:Nat,z<2^64->((z:Int)%((2^IntKind.u64.bits:Nat):Int)).toNat=z:=λz hz=>by
  change((z:Int)%((18446744073709551616:Nat):Int)).toNat=z;omega
 rw[BitVec.toNat_xor,pG,pG,h p hp,h q hq];exact IntWalk.u64_in _ (by have:=Nat.xor_lt_two_pow hp hq;omega)
end
def bit (ws:List Nat) (i:Nat):Bool:=(ws.getD (i/64) 0).testBit (i%64)
def Words (ws:List Nat):Prop:=∀x∈ws,x<2^64
theorem Words.get {ws:List Nat} (h:Words ws) (k:Nat):ws.getD k 0<2^64:=by
 rw[cu]
 cases hx:ws[k]? with
 |none=>simp
 |some x=>exact h x (ao hx)
theorem Dd (ws:List Nat) (k j x:Nat) (hk:k<ws.length):(ws.set k x).getD j 0=if j=k then x else ws.getD j 0:=by
 rw[cu,cu,eO];by_cases h:k=j
 ·subst h;simp[hk]
 ·rw[if_neg h,if_neg (λe=>h e.symm)]
theorem Words.set {ws:List Nat} (h:Words ws) {k x:Nat} (hx:x<2^64):Words (ws.set k x):=λy hy=>by
 rcases List.mem_or_eq_of_mem_set hy with h1|h1
 ·exact h y h1
 ·rw[h1];exact hx
theorem Lz {ws:List Nat} (hw:Words ws) {i:Nat} (hi:i/64<ws.length) (j:Nat):bit (ws.set (i/64) (ws.getD (i/64) 0^^^2^(i%64))) j=(bit ws j ^^ decide (j=i)):=by
 unfold bit;rw[Dd _ _ _ _ hi];by_cases h:j/64=i/64
 ·rw[if_pos h,Nat.testBit_xor,Nat.testBit_two_pow,h];congr 1;exact decide_eq_decide.2 hV
 ·rw[if_neg h,decide_eq_false (by intro e;rw[e]at h;exact h G),Bool.xor_false]
theorem De (x i t:Nat):(x/2^i).testBit t=x.testBit (t+i):=Nat.testBit_div_two_pow x t
theorem LA:∀x:Nat,0<x->∃k m,x=2^k*(2*m+1):=by
 intro x
 induction x using Nat.strongRecOn with
 |_ x ih=>
  intro h;by_cases h2:x%2=1
  ·exact⟨0,x/2,by omega⟩
  ·obtain⟨k,m,e⟩:=ih (x/2) hV hV;refine ⟨k+1,m,?_⟩;rw[Nat.pow_succ,Nat.mul_right_comm,<-e];omega
theorem LB (m:Nat):(2*m+1).testBit 0=true:=by rw[Nat.testBit_zero];exact decide_eq_true hV
theorem QA (m:Nat):(2*m).testBit 0=false:=by rw[Nat.testBit_zero];exact decide_eq_false hV
theorem BQ {k m:Nat}:(2^k*(2*m+1)).testBit k=true/\∀t,t<k->(2^k*(2*m+1)).testBit t=false:=by
 have h:=λj=>Nat.testBit_two_pow_mul_add (2*m+1) (b:=0) (i:=k) (Nat.two_pow_pos k) j
 simp only[Nat.add_zero]at h;constructor
 ·rw[h k,if_neg hV,Nat.sub_self,LB]
 ·intro t ht;rw[h t,if_pos ht,Nat.zero_testBit]
theorem QB {k m:Nat} (hx:2^k*(2*m+1)<2^64):(2^k*(2*m+1))&&&(2^64-2^k*(2*m+1))=2^k:=by
 have hp:=Nat.two_pow_pos k;have xE:0<2^k*(2*m+1):=Nat.mul_pos hp hV
 have e1:2^64-2^k*(2*m+1)=2^64-((2^k*(2*m)+(2^k-1))+1):=by
  have:2^k*(2*m+1)=2^k*(2*m)+2^k:=by rw[Nat.mul_add,Nat.mul_one]
  omega
 apply Nat.eq_of_testBit_eq;intro j
 have e2:2^k*(2*m)+(2^k-1)<2^64:=by
  have:2^k*(2*m+1)=2^k*(2*m)+2^k:=by rw[Nat.mul_add,Nat.mul_one]
  omega
 rw[Nat.testBit_and,e1,Nat.testBit_two_pow_sub_succ e2,Nat.testBit_two_pow_mul_add _ hV,Nat.testBit_two_pow_sub_one,Nat.testBit_two_pow];have h:=Nat.testBit_two_pow_mul_add (2*m+1) (b:=0) (i:=k) hp j;simp only[Nat.add_zero]at h;rw[h];rcases fk j k with h1|h1|h1
 ·rw[if_pos h1,Nat.zero_testBit,eL,decide_eq_false hV]
 ·subst h1
  have hj:j<64:=by
   rcases cK j 64 with h2|h2
   ·exact h2
   ·have:=wH (n:=2) q0 h2;have:2^j*1<=2^j*(2*m+1):=Nat.mul_le_mul_left _ hV;omega
  rw[if_neg (jR _),if_neg (jR _),Nat.sub_self,LB,QA,decide_eq_true hj,decide_eq_true rfl];rfl
 ·rw[if_neg hV,if_neg hV,decide_eq_false (show¬k=j by omega)];obtain⟨t,rfl⟩:∃t,j=k+(t+1):=⟨j-k-1,by omega⟩;rw[show k+(t+1)-k=t+1 from by omega,Nat.testBit_succ,Nat.testBit_succ,show(2*m+1)/2=m from by omega,show 2*m/2=m from by omega]
  cases m.testBit t<;>simp
def FJ:List Nat:=[0,1,56,2,57,49,28,3,61,58,42,50,38,29,17,4,62,47,59,36,45,43,51,22,53,39,33,30,24,18,12,5,63,55,48,27,60,41,37,16,46,35,44,21,52,32,23,11,54,26,40,15,34,20,31,10,25,14,19,9,13,8,7,6]
theorem UQ:∀k,k<64->(2^k*285870213051353865)%2^64/2^58<64/\FJ[(2^k*285870213051353865)%2^64/2^58]? =some k:=by decide+kernel
theorem BR (n:Nat):IntKind.u64.wrap (n:Int)=((n%2^64:Nat):Int):=by
 have:IntKind.u64.wrap (n:Int)=(n:Int)%18446744073709551616:=by simp[IntKind.wrap,IntKind.bits,IntKind.signed]
 rw[this];omega
theorem UR (x t:Nat) (ht:t<64):((x:Int)).fdiv (2^min ((t:Int)).toNat IntKind.u64.bits)=((x/2^t:Nat):Int):=by
 rw[aw,show min t IntKind.u64.bits=t from xA (show t<=64 by omega),show(2:Int)^t=((2^t:Nat):Int)from by simp,Int.fdiv_eq_ediv_of_nonneg _ (Int.natCast_nonneg _)];rfl
theorem Zf (t:Nat) (ht:t<64):IntKind.u64.wrap (1*2^min ((t:Int)).toNat IntKind.u64.bits)=((2^t:Nat):Int):=by
 have h:(2:Nat)^t<2^64:=Nat.pow_lt_pow_right q0 ht;rw[aw,show min t IntKind.u64.bits=t from xA (show t<=64 by omega),Int.one_mul,show(2:Int)^t=((2^t:Nat):Int)from by simp,BR,Nat.mod_eq_of_lt h]
def pS (ws:List Nat):Array Value:=(ws.map fun(x:Nat)=>Value.int .u64 (x:Int)).toArray
theorem iY {ws:List Nat} {k:Nat} (hk:k<ws.length):(pS ws)[k]? =some (.int .u64 (ws.getD k 0:Nat)):=by
 simp[pS,cu,an hk]
theorem rM (ws:List Nat) (k x:Nat):(pS ws).setIfInBounds k (.int .u64 (x:Int))=pS (ws.set k x):=by
 simp[pS,List.map_set]
structure jm (Ts Tw:TypeId) (n:Nat) (ws:List Nat) (M:aH) (w:World) (bs bw:Nat):Prop where
 ms:M bs
 mw:M bw
 ne:bs≠bw
 s:w.heap[bs]? =some (.cells #[.int .i64 n,.slice (some ⟨bw,0,none⟩) ws.length ws.length] Ts (0,0))
 w:w.heap[bw]? =some (.cells (pS ws) Tw (0,0))
 len:ws.length=(n+63)/64
 ok:Words ws
 nn:n<=1099511627776
theorem jm.step {Ts Tw:TypeId} {n:Nat} {ws:List Nat} {M M' N:aH} {w w':World} {bs bw:Nat} (h:jm Ts Tw n ws M w bs bw) (s:Step M w M' w' N) (h1: ¬N bs) (h2: ¬N bw):jm Ts Tw n ws M' w' bs bw:=
 ⟨(s.mem bs (ae h.s)).2 h.ms,(s.mem bw (ae h.w)).2 h.mw,h.ne,s.bR h.s h1,s.bR h.w h2,h.len,h.ok,h.nn⟩
theorem jm.put {Ts Tw:TypeId} {n:Nat} {ws xh:List Nat} {M:aH} {w w':World} {bs bw:Nat} (h:jm Ts Tw n ws M w bs bw) (s:Step M w M w' (λb=>b=bw)) (hl:xh.length=ws.length) (hw:w'.heap[bw]? =some (.cells (pS xh) Tw (0,0))) (ok:Words xh):jm Ts Tw n xh M w' bs bw:=
 ⟨h.ms,h.mw,h.ne,by rw[hl];exact s.bR h.s h.ne,hw,by rw[hl];exact h.len,ok,h.nn⟩
def SM (n:Nat) (ws:List Nat) (i:Int):Bool:=decide (0<=i/\i<n)&&bit ws i.toNat
section
variable {P:Program} {r:Option Nat} {n:Nat} {L:Sl} {ds:List Deferred} {w:World} {K:Kt} {ops:Array Oper} {rest:List Oper} {d:Nat} {x:Operand} {ty:TypeId} {pos:String} {af:Array Edge}
end
theorem BS (ws:List Nat) {k x:Nat} (hk:k<ws.length) (j:Nat):bit (ws.set k x) j=if j/64=k then x.testBit (j%64)else bit ws j:=by
 unfold bit;rw[Dd _ _ _ _ hk]
 split<;>rfl
theorem LC {x t:Nat} (hx:x<2^64) (ht:t<64):(2^64-1-x).testBit t= !x.testBit t:=by
 rw[show 2^64-1-x=2^64-(x+1)from by omega,Nat.testBit_two_pow_sub_succ hx,decide_eq_true ht,dr]
theorem QC {ws:List Nat} {j:Nat} (h:ws.length<=j/64):bit ws j=false:=by
 unfold bit;rw[cu,dE h];simp
theorem Df (k j:Nat):bit (List.replicate k 0) j=false:=by
 unfold bit;rw[cu,List.getElem?_replicate]
 split<;>simp
def SN (ws:List Nat) (p:Nat) (r:Int):Prop:=(∃j:Nat,r=j/\p<=j/\bit ws j=true/\∀t,p<=t->t<j->bit ws t=false)\/(r= -1/\∀t,p<=t->bit ws t=false)
theorem x7 {ws:List Nat} {i t:Nat} (h:i%64+t<64):bit ws (i+t)=(ws.getD (i/64) 0/2^(i%64)).testBit t:=by
 unfold bit;rw[De,show(i+t)/64=i/64 from by omega,show(i+t)%64=t+i%64 from by omega]
theorem Dg {x i:Nat} (hx:x<2^64) (hi:i<64) {k m:Nat} (h:x/2^i=2^k*(2*m+1)):i+k<64:=by
 rcases cK (i+k) 64 with h1|h1
 ·exact h1
 ·exfalso;have h2:(x/2^i).testBit k=true:=by rw[h];exact BQ.1
  rw[De]at h2;have:=Nat.testBit_lt_two_pow (Nat.lt_of_lt_of_le hx (wH (n:=2) q0 (show 64<=k+i by omega)));rw[this]at h2;cases h2
abbrev Fo:=Int×Int
abbrev Tw:=Int×Int×Int
abbrev RT.fo:RT Fo:=RT.pair (RT.int .i64) (RT.int .i64)
theorem Yl:Part RT.fo (RT.int .i64) (λp=>p.1) 0:=jz _ _
theorem fo1:Part RT.fo (RT.int .i64) (λp=>p.2) 1:=eV _ _
def RT.CM:RT Nat where
 n:=1
 agg:=false
 R:=λ_ _ b vs=>vs=[.pointer (some ⟨b,0,none⟩)]
 len:=by rintro _ _ x vs rfl;rfl
 one:=by rintro _ _ x vs rfl v hv;simp at hv;subst hv;rfl
 le:=λ_ h=>h
theorem nw {M:aH} {w:World} {b:Nat} {v:Value}:RT.CM.V M w b v↔v= .pointer (some ⟨b,0,none⟩):=⟨fun⟨_,h1,h2⟩=>by cases h1;exact h2,λh=>⟨_,G,h⟩⟩
def mn (l:List Fo) (x:Int):Int:=match l with| []=>x|p::_=>min x p.1
def hit (l:List Fo) (x:Int):Bool:=match l with| []=>false|p::_=>decide (p.1=x)
def fJ (l:List Fo) (x:Int):List Fo:=if hit l x then l.tail else l
def ny (l:List Fo) (x s:Int):Int:=if hit l x then IntKind.i64.wrap (s+(l.headD (0,0)).2)else s
def nz (l:List Fo) (x m:Int):Int:=if hit l x then m+1 else m
def iT (a b:List Fo):Int:=mn b (mn a 2147483648)
def PY (a b:List Fo) (k:Nat):Int:=if k=0 then 2147483648 else if k=1 then mn a 2147483648 else iT a b
def qU (a b:List Fo) (k:Nat):Int:=if k=0 then 0 else if k=1 then nz a (iT a b) 0 else nz b (iT a b) (nz a (iT a b) 0)
def qV (a b:List Fo) (k:Nat):Int:=if k=0 then 0 else if k=1 then ny a (iT a b) 0 else ny b (iT a b) (ny a (iT a b) 0)
def lK (l:List Fo) (x:Int) (c:Bool):List Fo:=if c then fJ l x else l
def qW (l:List Fo):Prop:=∀p∈l,-9223372036854775808<=p.1/\p.1<2147483648
theorem kH {a b lk:List Fo} {k:Nat} (h: [a,b][k]? =some lk):PY a b (k+1)=mn lk (PY a b k):=by
 match k with
 |0=>simp at h;subst h;simp[PY]
 |1=>simp at h;subst h;simp[PY,iT]
 |k+2=>simp at h
theorem iz {a b lk:List Fo} {k:Nat} (h: [a,b][k]? =some lk):qU a b (k+1)=nz lk (iT a b) (qU a b k):=by
 match k with
 |0=>simp at h;subst h;simp[qU]
 |1=>simp at h;subst h;simp[qU]
 |k+2=>simp at h
theorem iA {a b lk:List Fo} {k:Nat} (h: [a,b][k]? =some lk):qV a b (k+1)=ny lk (iT a b) (qV a b k):=by
 match k with
 |0=>simp at h;subst h;simp[qV]
 |1=>simp at h;subst h;simp[qV]
 |k+2=>simp at h
theorem HF (a b:List Fo) (k:Nat):0<=qU a b k/\qU a b k<=2:=by
 unfold qU nz
 repeat' split
 all_goals omega
theorem QD {a b:List Fo} (ha:qW a) (hb:qW b): -9223372036854775808<=iT a b/\iT a b<=2147483648:=by
 unfold iT mn
 split
 ·split
  ·omega
  ·have:=ha _ (bL ..);omega
 ·have:=hb _ (bL ..)
  split
  ·omega
  ·have:=ha _ (bL ..);omega
theorem QE (a b:List Fo) (k:Nat): -9223372036854775808<=qV a b k/\qV a b k<=9223372036854775807:=by
 have hw:=λx=>C5 (x:=x)
 unfold qV ny
 repeat' split
 all_goals first|exact hw _|omega
theorem Dh (l:List Fo) (x:Int):(fJ l x).length<=l.length:=by
 unfold fJ;split
 ·simp
 ·exact br _
theorem Dj {l:List Fo} {x:Int} (h:hit l x=true):(fJ l x).length<l.length:=by
 unfold fJ;rw[if_pos h]
 cases l with
 |nil=>simp[hit]at h
 |cons p l=>simp
theorem qW.rest {l:List Fo} (h:qW l) (x:Int):qW (fJ l x):=by
 unfold fJ;split
 ·exact λp hp=>h p (List.mem_of_mem_tail hp)
 ·exact h
theorem uF {p:Fo} {l:List Fo} {x:Int} (h:p.1=x):hit (p::l) x=true:=decide_eq_true h
theorem LD {a b:List Fo} (ha:qW a) (hb:qW b) (h:a≠[]\/b≠[]):hit a (iT a b)=true\/hit b (iT a b)=true:=by
 cases a with
 |nil=>
  cases b with
  |nil=>simp at h
  |cons q b=>
   have:=hb q (bL ..);exact .inr (uF (show q.1=min 2147483648 q.1 by omega))
 |cons p a=>
  have h1:=ha p (bL ..)
  cases b with
  |nil=>exact .inl (uF (show p.1=min 2147483648 p.1 by omega))
  |cons q b=>
   have h2:=hb q (bL ..);rcases Int.lt_or_le q.1 p.1 with h3|h3
   ·exact .inr (uF (show q.1=min (min 2147483648 p.1) q.1 by omega))
   ·exact .inl (uF (show p.1=min (min 2147483648 p.1) q.1 by omega))
theorem qn {a b:List Fo} (ha:qW a) (hb:qW b) (h:a≠[]\/b≠[]):(fJ a (iT a b)).length+(fJ b (iT a b)).length<a.length+b.length:=by
 have h1:=Dh a (iT a b);have h2:=Dh b (iT a b);rcases LD ha hb h with h3|h3
 ·have:=Dj h3;omega
 ·have:=Dj h3;omega
def LF (least:Int):Nat->List Fo->List Fo->List Fo
 |0,_,_=>[]
 |n+1,a,b=>if a=[]/\b=[]then[]else(if least<=qU a b 2 then[(iT a b,qV a b 2)]else[])++LF least n (fJ a (iT a b)) (fJ b (iT a b))
theorem Dk (least:Int):∀(n m:Nat) (a b:List Fo),qW a->qW b->a.length+b.length<=n->n<=m->LF least m a b=LF least n a b
 |0,m,a,b,_,_,h,_=>by
  have ha:a=[]:=cE.1 hV;have hb:b=[]:=cE.1 hV
  cases m with
  |zero=>rfl
  |succ m=>subst ha;subst hb;simp[LF]
 |n+1,0,a,b,_,_,_,h=>by omega
 |n+1,m+1,a,b,ha,hb,h1,h2=>by
  rw[LF,LF]
  split
  ·rfl
  ·rename_i h3
   rw[Dk least n m _ _ (ha.rest _) (hb.rest _) (by have:=qn ha hb (by by_cases h:a=[];right;exact λh'=>h3 ⟨h,h'⟩;left;exact h);omega) hV]
def CN (least:Int) (a b:List Fo):List Fo:=LF least (a.length+b.length) a b
theorem QF (least:Int):CN least [] []=[]:=rfl
theorem tc {least:Int} {a b:List Fo} (ha:qW a) (hb:qW b) (h:a≠[]\/b≠[]):CN least a b=(if least<=qU a b 2 then[(iT a b,qV a b 2)]else[])++CN least (fJ a (iT a b)) (fJ b (iT a b)):=by
 have h1:=qn ha hb h;unfold CN;obtain⟨n,hn⟩:∃n,a.length+b.length=n+1:=⟨a.length+b.length-1,by omega⟩;rw[hn,LF,if_neg (by rintro⟨h2,h3⟩;rcases h with h|h;exact h h2;exact h h3),Dk least _ n _ _ (ha.rest _) (hb.rest _) (br _) hV]
theorem xi:∀(least:Int) (n:Nat) (a b:List Fo),(LF least n a b).length<=n
 |_,0,_,_=>by simp[LF]
 |least,n+1,a,b=>by
  rw[LF]
  split
  ·simp
  ·have:=xi least n (fJ a (iT a b)) (fJ b (iT a b));rw[bG]
   split<;>simp<;>omega
theorem FK {M:aH} {w:World} {a b:Int} (ha: -9223372036854775808<=a/\a<=9223372036854775807) (hb: -9223372036854775808<=b/\b<=9223372036854775807):RT.fo.V M w (a,b) (.agg [.int .i64 a,.int .i64 b].toArray):=
 fw (gV ha) (gV hb) rfl rfl rfl rfl
def rN (l:List Fo) (d:Int):Bool:=l.any λp=>decide (p.1=d)
theorem Jd {l:List Fo} {k:Nat} {p:Fo} (h:l[k]? =some p) (d:Int):rN (l.take (k+1)) d=(rN (l.take k) d||decide (p.1=d)):=by
 obtain⟨h1,h2⟩:=al.1 h;unfold rN;rw[gC h1,h2,List.any_append];simp
def pT (a:List Fo) (p:Nat):List Fo:=((List.range p).filter fun(d:Nat)=> !rN a (d:Int)).map fun(d:Nat)=>((d:Int),0)
theorem AO (a:List Fo) (p:Nat):pT a (p+1)=pT a p++if rN a (p:Int)then[]else[((p:Int),0)]:=by
 unfold pT;rw[List.range_succ,gZ,eu];congr 1
 cases h:rN a (p:Int)<;>simp[List.filter,h]
theorem uG {a:List Fo} {p:Nat}:∀(j:Nat),p<=j->(∀t,p<=t->t<j->rN a (t:Int)=true)->pT a j=pT a p
 |j,h1,h2=>by
  rcases cK p j with h|h
  ·obtain⟨c,rfl⟩:∃c,j=c+1:=⟨j-1,by omega⟩;rw[AO,h2 c hV hV,if_pos rfl,fz];exact uG c hV (λt h3 h4=>h2 t h3 hV)
  ·rw[show j=p from by omega]
theorem Dl (a:List Fo) (p:Nat):(pT a p).length<=p:=by
 unfold pT;rw[bW];exact du (fi _ _) (by rw[List.length_range];exact br _)
end Go.K
namespace Go.K
open Go.RowKit (Below)
open Go.Maps (Keyed)
open Go.ChangeMaps (putKey delKey notKey)
abbrev DU:=DataW Unit
structure Zg (P:Program) (k:TypeId) (R:Value->Option (DU×List MemPlace)) (M:aH) (w:World) (b:Nat) (m:List (Lit×DU)):Prop where
 mut_:M b
 own:w.ownsMap P k R b m.length (.map m)
section
variable {P:Program} {r:Option Nat} {n:Nat} {L:Sl} {ds:List Deferred} {w:World} {K:Kt} {ops:Array Oper} {rest:List Oper} {d:Nat} {x y z:Operand} {ty:TypeId} {pos:String} {af:Array Edge}
variable {kt:TypeId} {R:Value->Option (DU×List MemPlace)} {M:aH} {b:Nat} {m:List (Lit×DU)}
theorem Step.BT {w w':World} (h:Below w.heap.size w w') (M:aH):Step M w M w' aE:=
 ⟨λh0 b hb=>Nat.lt_of_lt_of_le (h0 b hb) h.size,h.os,h.tape,h.output,h.size,λ_ _=>Iff.rfl,λb hb _=>h.block b hb,λ_ h=>h.elim⟩
end
end Go.K
namespace Go.K
def allM:aH:=λ_=>True
theorem Step.all {M M' N:aH} {w w':World} (s:Step M w M' w' N):Step allM w allM w' N:=⟨λh=>absurd (h w.heap.size trivial) (jR _),s.os,s.tape,s.output,s.size,λ_ _=>Iff.rfl,s.same,λ_ _=>trivial⟩
theorem Step.toAny {M M':aH} {w w':World} (s:Step M w M' w' aE) (M1:aH):Step M1 w M1 w' aE:=s.any M1
theorem fF.int {κ:IntKind} {M M':aH} {w w':World}:∀{xs:List Int} {C:List Value},fF (RT.int κ) M w xs C->fF (RT.int κ) M' w' xs C
 |[],_,h=>h
 |x::xs,C,h=>by
  obtain⟨vs,r,h1,h2,h3⟩:=h;exact⟨vs,r,h1,h2,fF.int h3⟩
theorem Own.QG {κ:IntKind} {e:TypeId} {M:aH} {w:World} {base:Nat} {v:Value} {xs:List Int} (h:Own (RT.int κ) e M w base v xs) {M':aH} (hm:∀b,v.ownBlock=some b->M' b):Own (RT.int κ) e M' w base v xs:=by
 obtain⟨⟨C,h1,h2⟩,_⟩:=h;exact⟨⟨C,h1,fF.int h2⟩,hm⟩
theorem Own.Zh {κ:IntKind} {e:TypeId} {N:aH} {w w':World} {base:Nat} {v:Value} {xs:List Int} (h:Own (RT.int κ) e allM w base v xs) (s:Step allM w allM w' N) (hn:∀b,v.ownBlock=some b->¬N b):Own (RT.int κ) e allM w' base v xs:=by
 obtain⟨⟨C,h1,h2⟩,_⟩:=h;refine⟨⟨C,⟨h1.1,?_⟩,fF.int h2⟩,λ_ _=>trivial⟩;rcases h1.2 with h3|⟨g,cap,cur,h3,h4,h5,h6,h7,h8⟩
 ·exact .inl h3
 ·exact .inr ⟨g,cap,cur,h3,h4,by rw[s.same g (ae h5) (hn g (by rw[h3];rfl))];exact h5,h6,h7,h8⟩
def qG (v:Value):aH:=λb=>v.ownBlock=some b
theorem Own.lone {κ:IntKind} {e:TypeId} {M:aH} {w:World} {base:Nat} {v:Value} {xs:List Int} (h:Own (RT.int κ) e M w base v xs):Own (RT.int κ) e (qG v) w base v xs:=h.QG λ_ h=>h
def BU (at':Nat->Nat) (cont:Nat->Bool):Nat×Nat:=
 if at' 0<0x80 then(at' 0,1)
 else if at' 0/32==6&&cont 1 then
  if(at' 0%32)*64+at' 1%64>=0x80 then((at' 0%32)*64+at' 1%64,2)else(65533,1)
 else if at' 0/16==14&&cont 1&&cont 2 then
  if(at' 0%16)*4096+(at' 1%64)*64+at' 2%64>=0x800&&Utf8.valid ((at' 0%16)*4096+(at' 1%64)*64+at' 2%64:Nat)then((at' 0%16)*4096+(at' 1%64)*64+at' 2%64,3)else(65533,1)
 else if at' 0/8==30&&cont 1&&cont 2&&cont 3 then
  if(at' 0%8)*262144+(at' 1%64)*4096+(at' 2%64)*64+at' 3%64>=0x10000&&Utf8.valid ((at' 0%8)*262144+(at' 1%64)*4096+(at' 2%64)*64+at' 3%64:Nat)then((at' 0%8)*262144+(at' 1%64)*4096+(at' 2%64)*64+at' 3%64,4)else(65533,1)
 else(65533,1)
theorem Je (s:ByteArray) (i:Nat):Utf8.decode s i=BU (λk=>(s.get! (i+k)).toNat) (λk=>decide (i+k<s.size)&&(s.get! (i+k)).toNat/64==2):=rfl
def jN (l:List UInt8) (k:Nat):Nat:=(l.getD k 0).toNat
def jI (l:List UInt8) (k:Nat):Bool:=decide (k<l.length)&&jN l k/64==2
def dec (l:List UInt8):Nat×Nat:=BU (jN l) (jI l)
theorem Jf (l:List UInt8) (j:Nat):(⟨l.toArray⟩:ByteArray).get! j=l.getD j 0:=by
 show l.toArray[j]! =_;rw[cu,getElem!_def];simp only[ll]
 cases l[j]? <;>rfl
theorem FL (l:List UInt8) (pos:Nat):Utf8.decode ⟨l.toArray⟩ pos=dec (l.drop pos):=by
 rw[Je,dec]
 have h1:(λk=>((⟨l.toArray⟩:ByteArray).get! (pos+k)).toNat)=jN (l.drop pos):=by
  funext k;rw[Jf,jN,cu,cu,gY]
 have h2:(λk=>decide (pos+k<(⟨l.toArray⟩:ByteArray).size)&&((⟨l.toArray⟩:ByteArray).get! (pos+k)).toNat/64==2)=jI (l.drop pos):=by
  funext k;have:=congrFun h1 k;rw[this,jI,cN];congr 1;have hs:(⟨l.toArray⟩:ByteArray).size=l.length:=by simp[ByteArray.size]
  rw[hs];exact decide_eq_decide.2 hV
 rw[h1,h2]
theorem x8 {l:List UInt8} {k:Nat} (h:jI l k=true):k<l.length:=by
 simp only[jI,b7,decide_eq_true_eq]at h;exact h.1
theorem ji {l:List UInt8} (hl:l≠[]):1<=(dec l).2/\(dec l).2<=l.length:=by
 have h0:0<l.length:=eh.2 hl;unfold dec BU
 split
 ·exact⟨br _,h0⟩
 ·split
  ·rename_i h
   simp only[b7]at h;have:=x8 h.2
   split<;>(simp only;omega)
  ·split
   ·rename_i h
    simp only[b7]at h;have:=x8 h.2
    split<;>(simp only;omega)
   ·split
    ·rename_i h
     simp only[b7]at h;have:=x8 h.2
     split<;>(simp only;omega)
    ·exact⟨br _,h0⟩
theorem oe (l:List UInt8) (k:Nat):jN l k<256:=by unfold jN;exact UInt8.toNat_lt _
theorem qo (l:List UInt8):(dec l).1<=1114111:=by
 unfold dec BU
 split
 ·simp only;omega
 ·split
  ·have:=oe l 0
   split<;>(simp only;omega)
  ·split
   ·have:=oe l 0
    split<;>(simp only;omega)
   ·split
    ·split
     ·rename_i h
      simp only[b7,Utf8.valid,Bool.or_eq_true,decide_eq_true_eq]at h;simp only;omega
     ·simp only;omega
    ·simp only;omega
def dC (l:List UInt8):List Int:=match l with
 |[]=>[]
 |c::r=>((dec (c::r)).1:Int)::dC ((c::r).drop (dec (c::r)).2)
termination_by l.length
decreasing_by
 have:=(ji (l:=c::r) (by simp)).1;simp only[cN,cz];omega
theorem lg:dC []=[]:=by unfold dC;rfl
theorem ke {l:List UInt8} (h:l≠[]):dC l=((dec l).1:Int)::dC (l.drop (dec l).2):=by
 cases l with
 |nil=>exact absurd rfl h
 |cons c r=>rw[dC]
theorem gF (l:List UInt8):(dC l).length<=l.length:=by
 induction hn:l.length using Nat.strongRecOn generalizing l with
 |_ n ih=>
  by_cases h:l=[]
  ·subst h;rw[lg];simp
  ·rw[ke h,cz];have hw:=ji h;have:=ih _ (by rw[cN];omega) (l.drop (dec l).2) rfl;rw[cN]at this;omega
section
variable {P:Program} {r:Option Nat} {n:Nat} {L:Sl} {ds:List Deferred} {w:World} {K:Kt} {ops:Array Oper} {rest:List Oper} {d:Nat} {x:Operand} {ty:TypeId} {pos:String} {af:Array Edge}
theorem Rg.LG {t:TypeId} {l:List UInt8} (M:aH) (ht:P.underlying t=some .string) (hx:ev L x=some (.string ⟨l.toArray⟩)) (hd:Nat.blt d n=true)
  (k:∀b w',w.heap.size<=b->b<w'.heap.size->w'.heap[b]? =some (.stringIter ⟨l.toArray⟩ 0)->Step M w (ins M b) w' aE->Rg P r n ops rest ((d,.pointer (some ⟨b,0,none⟩))::L) ds w' K):
  Rg P r n ops ({dst:=some d,op:= .range t x,type:=ty,pos,after:=af,guard:=none}::rest) L ds w K:=by
 refine .op a04 G G hd (.pointer (some ⟨w.heap.size,0,none⟩)) (w.alloc (.stringIter ⟨l.toArray⟩ 0)) (λρ hρ=>?_) (k w.heap.size _ (br _) (by simp) (dp w _) ((dT M w _).own (br _) (by simp)));simp only[execOp,hρ x _ hx];simp[Instr.range,cA,run_underlying ht,newObj,Sem.run]
theorem il (M:aH) {b:Nat} {o:Obj} (hm:M b):Step M w M {w with heap:=w.heap.setIfInBounds b o} (λk=>k=b):=
 ⟨λh b hb=>by simpa using h b hb,rfl,rfl,rfl,by simp,λ_ _=>Iff.rfl,λk _ hn=>by simp[dv,Ne.symm hn],λk hk=>by subst hk;exact hm⟩
theorem pU {b p:Nat} {s:ByteArray} (hb:w.heap[b]? =some (.stringIter s p)):(getObj b).run P w= .ok (.stringIter s p) w:=by simp[getObj,Sem.run,hb]
theorem Rg.QH {l:List UInt8} {b p:Nat} {M:aH} (hx:ev L x=some (.pointer (some ⟨b,0,none⟩))) (hb:w.heap[b]? =some (.stringIter ⟨l.toArray⟩ p)) (hm:M b) (hd:Nat.blt d n=true)
  (k1:p<l.length->∀w',w'.heap[b]? =some (.stringIter ⟨l.toArray⟩ (p+(dec (l.drop p)).2))->Step M w M w' (λk=>k=b)->Rg P r n ops rest ((d,.tuple #[.bool true,.int .i64 p,.int .i32 ((dec (l.drop p)).1:Nat)])::L) ds w' K)
  (k2: ¬p<l.length->Rg P r n ops rest ((d,.tuple #[.bool false])::L) ds w K):
  Rg P r n ops ({dst:=some d,op:= .next x true,type:=ty,pos,after:=af,guard:=none}::rest) L ds w K:=by
 have hs:(⟨l.toArray⟩:ByteArray).size=l.length:=by simp[ByteArray.size]
 have eK:=ae hb;by_cases h:p<l.length
 ·have key:=k1 h {w with heap:=w.heap.setIfInBounds b (.stringIter ⟨l.toArray⟩ (p+(dec (l.drop p)).2))} (by simp[dv,eK]) (il M hm);refine .op a04 G G hd _ _ (λρ hρ=>?_) key;simp only[execOp,hρ x _ hx,Instr.next,cA,pU hb,cT];rw[if_pos (by rw[hs];exact h)];simp[FL,setObj,Sem.run,goInt,hb]
 ·refine .op a04 G G hd _ w (λρ hρ=>?_) (k2 h);simp only[execOp,hρ x _ hx,Instr.next,cA,pU hb,cT];rw[if_neg (by rw[hs];exact h)];simp
theorem Rg.HG {t:TypeId} {i:Operand} {l:List UInt8} {κ:IntKind} {j:Int} {c:UInt8} (ht:P.underlying t=some .string) (hx:ev L x=some (.string ⟨l.toArray⟩)) (hi:ev L i=some (.int κ j)) (hd:Nat.blt d n=true) (hj:0<=j) (hc:l[j.toNat]? =some c)
  (k:Rg P r n ops rest ((d,.int .u8 (c.toNat:Int))::L) ds w K):
  Rg P r n ops ({dst:=some d,op:= .index t x i,type:=ty,pos,after:=af,guard:=none}::rest) L ds w K:=by
 have eK:=(al.1 hc).1;have hs:(⟨l.toArray⟩:ByteArray).size=l.length:=by simp[ByteArray.size]
 have hg:(⟨l.toArray⟩:ByteArray)[j.toNat]? =some c:=by
  rw[getElem?_pos _ _ (by rw[hs];exact eK)];congr 1;have:=(al.1 hc).2;rw[<-this];rfl
 refine .op a04 G G hd _ w (λρ hρ=>?_) k;simp only[execOp,hρ x _ hx,hρ i _ hi,Instr.index,cA,asIntOf,l7,cT,run_underlying ht];simp[hj,hg]
theorem qX (l:List UInt8) (a b:Nat):(⟨l.toArray⟩:ByteArray).extract a b=⟨((l.take b).drop a).toArray⟩:=by
 have:((⟨l.toArray⟩:ByteArray).extract a b).data=((l.take b).drop a).toArray:=by
  rw[ByteArray.data_extract];apply Array.toList_inj.1;rw[Array.toList_extract,List.extract_eq_take_drop,List.drop_take]
 exact congrArg ByteArray.mk this
theorem Rg.QI {t:TypeId} {i:Operand} {l:List UInt8} {κ:IntKind} {j:Int} (ht:P.underlying t=some .string) (hx:ev L x=some (.string ⟨l.toArray⟩)) (hi:ev L i=some (.int κ j)) (hd:Nat.blt d n=true) (hj:0<=j/\j<=l.length)
  (k:Rg P r n ops rest ((d,.string ⟨(l.drop j.toNat).toArray⟩)::L) ds w K):
  Rg P r n ops ({dst:=some d,op:= .slice t x (some i) none none,type:=ty,pos,after:=af,guard:=none}::rest) L ds w K:=by
 have hs:(⟨l.toArray⟩:ByteArray).size=l.length:=by simp[ByteArray.size]
 refine .op a04 G G hd _ w (λρ hρ=>?_) k;simp only[execOp,hρ x _ hx,fA,pB,hρ i _ hi];rw[cA,run_sliceAt_string _ _ _ _ _ _ ht,run_slice_string_l _ _ _ ht _ _ hj.1 (by rw[hs];exact hj.2),qX,hs,List.take_length];simp
theorem Rg.SO {t:TypeId} {i:Operand} {l:List UInt8} {κ:IntKind} {j:Int} (ht:P.underlying t=some .string) (hx:ev L x=some (.string ⟨l.toArray⟩)) (hi:ev L i=some (.int κ j)) (hd:Nat.blt d n=true) (hj:0<=j/\j<=l.length)
  (k:Rg P r n ops rest ((d,.string ⟨(l.take j.toNat).toArray⟩)::L) ds w K):
  Rg P r n ops ({dst:=some d,op:= .slice t x none (some i) none,type:=ty,pos,after:=af,guard:=none}::rest) L ds w K:=by
 have hs:(⟨l.toArray⟩:ByteArray).size=l.length:=by simp[ByteArray.size]
 refine .op a04 G G hd _ w (λρ hρ=>?_) k;simp only[execOp,hρ x _ hx,fA,pB,hρ i _ hi];rw[cA,run_sliceAt_string _ _ _ _ _ _ ht,run_slice_string_h _ _ _ ht _ _ hj.1 (by rw[hs];exact hj.2),qX,List.drop_zero];simp
end
theorem Own.eD {α:Type} {A:RT α} {e:TypeId} {M:aH} {w:World} {base b p:Nat} {s:ByteArray} {v:Value} {xs:List α} (h:Own A e M w base v xs) (hb:w.heap[b]? =some (.stringIter s p)):v.ownBlock≠some b:=λhv=>by
 obtain⟨⟨C,h1,_⟩,_⟩:=h;rcases h1.2 with⟨h2,_⟩|⟨g,cap,cur,h2,_,h3,_⟩
 ·rw[h2]at hv;cases hv
 ·rw[h2]at hv;cases hv;rw[h3]at hb;cases hb
theorem Own.iZ {α β:Type} {A:RT α} {B:RT β} {e e':TypeId} {M M':aH} {w:World} {base base':Nat} {v u:Value} {xs:List α} {ys:List β} (h:Own A e M w base v xs) (h':Own B e' M' w base' u ys) (ht:e≠e') {b:Nat} (hb:v.ownBlock=some b):u.ownBlock≠some b:=λhu=>by
 obtain⟨⟨C,h1,_⟩,_⟩:=h;obtain⟨⟨C',Qu,_⟩,_⟩:=h';rcases h1.2 with⟨h2,_⟩|⟨g,cap,cur,h2,_,h3,_⟩
 ·rw[h2]at hb;cases hb
 ·rcases Qu.2 with⟨Fl,_⟩|⟨g',Qk,YO,Fl,_,h3',_⟩
  ·rw[Fl]at hu;cases hu
  ·rw[h2]at hb;rw[Fl]at hu;cases hb;cases hu;rw[h3]at h3';cases h3';exact ht G
theorem Own.fx {α:Type} {A:RT α} {e t:TypeId} {M:aH} {w:World} {base b:Nat} {v:Value} {xs:List α} {cs:Array Value} {fr:Nat×Nat} (h:Own A e M w base v xs) (hb:w.heap[b]? =some (.cells cs t fr)) (ht:t≠e):v.ownBlock≠some b:=λhv=>by
 obtain⟨⟨C,h1,_⟩,_⟩:=h;rcases h1.2 with⟨h2,_⟩|⟨g,cap,cur,h2,_,h3,_⟩
 ·rw[h2]at hv;cases hv
 ·rw[h2]at hv;cases hv;rw[h3]at hb;cases hb;exact ht G
abbrev Fd:=List UInt8×List UInt8
abbrev Dc:=Int×List Fd
abbrev En:=Dc×Int
abbrev RT.fd:RT Fd:=RT.pair RT.str RT.str
abbrev RT.dc:RT Dc:=RT.pair (RT.int .i64) (RT.fd.sl)
abbrev RT.en:RT En:=RT.pair RT.dc (RT.int .i64)
theorem KI:Part RT.fd RT.str (λp=>p.1) 0:=jz _ _
theorem SP:Part RT.fd RT.str (λp=>p.2) 1:=eV _ _
theorem Zi:Part RT.dc (RT.int .i64) (λp=>p.1) 0:=jz _ _
theorem Jg:Part RT.dc (RT.fd.sl) (λp=>p.2) 1:=eV _ _
theorem Zj:Part RT.en RT.dc (λp=>p.1) 0:=jz _ _
theorem en1:Part RT.en (RT.int .i64) (λp=>p.2) 2:=eV _ _
theorem LH {M:aH} {w:World} {p:Dc} {v:Value} (h:RT.dc.V M w p v):∃u,v= .agg #[.int .i64 p.1,u]:=by
 obtain⟨vs,⟨va,vb,rfl,⟨rfl,_⟩,hb⟩,rfl⟩:=h;have:=(RT.fd.sl q0).len hb
 match vb,this with
 |[u],_=>exact⟨u,rfl⟩
theorem SQ {M:aH} {w:World} {p:Dc} {u:Value} {s:Int} (h:RT.dc.V M w p (.agg #[.int .i64 p.1,u])) (hs: -9223372036854775808<=s/\s<=9223372036854775807):RT.en.V M w (p,s) (.agg [.int .i64 p.1,u,.int .i64 s].toArray):=by
 obtain⟨vs,h1,h2⟩:=h
 have h3:vs=[.int .i64 p.1,u]:=by
  have:Value.agg #[.int .i64 p.1,u]= .agg vs.toArray:=h2;injection this with this
  simpa using(congrArg Array.toList this).symm
 subst h3;exact⟨_,⟨[.int .i64 p.1,u],[.int .i64 s],G,h1,G,hs.1,hs.2⟩,G⟩
theorem Own.SR {α:Type} (A:RT α) (e:TypeId) (base:Nat) {M:aH} {w:World} (h:Lt M w):Own A e M w base (.slice none 0 0) []:=eG _ _ _ _ _
section
variable {P:Program} {r:Option Nat} {n:Nat} {L:Sl} {ds:List Deferred} {w:World} {K:Kt} {ops:Array Oper} {rest:List Oper} {d:Nat} {x:Operand} {ty:TypeId} {pos:String} {af:Array Edge}
theorem Rg.jj {α:Type} {A:RT α} {e:TypeId} {v:Value} {a:α} {M:aH} (hx:ev L x=some v) (hd:Nat.blt d n=true) (hM:Lt M w) (hv:A.V M w a v) (hg:A.agg=true)
  (k:∀u w',cR A M w' u a->Step M w M w' aE->w.heap.size<=w'.heap.size->Rg P r n ops rest ((d,u)::L) ds w' K):
  Rg P r n ops ({dst:=some d,op:= .box e x,type:=ty,pos,after:=af,guard:=none}::rest) L ds w K:=by
 refine o2 M hx hd (λb w' h1 h2 hb s=>?_);obtain⟨vs,h3,h4⟩:=hv;have hc:v.cells=vs.toArray:=by subst h4;simp[RT.val,hg,Value.cells]
 rw[hc]at hb;refine k _ w' ⟨b,0,vs,G,λhm=>?_,A.le s.back.le h3,λj u hj=>?_⟩ s.back s.size
 ·have:=hM b hm;omega
 ·rw[nd];exact je hb a90
end
end Go.K
namespace Go.K
open Go.Maps (Keyed)
structure fM (P:Program) (kt:TypeId) (w:World) (b:Nat) (es:List MapEntry) (clock:Nat):Prop where
 at_:w.heap[b]? =some (.map es.toArray clock)
 born:es.Pairwise λx y=>x.born≠y.born
 lt:∀e∈es,e.born<clock
 keys:es.Pairwise λx y=>x.key≠y.key
 ok:∀e∈es,∃l,keyOf P kt e.key=some l
def eE (zv:Value) (es:List MapEntry) (key v:Value):Prop:=(∃e∈es,e.key=key/\v=e.val)\/((∀e∈es,e.key≠key)/\v=zv)
section
variable {P:Program} {kt:TypeId} {w:World} {b clock:Nat} {es:List MapEntry}
theorem fM.step {M M' N:aH} {w':World} (h:fM P kt w b es clock) (s:Step M w M' w' N) (hn: ¬N b):fM P kt w' b es clock:=⟨s.bR h.at_ hn,h.born,h.lt,h.keys,h.ok⟩
theorem fM.bM {M M':aH} {w':World} (h:fM P kt w b es clock) (s:Step M w M' w' aE):fM P kt w' b es clock:=h.step s λh=>h
theorem hU {α:Type} {R:α->α->Prop} {l:List α} (h:l.Pairwise R) {i j:Nat} {x y:α} (hi:l[i]? =some x) (hj:l[j]? =some y) (jf:i<j):R x y:=by
 obtain⟨h1,h2⟩:=al.1 hi;obtain⟨h3,h4⟩:=al.1 hj;have:=List.pairwise_iff_getElem.1 h i j h1 h3 jf
 rwa [h2,h4]at this
theorem fM.HH (h:fM P kt w b es clock) {x y:MapEntry} (hx:x∈es) (hy:y∈es) (e:x.key=y.key):x=y:=by
 obtain⟨i,hi⟩:=bO.1 hx;obtain⟨j,hj⟩:=bO.1 hy;rcases fk i j with h1|h1|h1
 ·exact absurd e (hU h.keys hi hj h1)
 ·subst h1;rw[hi]at hj;exact aK hj
 ·exact absurd e.symm (hU h.keys hj hi h1)
theorem fM.Dm (h:fM P kt w b es clock) {i j:Nat} {x y:MapEntry} (hi:es[i]? =some x) (hj:es[j]? =some y) (e:x.born=y.born):i=j:=by
 rcases fk i j with h1|h1|h1
 ·exact absurd e (hU h.born hi hj h1)
 ·exact h1
 ·exact absurd e.symm (hU h.born hj hi h1)
theorem fM.val_one (h:fM P kt w b es clock) {zv key v v':Value} (h1:eE zv es key v) (h2:eE zv es key v'):v=v':=by
 rcases h1 with⟨e,he,hk,hv⟩|⟨hn,hv⟩
 ·rcases h2 with⟨e',pV,o8,qR⟩|⟨SS,_⟩
  ·have:=h.HH he pV (hk.trans o8.symm);rw[hv,qR,this]
  ·exact absurd hk (SS e he)
 ·rcases h2 with⟨e',pV,o8,_⟩|⟨_,qR⟩
  ·exact absurd o8 (hn e' pV)
  ·rw[hv,qR]
theorem dD {r:Nat} {a:Array MapEntry} {c:Nat} (hb:w.heap[r]? =some (.map a c)):(getObj r).run P w= .ok (.map a c) w:=by simp[getObj,Sem.run,hb]
theorem run_setObj_map {r:Nat} {a:Array MapEntry} {c:Nat} {o:Obj} (hb:w.heap[r]? =some (.map a c)):(setObj r o).run P w= .ok () {w with heap:=w.heap.setIfInBounds r o}:=by simp[setObj,Sem.run,hb]
theorem fM.push (h:fM P kt w b es clock) {key v:Value} {kl:Lit} (kN:keyOf P kt key=some kl) (hn:∀e∈es,e.key≠key) {w':World} (hw:w'.heap[b]? =some (.map (es++([⟨key,v,clock⟩]:List MapEntry)).toArray (clock+1))):fM P kt w' b (es++[⟨key,v,clock⟩]) (clock+1):=
 ⟨hw,List.pairwise_append.2 ⟨h.born,List.pairwise_singleton _ _,λx hx y hy=>by rw[cO.1 hy];have:=h.lt x hx;show x.born≠clock;omega⟩,(λe he=>by
  rcases dw.1 he with he|he
  ·have:=h.lt e he;omega
  ·rw[cO.1 he];exact Nat.lt_succ_self _),List.pairwise_append.2 ⟨h.keys,List.pairwise_singleton _ _,λx hx y hy=>by rw[cO.1 hy];exact hn x hx⟩,(λe he=>by
  rcases dw.1 he with he|he
  ·exact h.ok e he
  ·rw[cO.1 he];exact⟨kl,kN⟩)⟩
theorem eE.push {zv key:Value} {s:Nat} (hn:∀e∈es,e.key≠key) (ja v':Value):eE zv (es++[⟨key,zv,s⟩]) ja v'↔eE zv es ja v':=by
 constructor
 ·rintro(⟨e,he,hk,hv⟩|⟨h1,h2⟩)
  ·rcases dw.1 he with he|he
   ·exact .inl ⟨e,he,hk,hv⟩
   ·rw[cO.1 he]at hk hv;exact .inr ⟨λe he=>by rw[<-hk];exact hn e he,hv⟩
  ·exact .inr ⟨λe he=>h1 e (jM _ he),h2⟩
 ·rintro(⟨e,he,hk,hv⟩|⟨h1,h2⟩)
  ·exact .inl ⟨e,jM _ he,hk,hv⟩
  ·by_cases hk:key=ja
   ·exact .inl ⟨⟨key,zv,s⟩,by simp,hk,h2⟩
   ·exact .inr ⟨λe he=>by
     rcases dw.1 he with he|he
     ·exact h1 e he
     ·rw[cO.1 he];exact hk,h2⟩
end
section
variable {P:Program} {r:Option Nat} {n:Nat} {L:Sl} {ds:List Deferred} {w:World} {K:Kt} {ops:Array Oper} {rest:List Oper} {d:Nat} {x y z:Operand} {ty:TypeId} {pos:String} {af:Array Edge}
variable {kt:TypeId} {M:aH} {b clock:Nat} {es:List MapEntry}
theorem Rg.x9 {t e:TypeId} (M:aH) (ht:P.underlying t=some (.map kt e)) (hd:Nat.blt d n=true)
  (k:∀b w',w.heap.size<=b->b<w'.heap.size->fM P kt w' b [] 0->Step M w (ins M b) w' aE->Rg P r n ops rest ((d,.map (some b))::L) ds w' K):
  Rg P r n ops ({dst:=some d,op:= .makeMap t none,type:=ty,pos,after:=af,guard:=none}::rest) L ds w K:=by
 refine .op a04 G G hd (.map (some w.heap.size)) (w.alloc (.map #[] 0)) (λρ hρ=>?_) (k w.heap.size _ (br _) (by simp) ⟨dp w _,List.Pairwise.nil,(λe he=>by cases he),List.Pairwise.nil,(λe he=>by cases he)⟩ ((dT M w _).own (br _) (by simp)));simp only[execOp];simp[Instr.makeMap,newObj,Sem.run,run_underlying ht]
theorem Rg.mapEntry {t e:TypeId} {zv key:Value} {size bytes:Nat} {kl:Lit} (ht:P.underlying t=some (.map kt e)) (Kk:Keyed P kt) (hi:TI P e zv size bytes) (hx:ev L x=some (.map (some b))) (hy:ev L y=some key) (hd:Nat.blt d n=true) (kN:keyOf P kt key=some kl) (h:fM P kt w b es clock) (hm:M b)
  (k:∀w' oU FM v s,fM P kt w' b oU FM->eE zv es key v->(⟨key,v,s⟩:MapEntry)∈oU->(∀ja v',eE zv oU ja v'↔eE zv es ja v')->((oU.map (·.key)=es.map (·.key)/\∃e∈es,e.key=key)\/(oU.map (·.key)=es.map (·.key)++[key]/\∀e∈es,e.key≠key))->Step M w M w' (λk=>k=b)->Rg P r n ops rest ((d,.tuple #[v,.int .i64 (s:Nat)])::L) ds w' K):
  Rg P r n ops ({dst:=some d,op:= .mapEntry t x y,type:=ty,pos,after:=af,guard:=none}::rest) L ds w K:=by
 have eK:=ae h.at_;rcases Kk.find w kN es h.ok with⟨h1,h2⟩|⟨j,e0,h1,h2,h3⟩
 ·obtain⟨inf,i1,i2,_,_⟩:=hi.get;have hz:(zeroValue e).run P w= .ok zv w:=by simp[zeroValue,typeInfo,i1,i2]
  have hw:({w with heap:=w.heap.setIfInBounds b (.map (es.toArray.push ⟨key,zv,clock⟩) (clock+1))}:World).heap[b]? =some (.map (es++([⟨key,zv,clock⟩]:List MapEntry)).toArray (clock+1)):=by
   simp[dv,eK]
  refine .op a04 G G hd _ _ (λρ hρ=>?_) (k _ _ _ zv clock (h.push kN h2 hw) (Or.inr ⟨h2,G⟩) (by simp) (eE.push h2) (Or.inr ⟨by simp,h2⟩) (il M hm));simp only[execOp,hρ x _ hx,hρ y _ hy,Instr.mapEntry,cA,run_underlying ht,cT,dD h.at_,Kk.check w false kN,h1,hz,run_setObj_map h.at_];simp[goInt]
 ·have he:e0∈es:=ao h2
  have LI:es.toArray.modify j (λe=>{e with key:=key})=es.toArray:=by
   apply Array.ext_getElem?;intro i;rw[ug]
   split
   ·rename_i Zk
    subst Zk;simp only[ll,h2,fA];rw[<-h3]
   ·rfl
  have hw:({w with heap:=w.heap.setIfInBounds b (.map es.toArray clock)}:World).heap[b]? =some (.map es.toArray clock):=by simp[dv,eK]
  have hj:es.toArray[j]? =some e0:=by simpa using h2
  have kC:(Instr.keyThatStays ((Option.map (fun(e:MapEntry)=>e.key) es.toArray[j]?).getD key) key).run P w= .ok key w:=by
   rw[hj];simp only[fA,Option.getD_some,h3];exact Kk.stays w kN
  refine .op a04 G G hd _ _ (λρ hρ=>?_) (k _ es clock e0.val e0.born ⟨hw,h.born,h.lt,h.keys,h.ok⟩ (Or.inl ⟨e0,he,h3,rfl⟩) (by rw[<-h3];exact he) (λ_ _=>Iff.rfl) (Or.inl ⟨G,e0,he,h3⟩) (il M hm));simp only[execOp,hρ x _ hx,hρ y _ hy,Instr.mapEntry,cA,run_underlying ht,cT,dD h.at_,Kk.check w false kN,h1,kC,LI,run_setObj_map h.at_];simp[goInt,hj]
theorem Rg.entryStore {t:TypeId} {key v0 val:Value} {s:Nat} (hx:ev L x=some (.map (some b))) (hy:ev L y=some (.int .i64 (s:Int))) (hz:ev L z=some val) (h:fM P kt w b es clock) (hm:M b) (kO:(⟨key,v0,s⟩:MapEntry)∈es)
  (k:∀w' oU,fM P kt w' b oU clock->oU.map (·.key)=es.map (·.key)->(∀zv ja v',eE zv oU ja v'↔(ja=key/\v'=val)\/(ja≠key/\eE zv es ja v'))->Step M w M w' (λk=>k=b)->Rg P r n ops rest L ds w' K):
  Rg P r n ops ({dst:=none,op:= .entryStore t x y z,type:=ty,pos,after:=af,guard:=none}::rest) L ds w K:=by
 have eK:=ae h.at_;obtain⟨i,hi⟩:=bO.1 kO;have qE:=(al.1 hi).1
 have ae9:es.toArray.findIdx? (λe=>(e.born:Int)==(s:Int))=some i:=by
  rw[List.findIdx?_toArray,List.findIdx?_eq_some_iff_getElem];refine⟨qE,by rw[(al.1 hi).2];simp,λj hj=>?_⟩;have o7:j<es.length:=by omega
  have:=λe=>h.Dm (an o7) hi e
  simp only[Bool.not_eq_true,beq_eq_false_iff_ne,ne_eq];intro e;have e2:((es[j]).born:Int)=(s:Int):=by simpa using e
  have:=this (by show(es[j]).born=s;omega);omega
 obtain⟨oU,uH⟩:∃oU,oU=es.set i ⟨key,val,s⟩:=⟨_,rfl⟩
 have LI:es.toArray.modify i (λe=>{e with val:=val})=oU.toArray:=by
  apply Array.ext_getElem?;intro j;rw[ug,uH];simp only[ll,eO]
  split
  ·rename_i Zk
   subst Zk;rw[hi];simp
  ·rfl
 have iy:∀j e',oU[j]? =some e'→(j=i/\e'=⟨key,val,s⟩)\/(j≠i/\es[j]? =some e'):=λj e' hj=>by
  rw[uH,eO]at hj
  split at hj
  ·rename_i jf
   left;exact⟨jf.symm,by simpa[qE]using hj.symm⟩
  ·rename_i jf
   exact .inr ⟨λe=>jf e.symm,hj⟩
 have oV:oU.map (·.key)=es.map (·.key):=by
  rw[uH,List.map_set];apply iD;intro j;rw[eO]
  split
  ·rename_i jf
   subst jf;have e:=(al.1 hi).2;simp[qE,e]
  ·rfl
 have LJ:oU.map (·.born)=es.map (·.born):=by
  rw[uH,List.map_set];apply iD;intro j;rw[eO]
  split
  ·rename_i jf
   subst jf;have e:=(al.1 hi).2;simp[qE,e]
  ·rfl
 have hw:({w with heap:=w.heap.setIfInBounds b (.map oU.toArray clock)}:World).heap[b]? =some (.map oU.toArray clock):=by simp[dv,eK]
 have gJ:∀e'∈oU,(e'=⟨key,val,s⟩)\/(e'∈es/\e'.key≠key):=λe' pV=>by
  obtain⟨j,hj⟩:=bO.1 pV;rcases iy j e' hj with⟨_,e⟩|⟨fq,vP⟩
  ·exact .inl e
  ·refine .inr ⟨ao vP,λe=>fq ?_⟩;rcases fk j i with h1|h1|h1
   ·exact absurd e (hU h.keys vP hi h1)
   ·exact h1
   ·exact absurd e.symm (hU h.keys hi vP h1)
 have LK:(⟨key,val,s⟩:MapEntry)∈oU:=ao (i:=i) (by rw[uH,eO];simp[qE])
 have hold:∀e'∈es,e'.key≠key->e'∈oU:=λe' pV fq=>by
  obtain⟨j,hj⟩:=bO.1 pV;refine ao (i:=j) ?_;rw[uH,eO,if_neg]
  ·exact hj
  ·rintro rfl;rw[hi]at hj;cases hj;exact fq G
 have hW:fM P kt {w with heap:=w.heap.setIfInBounds b (.map oU.toArray clock)} b oU clock:=by
  refine⟨hw,?_,λe' pV=>?_,?_,λe' pV=>?_⟩
  ·have:=dV.2 h.born;rw[<-LJ]at this;exact dV.1 this
  ·rcases gJ e' pV with e|⟨h1,_⟩
   ·rw[e];exact(h.lt _ kO:s<clock)
   ·exact h.lt _ h1
  ·have:=dV.2 h.keys;rw[<-oV]at this;exact dV.1 this
  ·rcases gJ e' pV with e|⟨h1,_⟩
   ·rw[e];exact(h.ok _ kO:∃l,keyOf P kt key=some l)
   ·exact h.ok _ h1
 refine .Uf a04 G G _ (λρ hρ=>?_) (k _ oU hW oV (λzv ja v'=>?_) (il M hm))
 ·simp only[execOp,hρ x _ hx,hρ y _ hy,hρ z _ hz,Instr.entryStore,cA,dD h.at_,cT,asInt,asIntOf,l7,ae9,LI,run_setObj_map h.at_]
 ·constructor
  ·rintro(⟨e',pV,hk,hv⟩|⟨h1,h2⟩)
   ·rcases gJ e' pV with e|⟨h3,h4⟩
    ·subst e;exact .inl ⟨hk.symm,hv⟩
    ·exact .inr ⟨by rw[<-hk];exact h4,.inl ⟨e',h3,hk,hv⟩⟩
   ·have fq:ja≠key:=λe=>h1 _ LK e.symm
    exact .inr ⟨fq,.inr ⟨λe' pV=>λe=>by
     by_cases h5:e'.key=key
     ·exact fq (e.symm.trans h5)
     ·exact h1 e' (hold e' pV h5) e,h2⟩⟩
  ·rintro(⟨rfl,rfl⟩|⟨fq,⟨e',pV,hk,hv⟩|⟨h1,h2⟩⟩)
   ·exact .inl ⟨_,LK,G,G⟩
   ·exact .inl ⟨e',hold e' pV (by rw[hk];exact fq),hk,hv⟩
   ·exact .inr ⟨λe' pV=>by
     rcases gJ e' pV with e|⟨h3,_⟩
     ·rw[e];exact λe=>fq e.symm
     ·exact h1 e' h3,h2⟩
theorem Rg.td {t e:TypeId} {zv key:Value} {size bytes:Nat} {kl:Lit} (ht:P.underlying t=some (.map kt e)) (Kk:Keyed P kt) (hi:TI P e zv size bytes) (hx:ev L x=some (.map (some b))) (hy:ev L y=some key) (hd:Nat.blt d n=true) (kN:keyOf P kt key=some kl) (h:fM P kt w b es clock)
  (k:∀v,eE zv es key v->Rg P r n ops rest ((d,v)::L) ds w K):
  Rg P r n ops ({dst:=some d,op:= .lookup t x y false,type:=ty,pos,after:=af,guard:=none}::rest) L ds w K:=by
 rcases Kk.find w kN es h.ok with⟨h1,h2⟩|⟨j,e0,h1,h2,h3⟩
 ·obtain⟨inf,i1,i2,_,_⟩:=hi.get;have hz:(zeroValue e).run P w= .ok zv w:=by simp[zeroValue,typeInfo,i1,i2]
  refine .op a04 G G hd zv w (λρ hρ=>?_) (k zv (Or.inr ⟨h2,G⟩));simp only[execOp,hρ x _ hx,hρ y _ hy,Instr.lookup,cA,run_underlying ht,cT,dD h.at_,l7,Kk.check w _ kN,h1,hz];simp
 ·refine .op a04 G G hd e0.val w (λρ hρ=>?_) (k e0.val (Or.inl ⟨e0,ao h2,h3,G⟩));simp only[execOp,hρ x _ hx,hρ y _ hy,Instr.lookup,cA,run_underlying ht,cT,dD h.at_,l7,Kk.check w _ kN,h1];simp
end
end Go.K
namespace Go.K
inductive Qy where
 |mk (kind:Int) (term:Fd) (words:List (List UInt8)) (kids:List Qy)
noncomputable instance alD:DecidableEq Qy:=λa b=>Classical.propDecidable (a=b)
def Qy.kind:Qy->Int| .mk k _ _ _=>k
def Qy.term:Qy->Fd| .mk _ t _ _=>t
def Qy.words:Qy->List (List UInt8)| .mk _ _ ws _=>ws
def Qy.kids:Qy->List Qy| .mk _ _ _ ks=>ks
def Qy.parts (q:Qy):Int×Fd×List (List UInt8)×List Qy:=(q.kind,q.term,q.words,q.kids)
theorem hY {a b:Qy}:a=b↔a.kind=b.kind/\a.term=b.term/\a.words=b.words/\a.kids=b.kids:=by
 constructor
 ·rintro rfl;exact⟨G,G,G,G⟩
 ·obtain⟨k,t,ws,ks⟩:=a;obtain⟨k',t',xh,US⟩:=b;rintro⟨h1,h2,h3,h4⟩;have h1:k=k':=h1;have h2:t=t':=h2;have h3:ws=xh:=h3;have h4:ks=US:=h4;subst h1 h2 h3 h4;rfl
def RT.UT:RT (List Qy) where
 n:=1
 agg:=false
 R:=λ_ _ xs vs=>xs=[]/\∃a c,vs=[.slice a 0 c]
 len:=by rintro _ _ x vs ⟨_,a,c,rfl⟩;rfl
 one:=by rintro _ _ x vs ⟨_,a,c,rfl⟩ v hv;simp at hv;subst hv;rfl
 le:=λ_ h=>h
abbrev RT.Zl (K:RT (List Qy)):RT Qy:=RT.Ui (RT.pair (RT.int .i64) (RT.pair RT.fd (RT.pair (RT.str.sl) K))) Qy.parts
def RT.UU:Nat->{A:RT Qy // A.n=5/\A.agg=true}
 |0=>⟨RT.Zl RT.UT,rfl,rfl⟩
 |n+1=>⟨RT.Zl ((RT.UU n).1.sl (by rw[(RT.UU n).2.1];decide)),rfl,rfl⟩
def RT.qy (n:Nat):RT Qy:=(RT.UU n).1
theorem BV (n:Nat):(RT.qy n).n=5:=(RT.UU n).2.1
theorem aZ (n:Nat):0<(RT.qy n).n:=by rw[BV];decide
theorem eB (n:Nat):(RT.qy n).agg=true:=(RT.UU n).2.2
theorem LL:∀{n:Nat} {M:aH} {w:World} {q:Qy} {vs:List Value},(RT.qy n).R M w q vs->(RT.qy (n+1)).R M w q vs
 |0,M,w,q,vs,h=>by
  obtain⟨va,vb,rfl,h1,vc,vd,rfl,h2,ve,vf,rfl,h3,hk,a,c,rfl⟩:=h;have hk:q.kids=[]:=hk;refine⟨va,_,G,h1,vc,_,G,h2,ve,_,G,h3,a,c,?_,?_,?_,.inl hk⟩
  ·show _=[Value.slice a q.kids.length c];rw[hk];rfl
  ·show q.kids.length<=c;rw[hk];exact bm _
  ·show q.kids.length<=_;rw[hk];exact bm _
 |n+1,M,w,q,vs,h=>by
  obtain⟨va,vb,rfl,h1,vc,vd,rfl,h2,ve,vf,rfl,h3,a,c,rfl,h4,h5,h6⟩:=h;refine⟨va,_,G,h1,vc,_,G,h2,ve,_,G,h3,a,c,G,h4,h5,h6.imp id fun⟨b,o,e,hb,hx⟩=>⟨b,o,e,hb,λi x hi=>?_⟩⟩;obtain⟨us,g1,g2⟩:=hx i x hi;exact⟨us,LL g1,by rw[(RT.UU n).2.1]at g2;rw[(RT.UU (n+1)).2.1];exact g2⟩
theorem lJ {n:Nat} {M:aH} {w:World} {q:Qy} {v:Value} (h:(RT.qy n).V M w q v):(RT.qy (n+1)).V M w q v:=by
 obtain⟨vs,h1,h2⟩:=h;exact⟨vs,LL h1,by rw[h2];unfold RT.val;rw[eB,eB]⟩
theorem LM {n:Nat} {M:aH} {w:World} {q:Qy} {v:Value} (h:(RT.qy n).V M w q v):∀k,(RT.qy (n+k)).V M w q v
 |0=>h
 |k+1=>lJ (LM h k)
theorem QK (n:Nat):Part (RT.qy (n+1)) (RT.int .i64) Qy.kind 0:=Part.Ui Qy.parts (jz _ _)
theorem Jh (n:Nat):Part (RT.qy (n+1)) RT.fd Qy.term 1:=Part.Ui Qy.parts ((eV _ _).trans (jz _ _))
theorem PZ (n:Nat):Part (RT.qy (n+1)) (RT.str.sl) Qy.words 3:=Part.Ui Qy.parts ((eV _ _).trans ((eV _ _).trans (jz _ _)))
theorem LN (n:Nat):Part (RT.qy (n+1)) ((RT.qy n).sl (aZ n)) Qy.kids 4:=Part.Ui Qy.parts ((eV _ _).trans ((eV _ _).trans (eV _ _)))
theorem IQ {P:Program} {t:TypeId} {z:Value} {bytes:Nat} (h:TI P t z 5 bytes) (n:Nat):TI P t z (RT.qy n).n bytes:=by rw[BV];exact h
theorem mO {n:Nat} {M:aH} {w:World} {q:Qy} {v:Value} (h:(RT.qy (n+1)).V M w q v):∃vw vk,v= .agg #[.int .i64 q.kind,.string ⟨q.term.1.toArray⟩,.string ⟨q.term.2.toArray⟩,vw,vk]/\(-9223372036854775808<=q.kind/\q.kind<=9223372036854775807)/\(q.term.1.length<=140737488355328/\q.term.2.length<=140737488355328)/\(RT.str.sl).V M w q.words vw/\((RT.qy n).sl (aZ n)).V M w q.kids vk:=by
 obtain⟨vs,⟨va,vb,rfl,⟨rfl,h1⟩,vc,vd,rfl,⟨_,_,rfl,⟨rfl,h2⟩,⟨rfl,h3⟩⟩,ve,vf,rfl,h4,h5⟩,rfl⟩:=h;obtain⟨a,c,rfl,h6⟩:=h4;obtain⟨a',c',rfl,h7⟩:=h5;exact⟨_,_,G,h1,⟨h2,h3⟩,iR.2 ⟨a,c,G,h6⟩,iR.2 ⟨a',c',G,h7⟩⟩
theorem Dn {n:Nat} {M:aH} {w:World} {k:Int} {t:Fd} {ws:List (List UInt8)} {ks:List Qy} {vw vk:Value} (h1: -9223372036854775808<=k/\k<=9223372036854775807) (h2:t.1.length<=140737488355328/\t.2.length<=140737488355328) (h3:(RT.str.sl).V M w ws vw) (h4:((RT.qy n).sl (aZ n)).V M w ks vk):
  (RT.qy (n+1)).V M w (.mk k t ws ks) (.agg #[.int .i64 k,.string ⟨t.1.toArray⟩,.string ⟨t.2.toArray⟩,vw,vk]):=by
 obtain⟨a,c,rfl,h5⟩:=iR.1 h3;obtain⟨a',c',rfl,h6⟩:=iR.1 h4;exact⟨_,⟨_,_,G,⟨G,h1⟩,_,_,G,⟨_,_,G,⟨G,h2.1⟩,⟨G,h2.2⟩⟩,_,_,G,⟨a,c,G,h5⟩,⟨a',c',G,h6⟩⟩,G⟩
theorem ya {M:aH} {w:World} {k:Int} {t:Fd} {ws:List (List UInt8)} {vw:Value} (h1: -9223372036854775808<=k/\k<=9223372036854775807) (h2:t.1.length<=140737488355328/\t.2.length<=140737488355328) (h3:(RT.str.sl).V M w ws vw):
  (RT.qy 0).V M w (.mk k t ws []) (.agg #[.int .i64 k,.string ⟨t.1.toArray⟩,.string ⟨t.2.toArray⟩,vw,.slice none 0 0]):=by
 obtain⟨a,c,rfl,h5⟩:=iR.1 h3;exact⟨_,⟨_,_,G,⟨G,h1⟩,_,_,G,⟨_,_,G,⟨G,h2.1⟩,⟨G,h2.2⟩⟩,_,_,G,⟨a,c,G,h5⟩,G,_,_,G⟩,G⟩
theorem BW {n:Nat} {M M':aH} {w w':World} {k:Int} {a b:ByteArray} {ws:List (List UInt8)} {ks:List Qy} {vw vk:Value} (h:(RT.str.sl).V M w ws vw) (h':((RT.qy n).sl (aZ n)).V M' w' ks vk):∀u∈[Value.int .i64 k,.string a,.string b,vw,vk],u.oneCell'=true:=by
 intro u hu;simp only[cY,List.not_mem_nil,or_false]at hu;rcases hu with rfl|rfl|rfl|rfl|rfl
 ·rfl
 ·rfl
 ·rfl
 ·exact jl h G G
 ·exact jl h' G G
section
variable {P:Program} {r:Option Nat} {n:Nat} {L:Sl} {ds:List Deferred} {w:World} {K:Kt} {ops:Array Oper} {rest:List Oper} {d:Nat} {x y z:Operand} {ty:TypeId} {pos:String} {af:Array Edge} {M:aH} {b clock:Nat} {es:List MapEntry} {kt:TypeId}
theorem oh {k:Int} (hk:P.underlying kt=some (.int .i64)) (e:Bool) (w:World):(Instr.checkKey e 10000 kt (.int .i64 k)).run P w= .ok () w:=by
 rw[show(10000:Nat)=9999+1 from rfl,Instr.checkKey,cA,run_underlying hk w];rfl
theorem pW {k:Int} (hk:P.underlying kt=some (.int .i64)) {o:Option (Nat×Value)} (h:Instr.findNow (.int .i64) (.int .i64 k) es 0=some o) (w:World):(Instr.findKey kt (.int .i64 k) es).run P w= .ok o w:=by
 unfold Instr.findKey;rw[cA,run_underlying hk w];simp only[cT,h,l7]
theorem Rg.te {t e:TypeId} {k:Int} {v:Value} (ht:P.underlying t=some (.map kt e)) (hk:P.underlying kt=some (.int .i64)) (hx:ev L x=some (.map (some b))) (hy:ev L y=some (.int .i64 k)) (hz:ev L z=some v) (hb:w.heap[b]? =some (.map es.toArray clock)) (hf:Instr.findNow (.int .i64) (.int .i64 k) es 0=some none) (hm:M b)
  (c:∀w',w'.heap[b]? =some (.map (es++([⟨.int .i64 k,v,clock⟩]:List MapEntry)).toArray (clock+1))->Step M w M w' (λq=>q=b)->Rg P r n ops rest L ds w' K):
  Rg P r n ops ({dst:=none,op:= .insert t x y z,type:=ty,pos,after:=af,guard:=none}::rest) L ds w K:=by
 have eK:=ae hb;refine .Uf a04 rfl rfl {w with heap:=w.heap.setIfInBounds b (.map (es.toArray.push ⟨.int .i64 k,v,clock⟩) (clock+1))} (λρ hρ=>?_) (c _ (by simp[dv,eK]) (il M hm));simp only[execOp,hρ x _ hx,hρ y _ hy,hρ z _ hz,Instr.mapUpdate,cA,run_underlying ht,cT,dD hb,oh hk,pW hk hf,run_setObj_map hb];simp
theorem Rg.QL {t e:TypeId} {k:Int} {zv v:Value} {size bytes:Nat} {o:Option (Nat×Value)} (ht:P.underlying t=some (.map kt e)) (hk:P.underlying kt=some (.int .i64)) (hi:TI P e zv size bytes) (hx:ev L x=some (.map (some b))) (hy:ev L y=some (.int .i64 k)) (hd:Nat.blt d n=true) (hb:w.heap[b]? =some (.map es.toArray clock)) (hf:Instr.findNow (.int .i64) (.int .i64 k) es 0=some o)
  (hv:v=(o.map Prod.snd).getD zv)
  (c:Rg P r n ops rest ((d,.tuple #[v,.bool o.isSome])::L) ds w K):
  Rg P r n ops ({dst:=some d,op:= .lookup t x y true,type:=ty,pos,after:=af,guard:=none}::rest) L ds w K:=by
 obtain⟨inf,i1,i2,_,_⟩:=hi.get;have hz:(zeroValue e).run P w= .ok zv w:=by simp[zeroValue,typeInfo,i1,i2]
 refine .op a04 G G hd _ w (λρ hρ=>?_) c
 cases o with
 |none=>
  simp only[execOp,hρ x _ hx,hρ y _ hy,Instr.lookup,cA,run_underlying ht,cT,dD hb,l7,oh hk,pW hk hf,hz];simp[hv]
 |some p=>
  simp only[execOp,hρ x _ hx,hρ y _ hy,Instr.lookup,cA,run_underlying ht,cT,dD hb,l7,oh hk,pW hk hf];simp[hv]
end
end Go.K
namespace Go.K
open Go.ChangeShapes Go.WideShapes Go.ChangeAt Go.RowKit
def RT.and {α:Type} (A:RT α) (S:α->Prop):RT α where
 n:=A.n
 agg:=A.agg
 R:=λM w x vs=>A.R M w x vs/\S x
 len:=λh=>A.len h.1
 one:=λh=>A.one h.1
 le:=λhl h=>⟨A.le hl h.1,h.2⟩
theorem LO {α:Type} {A:RT α} {S:α->Prop} {hn:0<A.n} {M:aH} {w:World} {xs:List α} {vs:List Value} (h:((A.and S).sl (show 0<(A.and S).n from hn)).R M w xs vs):(A.sl hn).R M w xs vs/\∀x∈xs,S x:=by
 obtain⟨a,c,rfl,h1,h2,h3⟩:=h;rcases h3 with h3|⟨b,o,e,hb,hx⟩
 ·subst h3;exact⟨⟨a,c,rfl,h1,h2,.inl rfl⟩,λx hx=>by cases hx⟩
 ·refine⟨⟨a,c,G,h1,h2,.inr ⟨b,o,e,hb,λi x hi=>?_⟩⟩,λx hm=>?_⟩
  ·obtain⟨us,g1,g2⟩:=hx i x hi;exact⟨us,g1.1,g2⟩
  ·obtain⟨i,hi⟩:=bO.1 hm;obtain⟨us,g1,g2⟩:=hx i x hi;exact g1.2
structure Ji {H:Type} (b:DataW H->Nat):Prop where
 str:∀bytes,bytes.length<=b (.lit (.string bytes))
 sl:∀elems spare x,x∈elems->b x<=b (.slice elems spare)
 agg:∀parts x,x∈parts->b x<=b (.agg parts)
def eo {H:Type} (b:DataW H->Nat) (B F:Nat) {α:Type} (P:Program) (t:TypeId) (A:RT α):Prop:=
 ∀{enc:TypeId×Value->H} {w:World} {base fuel:Nat} {spare:Nat->Bool} {cs:List Value} {d:DataW H} {ps:List MemPlace},fuel<=F->
  DataW.trod enc P w base spare true fuel t cs=some (d,ps)->(∀n∈DataW.weights P t d,n<=reachBytes)->b d<=B->∃x,A.R aE w x cs
section
variable {H:Type} {b:DataW H->Nat} {B F:Nat} {P:Program}
theorem eo.of {α:Type} {A:RT α} {t:TypeId} (h:iW P t A):eo b B F P t A:=λ_ h1 h2 _=>h h1 h2
theorem eo.zero {α:Type} {A:RT α} {t:TypeId}:eo b B 0 P t A:=by
 intro enc w base fuel spare cs d ps hf h;obtain rfl:fuel=0:=by omega
 simp[DataW.trod]at h
theorem eo.str (hb:Ji b) {t:TypeId} (ht:P.underlying t=some .string):eo b B F P t (RT.str.and λx=>x.length<=B):=by
 intro enc w base fuel spare cs d ps hf h hw hB
 cases fuel with
 |zero=>simp[DataW.trod]at h
 |succ n=>
  unfold DataW.trod at h;rw[ht]at h
  split at h<;>simp_all
  rename_i s
  obtain⟨h1,h2,h3⟩:=h;subst h2;have:=hw s.data.toList.length (by simp[DataW.weights]);have hr:reachBytes<=140737488355328:=by decide
  have h4:=hb.str s.data.toList;refine⟨s.data.toList,⟨?_,du this hr⟩,du h4 hB⟩;simp
theorem eo.sl (hb:Ji b) {t e:TypeId} {α:Type} {A:RT α} {hn:0<A.n} (ht:P.underlying t=some (.slice e)) {nb:Nat} (hc:P.cellsOf e=A.n) (Yc:P.bytesOf e=nb) (KG:nb≠0) (hA:eo b B (F-1) P e A):eo b B F P t (A.sl hn):=by
 have Ql:P.bytesOf e≠0:=by rw[Yc];exact KG
 intro enc w base fuel spare cs d ps Ye h hw hB;rcases DataW.trod_slice ht h with⟨h1,h2⟩|⟨a,len,cap,elems,rest,n,Y8,rfl,hx,LP,hl,hm,hlen,BC,Us,hns⟩
 ·exact⟨[],none,0,by rw[h1];rfl,br _,bm _,.inl rfl⟩
 ·injection hx with hd rB
  have sK:DataW.weights P t d=(elems.length+rest.length)*P.bytesOf e::(DataW.weightsAll P e (elems.map (·.1))++DataW.weightsAll P e (rest.map (·.1))):=by
   rw[hd];simp[DataW.weights,ht]
  have h1:(elems.length+rest.length)*P.bytesOf e<=reachBytes:=hw _ (by rw[sK];exact bL ..)
  have h2:elems.length<=140737488355328:=by
   have hr:reachBytes<=140737488355328:=by decide
   have:=Nat.le_mul_of_pos_right (elems.length+rest.length) (Nat.pos_of_ne_zero Ql);omega
  have sy:∀y∈elems,b y.1<=B:=λy hy=>du (hb.sl (elems.map (·.1)) (rest.map (·.1)) y.1 (cx.2 ⟨y,hy,rfl⟩)) (by rw[<-hd];exact hB)
  have ie:∀y∈elems,∀n∈DataW.weights P e y.1,n<=reachBytes:=λy hy n hn=>by
   refine hw n ?_;rw[sK];refine cn _ (jM _ ?_);clear sK hw h1 h2 Us hns BC hlen hd h rB sy hB
   induction elems with
   |nil=>cases hy
   |cons z zs ih=>
    simp only[fe,DataW.weightsAll,dw];rcases cY.1 hy with rfl|hy
    ·exact .inl hn
    ·exact .inr (ih hy)
  have hex:∀i,i<len->∃x vs,A.R aE w x vs/\∀j:Nat,j<A.n->w.cell? (a.add (i*A.n+j))=vs[j]? :=λi hi=>by
   have h3:=BC i hi;rw[an hV,Option.bind_eq_some_iff]at h3;obtain⟨vs,h4,h5⟩:=h3;obtain⟨x,h6⟩:=hA (d:=elems[i].1) (ps:=elems[i].2) hV h5 (ie _ (List.getElem_mem ..)) (sy _ (List.getElem_mem ..));obtain⟨_,h7,h8⟩:=World.cells?_some h4;rw[hc]at h8 h7;refine ⟨x,vs,h6,λj hj=> ?_⟩;rw[<-h8 j hj];unfold Addr.add;by_cases Ut:j=0
   ·subst Ut;simp
   ·by_cases Uu:i*A.n=0
    ·simp[Uu,Ut]
    ·rw[if_neg hV,if_neg Uu,if_neg Ut];simp[Nat.add_assoc]
  rcases Nat.eq_zero_or_pos len with h0|xE
  ·subst h0;exact⟨[],some a,cap,G,bm _,bm _,.inl G⟩
  ·obtain⟨x0,v0,uv,hc0⟩:=hex 0 xE;have qC:0<v0.length:=by rw[A.len uv];exact hn
   have hs:=hc0 0 hn;rw[an qC,Nat.zero_mul,nd]at hs
   have K7:a.spot=none:=by
    unfold Addr.add at hs;rw[if_pos rfl]at hs;unfold World.cell? at hs
    cases hh:a.spot with
    |none=>rfl
    |some s=>rw[hh]at hs;split at hs<;>simp_all
   let f:Nat->α:=λi=>if h:i<len then(hex i h).choose else x0
   have hf:∀i,i<len->∃vs,A.R aE w (f i) vs/\∀j:Nat,j<A.n->w.cell? (a.add (i*A.n+j))=vs[j]? :=λi hi=>by
    have:f i=(hex i hi).choose:=dif_pos hi;rw[this];exact(hex i hi).choose_spec
   refine⟨(List.range len).map f,some a,cap,by simp,by simpa using hl,by simp;omega,.inr ⟨a.block,a.off,by cases a;simp_all,λh=>h.elim,λi x Fx=>?_⟩⟩;have hi:i<len:=by have:=(al.1 Fx).1;simpa using this
   obtain⟨vs,h3,h4⟩:=hf i hi;have YR:x=f i:=by simp[hi]at Fx;exact Fx.symm
   subst YR;refine ⟨vs,h3,λj v hj=> ?_⟩;have o7:j<A.n:=by rw[<-A.len h3];exact(al.1 hj).1
   rw[<-hj,<-h4 j o7,K6 _ _ K7,Nat.add_assoc]
theorem eo.pair (hb:Ji b) {t:TypeId} {fs:Array Field} {f0 f1:Field} {α β:Type} {A:RT α} {A2:RT β} (ht:P.underlying t=some (.struct fs)) (KH:fs[0]? =some f0) (IT:fs[1]? =some f1) (Uv:fs.size=2) (h0:f0.offset=0) (h1:f1.offset=A.n)
  (c0:P.cellsOf f0.type=A.n) (c1:P.cellsOf f1.type=A2.n) (ct:P.cellsOf t=A.n+A2.n) (hA:eo b B F P f0.type A) (hB2:eo b B F P f1.type A2):eo b B F P t (A.pair A2):=by
 intro enc w base fuel spare cs d ps Ye h hw hB;obtain⟨xs,n,Y8,hx,hl,hlen,hf⟩:=DataW.trod_struct ht h;injection hx with hd rB
 have xf:xs.length=2:=by omega
 have sy:∀y∈xs,b y.1<=B:=λy hy=>du (hb.agg (xs.map (·.1)) y.1 (cx.2 ⟨y,hy,rfl⟩)) (by rw[<-hd];exact hB)
 match xs,xf with
 |[y0,y1],_=>
  have g0:=hf 0 f0 KH;have g1:=hf 1 f1 IT;rw[h0,c0]at g0;rw[h1,c1]at g1
  have YS:fs.toList.map (λx=>x.type)=[f0.type,f1.type]:=by
   have Fm:fs.toList.length=2:=by simpa using Uv
   match zP:fs.toList,Fm with
   |[a,c],_=>
    have e0:fs.toList[0]? =some f0:=by simpa using KH
    have e1:fs.toList[1]? =some f1:=by simpa using IT
    rw[zP]at e0 e1;simp at e0 e1;simp[e0,e1]
  have sK:DataW.weights P t d=DataW.weightsEach P [f0.type,f1.type] [y0.1,y1.1]:=by
   rw[hd];simp[DataW.weights,ht,YS]
  obtain⟨x0,e0⟩:=hA (d:=y0.1) (ps:=y0.2) hV g0 (λm hm=>hw m (by rw[sK];exact l8 (j:=0) G G m hm)) (sy _ (by simp));obtain⟨x1,e1⟩:=hB2 (d:=y1.1) (ps:=y1.2) hV g1 (λm hm=>hw m (by rw[sK];exact l8 (j:=1) G G m hm)) (sy _ (by simp));refine⟨(x0,x1),_,_,?_,e0,e1⟩;rw[List.drop_zero,bD (l:=cs.drop A.n) (by rw[cN,hl,ct];omega),fR]
theorem eo.four (hb:Ji b) {t:TypeId} {fs:Array Field} {f0 f1 f2 f3:Field} {α β γ δ:Type} {A:RT α} {A1:RT β} {A2:RT γ} {A3:RT δ} (ht:P.underlying t=some (.struct fs)) (KH:fs[0]? =some f0) (IT:fs[1]? =some f1) (Lq:fs[2]? =some f2) (Yh:fs[3]? =some f3) (Uv:fs.size=4)
  (h0:f0.offset=0) (h1:f1.offset=A.n) (h2:f2.offset=A.n+A1.n) (h3:f3.offset=A.n+A1.n+A2.n)
  (c0:P.cellsOf f0.type=A.n) (c1:P.cellsOf f1.type=A1.n) (c2:P.cellsOf f2.type=A2.n) (c3:P.cellsOf f3.type=A3.n) (ct:P.cellsOf t=A.n+A1.n+A2.n+A3.n) (hA:eo b B (F-1) P f0.type A) (SU:eo b B (F-1) P f1.type A1) (hA2:eo b B (F-1) P f2.type A2) (hA3:eo b B (F-1) P f3.type A3):eo b B F P t (A.pair (A1.pair (A2.pair A3))):=by
 intro enc w base fuel spare cs d ps Ye h hw hB;obtain⟨xs,n,Y8,hx,hl,hlen,hf⟩:=DataW.trod_struct ht h;injection hx with hd rB
 have xf:xs.length=4:=by omega
 have sy:∀y∈xs,b y.1<=B:=λy hy=>du (hb.agg (xs.map (·.1)) y.1 (cx.2 ⟨y,hy,rfl⟩)) (by rw[<-hd];exact hB)
 match xs,xf with
 |[y0,y1,y2,y3],_=>
  have g0:=hf 0 f0 KH;have g1:=hf 1 f1 IT;have g2:=hf 2 f2 Lq;have g3:=hf 3 f3 Yh;rw[h0,c0]at g0;rw[h1,c1]at g1;rw[h2,c2]at g2;rw[h3,c3]at g3
  have YS:fs.toList.map (λx=>x.type)=[f0.type,f1.type,f2.type,f3.type]:=by
   have Fm:fs.toList.length=4:=by simpa using Uv
   match zP:fs.toList,Fm with
   |[a,c,e,g],_=>
    have e0:fs.toList[0]? =some f0:=by simpa using KH
    have e1:fs.toList[1]? =some f1:=by simpa using IT
    have e2:fs.toList[2]? =some f2:=by simpa using Lq
    have e3:fs.toList[3]? =some f3:=by simpa using Yh
    rw[zP]at e0 e1 e2 e3;simp at e0 e1 e2 e3;simp[e0,e1,e2,e3]
  have sK:DataW.weights P t d=DataW.weightsEach P [f0.type,f1.type,f2.type,f3.type] [y0.1,y1.1,y2.1,y3.1]:=by
   rw[hd];simp[DataW.weights,ht,YS]
  obtain⟨x0,e0⟩:=hA (d:=y0.1) (ps:=y0.2) hV g0 (λm hm=>hw m (by rw[sK];exact l8 (j:=0) G G m hm)) (sy _ (by simp));obtain⟨x1,e1⟩:=SU (d:=y1.1) (ps:=y1.2) hV g1 (λm hm=>hw m (by rw[sK];exact l8 (j:=1) G G m hm)) (sy _ (by simp));obtain⟨x2,e2⟩:=hA2 (d:=y2.1) (ps:=y2.2) hV g2 (λm hm=>hw m (by rw[sK];exact l8 (j:=2) G G m hm)) (sy _ (by simp));obtain⟨x3,e3⟩:=hA3 (d:=y3.1) (ps:=y3.2) hV g3 (λm hm=>hw m (by rw[sK];exact l8 (j:=3) G G m hm)) (sy _ (by simp));refine⟨(x0,x1,x2,x3),_,_,?_,e0,_,_,G,e1,_,_,G,e2,e3⟩;rw[List.drop_zero,bD (l:=cs.drop (A.n+A1.n+A2.n)) (by rw[cN,hl,ct];omega)];rw[show cs.drop (A.n+A1.n+A2.n)=(cs.drop (A.n+A1.n)).drop A2.n from by rw[List.drop_drop],fR,show cs.drop (A.n+A1.n)=(cs.drop A.n).drop A1.n from by rw[List.drop_drop],fR,fR]
mutual
def Aa (B:Nat):Qy->Prop
 |.mk _ t ws ks=>(t.1.length<=B/\t.2.length<=B/\∀x∈ws,x.length<=B)/\AP B ks
def AP (B:Nat):List Qy->Prop
 |[]=>True
 |q::ks=>Aa B q/\AP B ks
end
theorem Zm {B:Nat} {ks:List Qy}:AP B ks↔∀q∈ks,Aa B q:=by
 induction ks with
 |nil=>simp[AP]
 |cons q ks ih=>rw[AP,ih,List.forall_mem_cons]
theorem LQ {m:Nat} {M:aH} {w:World} {q:Qy} {vs:List Value} (h:(RT.qy m).R M w q vs):∀k,(RT.qy (m+k)).R M w q vs
 |0=>h
 |k+1=>LL (LQ h k)
theorem eo.qy (hb:Ji b) {t:TypeId} {fs ft:Array Field} {f0 f1 f2 f3 g0 g1:Field} {e2:TypeId} (ht:P.underlying t=some (.struct fs)) (KH:fs[0]? =some f0) (IT:fs[1]? =some f1) (Lq:fs[2]? =some f2) (Yh:fs[3]? =some f3) (Uv:fs.size=4)
  (h0:f0.offset=0) (h1:f1.offset=1) (h2:f2.offset=3) (h3:f3.offset=4) (c0:P.cellsOf f0.type=1) (c1:P.cellsOf f1.type=2) (c2:P.cellsOf f2.type=1) (c3:P.cellsOf f3.type=1) (ct:P.cellsOf t=5)
  (t0:P.underlying f0.type=some (.int .i64)) (t1:P.underlying f1.type=some (.struct ft)) (hg0:ft[0]? =some g0) (hg1:ft[1]? =some g1) (hft:ft.size=2) (o0:g0.offset=0) (o1:g1.offset=1) (d0:P.cellsOf g0.type=1) (d1:P.cellsOf g1.type=1) (u0:P.underlying g0.type=some .string) (u1:P.underlying g1.type=some .string)
  (t2:P.underlying f2.type=some (.slice e2)) (ce:P.cellsOf e2=1) (be:P.bytesOf e2=16) (ue:P.underlying e2=some .string) (t3:P.underlying f3.type=some (.slice t)) (bt:P.bytesOf t=88):
  ∀F,eo b B F P t ((RT.qy F).and (Aa B)):=by
 intro F
 induction F using Nat.strongRecOn with
 |ind F ih=>
 cases F with
 |zero=>exact eo.zero
 |succ F=>
  have hk:eo b B F P f3.type (((RT.qy (F-1)).and (Aa B)).sl (show 0<((RT.qy (F-1)).and (Aa B)).n from aZ _)):=eo.sl hb t3 (by rw[ct];exact(BV _).symm) bt q0 (ih (F-1) hV);have hw2:eo b B F P f2.type ((RT.str.and λx=>x.length<=B).sl (show 0<(RT.str.and λx=>x.length<=B).n from Nat.one_pos)):=eo.sl hb t2 ce be q0 (eo.str hb ue);have Un:eo b B F P f1.type ((RT.str.and λx=>x.length<=B).pair (RT.str.and λx=>x.length<=B)):=eo.pair (A:=RT.str.and λx=>x.length<=B) (A2:=RT.str.and λx=>x.length<=B) hb t1 hg0 hg1 hft o0 o1 d0 d1 c1 (eo.str hb u0) (eo.str hb u1);have h4:eo b B (F+1) P t _:=eo.four (F:=F+1) (A:=RT.int .i64) (A1:=(RT.str.and λx=>x.length<=B).pair (RT.str.and λx=>x.length<=B)) (A2:=(RT.str.and λx=>x.length<=B).sl (show 0<(RT.str.and λx=>x.length<=B).n from Nat.one_pos)) (A3:=((RT.qy (F-1)).and (Aa B)).sl (show 0<((RT.qy (F-1)).and (Aa B)).n from aZ _)) hb ht KH IT Lq Yh Uv h0 h1 h2 h3 c0 c1 c2 c3 ct (eo.of (iW.int t0)) Un hw2 hk;intro enc w base fuel spare cs d ps Ye h hw hB;obtain⟨⟨k,tt,ws,ks⟩,va,vb,rfl,hA,vc,vd,rfl,⟨ve,vf,rfl,⟨Y7,PW⟩,uI,CR⟩,vg,vh,rfl,UW,BX⟩:=h4 Ye h hw hB;obtain⟨aff,afg⟩:=LO (hn:=Nat.one_pos) UW;obtain⟨afh,afi⟩:=LO (hn:=aZ _) BX;refine⟨.mk k tt ws ks,?_,⟨PW,CR,afg⟩,Zm.2 afi⟩
  have afj:((RT.qy F).sl (aZ F)).R aE w ks vh:=by
   obtain⟨a,c,e1,q1,q2,q3⟩:=afh;refine⟨a,c,e1,q1,q2,q3.imp id fun⟨bb,o,e,LP,hx⟩=>⟨bb,o,e,LP,λi x hi=>?_⟩⟩;obtain⟨us,r1,r2⟩:=hx i x hi;refine⟨us,?_,by rw[BV]at r2 ⊢;exact r2⟩;rcases Nat.eq_zero_or_pos F with hF|hF
   ·subst hF;exact r1
   ·have:=LQ r1 1
    rwa [show F-1+1=F by omega]at this
  exact⟨va,_,G,hA,_,_,G,⟨ve,vf,G,Y7,uI⟩,vg,vh,G,aff,afj⟩
theorem eo.afk {t:TypeId} {enc:TypeId×Value->H} {w:World} {base:Nat} {spare:Nat->Bool} {v:Value} {d:DataW H} {ps:List MemPlace} (hA:∀F,eo b B F P t ((RT.qy F).and (Aa B)))
  (h:DataW.Trod enc P w base spare true t v d ps) (hv:∀vs:List Value,vs.length=5->v.cells.toList=vs->(∀u∈vs,u.oneCell'=true)->v= .agg vs.toArray) (hw:∀n∈DataW.weights P t d,n<=reachBytes) (hB:b d<=B):∃n q,(RT.qy (n+1)).V aE w q v/\Aa B q:=by
 obtain⟨fuel,hf⟩:=h;obtain⟨q,hq,hS⟩:=hA fuel (br _) hf hw hB;refine⟨fuel,q,lJ ⟨_,hq,?_⟩,hS⟩;rw[hv _ (by rw[(RT.qy fuel).len hq,BV]) rfl ((RT.qy fuel).one hq)];unfold RT.val;rw[if_pos (eB _)];simp[Value.cells]
end
end Go.K
namespace Go.K
open Go.Proofs
theorem I3:TI Tryz.prog 3 (.int .i64 0) 1 8:=by unfold TI;kernel_rfl
theorem I5:TI Tryz.prog 5 (.int .u8 0) 1 1:=by unfold TI;kernel_rfl
theorem I9:TI Tryz.prog 9 (.string ⟨#[]⟩) 1 16:=by unfold TI;kernel_rfl
theorem mi:TI Tryz.prog 24 (.agg #[(.string ⟨#[]⟩),(.string ⟨#[]⟩)]) 2 32:=by unfold TI;kernel_rfl
theorem vS:TI Tryz.prog 25 (.slice none 0 0) 1 24:=by unfold TI;kernel_rfl
theorem I32:TI Tryz.prog 32 (.int .i64 0) 1 8:=by unfold TI;kernel_rfl
theorem pb:TI Tryz.prog 61 (.slice none 0 0) 1 24:=by unfold TI;kernel_rfl
theorem uJ:TI Tryz.prog 70 (.slice none 0 0) 1 24:=by unfold TI;kernel_rfl
theorem om:TI Tryz.prog 72 (.agg #[(.int .i64 0),(.slice none 0 0)]) 2 32:=by unfold TI;kernel_rfl
theorem FN:TI Tryz.prog 74 (.agg #[(.int .i64 0),(.slice none 0 0),(.int .i64 0)]) 3 40:=by unfold TI;kernel_rfl
theorem j3:TI Tryz.prog 153 (.agg #[(.string ⟨#[]⟩),(.string ⟨#[]⟩)]) 2 32:=by unfold TI;kernel_rfl
theorem afl:TI Tryz.prog 183 (.slice none 0 0) 1 24:=by unfold TI;kernel_rfl
theorem iM:TI Tryz.prog 188 (.agg #[(.int .i64 0),(.slice none 0 0)]) 2 32:=by unfold TI;kernel_rfl
theorem Jj:TI Tryz.prog 218 (.agg #[(.string ⟨#[]⟩),(.int .i64 0)]) 2 24:=by unfold TI;kernel_rfl
theorem rO:TI Tryz.prog 250 (.pointer none) 1 8:=by unfold TI;kernel_rfl
theorem Dp:TI Tryz.prog 293 (.slice none 0 0) 1 24:=by unfold TI;kernel_rfl
theorem FO:TI Tryz.prog 294 (.slice none 0 0) 1 24:=by unfold TI;kernel_rfl
theorem afm:TI Tryz.prog 296 (.agg #[(.slice none 0 0),(.slice none 0 0),(.int .i64 0)]) 3 56:=by unfold TI;kernel_rfl
theorem Ab:TI Tryz.prog 301 (.agg #[(.int .i64 0),(.int .i64 0),(.int .i64 0),(.int .i64 0)]) 4 32:=by unfold TI;kernel_rfl
theorem afn:TI Tryz.prog 365 (.agg #[(.pointer none),(.slice none 0 0)]) 2 32:=by unfold TI;kernel_rfl
theorem UX:placesOf Tryz.prog 24=[(0,1),(1,1)].map some:=by kernel_rfl
theorem B72:placesOf Tryz.prog 72=[(0,1),(1,1)].map some:=by kernel_rfl
theorem B74:placesOf Tryz.prog 74=[(0,2),(2,1)].map some:=by kernel_rfl
theorem QM:placesOf Tryz.prog 188=[(0,1),(1,1)].map some:=by kernel_rfl
theorem Zn:placesOf Tryz.prog 218=[(0,1),(1,1)].map some:=by kernel_rfl
theorem afo:placesOf Tryz.prog 296=[(0,1),(1,1),(2,1)].map some:=by kernel_rfl
theorem afp:placesOf Tryz.prog 301=[(0,1),(1,1),(2,1),(3,1)].map some:=by kernel_rfl
theorem mixed:Tryz.prog.follows .mixedOrders=true:=by kernel_rfl
theorem E29:Enters Tryz.prog 29:=enters Tryz.func29 rfl q0
theorem E47:Enters Tryz.prog 47:=enters Tryz.func47 rfl q0
theorem E58:Enters Tryz.prog 58:=enters Tryz.func58 rfl q0
theorem E74:Enters Tryz.prog 74:=enters Tryz.func74 rfl q0
theorem E95:Enters Tryz.prog 95:=enters Tryz.func95 rfl q0
theorem UY:Enters Tryz.prog 111:=enters Tryz.func111 rfl q0
theorem UZ:Enters Tryz.prog 113:=enters Tryz.func113 rfl q0
theorem afr:Enters Tryz.prog 122:=enters Tryz.func122 rfl q0
theorem afs:Enters Tryz.prog 138:=enters Tryz.func138 rfl q0
theorem U0:Enters Tryz.prog 139:=enters Tryz.func139 rfl q0
theorem aft:Enters Tryz.prog 140:=enters Tryz.func140 rfl q0
theorem afu:Enters Tryz.prog 141:=enters Tryz.func141 rfl q0
theorem Zo:Enters Tryz.prog 142:=enters Tryz.func142 rfl q0
theorem afv:Enters Tryz.prog 146:=enters Tryz.func146 rfl q0
theorem afw:Enters Tryz.prog 147:=enters Tryz.func147 rfl q0
theorem afx:Enters Tryz.prog 148:=enters Tryz.func148 rfl q0
theorem afy:Enters Tryz.prog 149:=enters Tryz.func149 rfl q0
theorem afz:Enters Tryz.prog 170:=enters Tryz.func170 rfl q0
theorem Zp:Enters Tryz.prog 171:=enters Tryz.func171 rfl q0
theorem U1:Enters Tryz.prog 172:=enters Tryz.func172 rfl q0
theorem afA:Enters Tryz.prog 173:=enters Tryz.func173 rfl q0
theorem U2:Enters Tryz.prog 182:=enters Tryz.func182 rfl q0
theorem afB:Enters Tryz.prog 183:=enters Tryz.func183 rfl q0
theorem afC:Enters Tryz.prog 184:=enters Tryz.func184 rfl q0
theorem afD:Enters Tryz.prog 185:=enters Tryz.func185 rfl q0
theorem afE:Enters Tryz.prog 186:=enters Tryz.func186 rfl q0
theorem afF:Enters Tryz.prog 187:=enters Tryz.func187 rfl q0
theorem afG:Enters Tryz.prog 189:=enters Tryz.func189 rfl q0
theorem afH:Enters Tryz.prog 192:=enters Tryz.func192 rfl q0
theorem afI:Enters Tryz.prog 193:=enters Tryz.func193 rfl q0
theorem U3:Enters Tryz.prog 194:=enters Tryz.func194 rfl q0
theorem afJ:Enters Tryz.prog 195:=enters Tryz.func195 rfl q0
theorem Zq:Enters Tryz.prog 239:=enters Tryz.func239 rfl q0
theorem afK:Enters Tryz.prog 240:=enters Tryz.func240 rfl q0
theorem afL:Enters Tryz.prog 241:=enters Tryz.func241 rfl q0
theorem Zr:Enters Tryz.prog 242:=enters Tryz.func242 rfl q0
theorem afM:Enters Tryz.prog 243:=enters Tryz.func243 rfl q0
theorem afN:Enters Tryz.prog 244:=enters Tryz.func244 rfl q0
theorem afO:Enters Tryz.prog 252:=enters Tryz.func252 rfl q0
theorem afP:Enters Tryz.prog 264:=enters Tryz.func264 rfl q0
theorem afQ:Enters Tryz.prog 265:=enters Tryz.func265 rfl q0
theorem Zs:Enters Tryz.prog 272:=enters Tryz.func272 rfl q0
theorem afR:Enters Tryz.prog 273:=enters Tryz.func273 rfl q0
theorem afS:Enters Tryz.prog 280:=enters Tryz.func280 rfl q0
theorem afT:Enters Tryz.prog 281:=enters Tryz.func281 rfl q0
theorem afU:Enters Tryz.prog 282:=enters Tryz.func282 rfl q0
theorem Zt:Enters Tryz.prog 303:=enters Tryz.func303 rfl q0
theorem afV:Enters Tryz.prog 304:=enters Tryz.func304 rfl q0
theorem afW:Enters Tryz.prog 308:=enters Tryz.func308 rfl q0
theorem Zu:Enters Tryz.prog 316:=enters Tryz.func316 rfl q0
set_option maxRecDepth 10000
def fC (c:Int):Bool:=decide ((97<=c/\c<=122)\/(65<=c/\c<=90)\/(192<=c/\c<=591/\c≠215/\c≠247))
def lL (c:Int):Bool:=decide (48<=c/\c<=57)
def dZ (c:Int):Int:=if(65<=c/\c<=90)\/(192<=c/\c<=222/\c≠215)then c+32 else c
theorem Dq (c:Int) (w0:World):
  Spec Tryz.prog 240 #[.int .i64 c] w0 (λv w=>v= .bool (fC c)/\w=w0):=by
 refine a8 (args:=[_]) (fn:=Tryz.f240) Tryz.func240 G (n:=33) Tryz.ntmps240 (T.aP (Rg.bg G G (T.aP (ab G G (ed G G G (ab G G ?_))))));refine aO (g:=5) G (λir=>?_) (λir=>?_)
 ·refine ah G G (ab G G (ah G G (fQ G G G (aU G G G (ab G G ?_)))));refine aO (g:=9) G (λBY=>?_) (λBY=>?_)
  ·refine aj G G G G (aj G G G G (aj G G G G (cC G G G (cC G G G (aj G G G G (aU G G G (ab G G (aj G G G G (aj G G G G (aj G G G G (cC G G G ?_)))))))))));refine cC G G G (aj G G G G (aj G G G G (cC G G G (cC G G G (aj G G G G (aj G G G G (cC G G G (cC G G G (aj G G G G (aU G G G (aF G G ?_)))))))))));refine ad (aJ ?_);exact aM rfl rfl ⟨by simp only[fC];first|rfl|(congr 1;first|(exact(decide_eq_true hV).symm)|(exact(decide_eq_false hV).symm)|(exact decide_eq_decide.2 hV)),rfl⟩
  ·refine ah G G (ab G G (ah G G (ed G G G (ah G G (ab G G ?_)))));refine aO (g:=12) G (λrQ=>?_) (λrQ=>?_)
   ·refine ah G G (ab G G (ah G G (fQ G G G (ah G G (aU G G G (az G G G (ab G G ?_)))))));refine aO (g:=17) G (λyb=>?_) (λyb=>?_)
    ·refine aj G G G G (aj G G G G (aj G G G G (cC G G G (cC G G G (aj G G G G (aj G G G G (cC G G G (cC G G G (aj G G G G (aj G G G G (cC G G G ?_)))))))))));refine cC G G G (aj G G G G (aU G G G (Rg.bg G G (aJ ?_))));exact aM rfl rfl ⟨by simp only[fC];first|rfl|(congr 1;first|(exact(decide_eq_true hV).symm)|(exact(decide_eq_false hV).symm)|(exact decide_eq_decide.2 hV)),rfl⟩
    ·refine ah G G (ab G G (ah G G (ed G G G (ah G G (ab G G ?_)))));refine aO (g:=20) G (λlM=>?_) (λlM=>?_)
     ·refine ah G G (ab G G (ah G G (fQ G G G (ah G G (aU G G G (ah G G (ab G G ?_)))))));refine aO (g:=24) G (λyc=>?_) (λyc=>?_)
      ·refine ah G G (ab G G (ah G G (eW G G G (ah G G (aU G G G (ah G G (ab G G ?_)))))));refine aO (g:=28) G (λyd=>?_) (λyd=>?_)
       ·refine ah G G (ab G G (ah G G (eW G G G (ah G G (aU G G G (az G G G (Rg.bg G G (aJ ?_))))))));exact aM rfl rfl ⟨by simp only[fC];first|rfl|(congr 1;first|(exact(decide_eq_true hV).symm)|(exact(decide_eq_false hV).symm)|(exact decide_eq_decide.2 hV)),rfl⟩
       ·refine aj G G G G (aj G G G G (ah G G (az G G G (az G G G (Rg.bg G G (aJ ?_))))));exact aM rfl rfl ⟨by simp only[fC];first|rfl|(congr 1;first|(exact(decide_eq_true hV).symm)|(exact(decide_eq_false hV).symm)|(exact decide_eq_decide.2 hV)),rfl⟩
      ·refine aj G G G G (aj G G G G (ah G G (az G G G (ah G G (ab G G (aj G G G G (aj G G G G (ah G G (az G G G (az G G G (aF G G ?_)))))))))));refine ad (aJ ?_);exact aM rfl rfl ⟨by simp only[fC];first|rfl|(congr 1;first|(exact(decide_eq_true hV).symm)|(exact(decide_eq_false hV).symm)|(exact decide_eq_decide.2 hV)),rfl⟩
     ·refine aj G G G G (aj G G G G (ah G G (az G G G (ah G G (ab G G (aj G G G G (aj G G G G (ah G G (az G G G (ah G G (ab G G ?_)))))))))));refine aj G G G G (aj G G G G (ah G G (az G G G (az G G G (Rg.bg G G (aJ ?_))))));exact aM rfl rfl ⟨by simp only[fC];first|rfl|(congr 1;first|(exact(decide_eq_true hV).symm)|(exact(decide_eq_false hV).symm)|(exact decide_eq_decide.2 hV)),rfl⟩
   ·refine aj G G G G (aj G G G G (ah G G (az G G G (az G G G (ab G G (ah G G (ab G G (ah G G (ed G G G (ah G G (ab G G ?_)))))))))));refine aO (g:=20) G (λlM=>?_) (λlM=>?_)
    ·refine ah G G (ab G G (ah G G (fQ G G G (ah G G (aU G G G (ah G G (ab G G ?_)))))));refine aO (g:=24) G (λyc=>?_) (λyc=>?_)
     ·refine ah G G (ab G G (ah G G (eW G G G (ah G G (aU G G G (ah G G (ab G G ?_)))))));refine aO (g:=28) G (λyd=>?_) (λyd=>?_)
      ·refine ah G G (ab G G (ah G G (eW G G G (ah G G (aU G G G (az G G G (Rg.bg G G (aJ ?_))))))));exact aM rfl rfl ⟨by simp only[fC];first|rfl|(congr 1;first|(exact(decide_eq_true hV).symm)|(exact(decide_eq_false hV).symm)|(exact decide_eq_decide.2 hV)),rfl⟩
      ·refine aj G G G G (aj G G G G (ah G G (az G G G (az G G G (Rg.bg G G (aJ ?_))))));exact aM rfl rfl ⟨by simp only[fC];first|rfl|(congr 1;first|(exact(decide_eq_true hV).symm)|(exact(decide_eq_false hV).symm)|(exact decide_eq_decide.2 hV)),rfl⟩
     ·refine aj G G G G (aj G G G G (ah G G (az G G G (ah G G (ab G G (aj G G G G (aj G G G G (ah G G (az G G G (az G G G (aF G G ?_)))))))))));refine ad (aJ ?_);exact aM rfl rfl ⟨by simp only[fC];first|rfl|(congr 1;first|(exact(decide_eq_true hV).symm)|(exact(decide_eq_false hV).symm)|(exact decide_eq_decide.2 hV)),rfl⟩
    ·refine aj G G G G (aj G G G G (ah G G (az G G G (ah G G (ab G G (aj G G G G (aj G G G G (ah G G (az G G G (ah G G (ab G G ?_)))))))))));refine aj G G G G (aj G G G G (ah G G (az G G G (az G G G (Rg.bg G G (aJ ?_))))));exact aM rfl rfl ⟨by simp only[fC];first|rfl|(congr 1;first|(exact(decide_eq_true hV).symm)|(exact(decide_eq_false hV).symm)|(exact decide_eq_decide.2 hV)),rfl⟩
 ·refine aj G G G G (aj G G G G (az G G G (ab G G (ah G G (ab G G (ah G G (ed G G G (ah G G (ab G G ?_)))))))));refine aO (g:=12) G (λrQ=>?_) (λrQ=>?_)
  ·refine ah G G (ab G G (ah G G (fQ G G G (ah G G (aU G G G (az G G G (ab G G ?_)))))));refine aO (g:=17) G (λyb=>?_) (λyb=>?_)
   ·refine aj G G G G (aj G G G G (aj G G G G (cC G G G (cC G G G (aj G G G G (aj G G G G (cC G G G (cC G G G (aj G G G G (aj G G G G (cC G G G ?_)))))))))));refine cC G G G (aj G G G G (aU G G G (Rg.bg G G (aJ ?_))));exact aM rfl rfl ⟨by simp only[fC];first|rfl|(congr 1;first|(exact(decide_eq_true hV).symm)|(exact(decide_eq_false hV).symm)|(exact decide_eq_decide.2 hV)),rfl⟩
   ·refine ah G G (ab G G (ah G G (ed G G G (ah G G (ab G G ?_)))));refine aO (g:=20) G (λlM=>?_) (λlM=>?_)
    ·refine ah G G (ab G G (ah G G (fQ G G G (ah G G (aU G G G (ah G G (ab G G ?_)))))));refine aO (g:=24) G (λyc=>?_) (λyc=>?_)
     ·refine ah G G (ab G G (ah G G (eW G G G (ah G G (aU G G G (ah G G (ab G G ?_)))))));refine aO (g:=28) G (λyd=>?_) (λyd=>?_)
      ·refine ah G G (ab G G (ah G G (eW G G G (ah G G (aU G G G (az G G G (Rg.bg G G (aJ ?_))))))));exact aM rfl rfl ⟨by simp only[fC];first|rfl|(congr 1;first|(exact(decide_eq_true hV).symm)|(exact(decide_eq_false hV).symm)|(exact decide_eq_decide.2 hV)),rfl⟩
      ·refine aj G G G G (aj G G G G (ah G G (az G G G (az G G G (Rg.bg G G (aJ ?_))))));exact aM rfl rfl ⟨by simp only[fC];first|rfl|(congr 1;first|(exact(decide_eq_true hV).symm)|(exact(decide_eq_false hV).symm)|(exact decide_eq_decide.2 hV)),rfl⟩
     ·refine aj G G G G (aj G G G G (ah G G (az G G G (ah G G (ab G G (aj G G G G (aj G G G G (ah G G (az G G G (az G G G (aF G G ?_)))))))))));refine ad (aJ ?_);exact aM rfl rfl ⟨by simp only[fC];first|rfl|(congr 1;first|(exact(decide_eq_true hV).symm)|(exact(decide_eq_false hV).symm)|(exact decide_eq_decide.2 hV)),rfl⟩
    ·refine aj G G G G (aj G G G G (ah G G (az G G G (ah G G (ab G G (aj G G G G (aj G G G G (ah G G (az G G G (ah G G (ab G G ?_)))))))))));refine aj G G G G (aj G G G G (ah G G (az G G G (az G G G (Rg.bg G G (aJ ?_))))));exact aM rfl rfl ⟨by simp only[fC];first|rfl|(congr 1;first|(exact(decide_eq_true hV).symm)|(exact(decide_eq_false hV).symm)|(exact decide_eq_decide.2 hV)),rfl⟩
  ·refine aj G G G G (aj G G G G (ah G G (az G G G (az G G G (ab G G (ah G G (ab G G (ah G G (ed G G G (ah G G (ab G G ?_)))))))))));refine aO (g:=20) G (λlM=>?_) (λlM=>?_)
   ·refine ah G G (ab G G (ah G G (fQ G G G (ah G G (aU G G G (ah G G (ab G G ?_)))))));refine aO (g:=24) G (λyc=>?_) (λyc=>?_)
    ·refine ah G G (ab G G (ah G G (eW G G G (ah G G (aU G G G (ah G G (ab G G ?_)))))));refine aO (g:=28) G (λyd=>?_) (λyd=>?_)
     ·refine ah G G (ab G G (ah G G (eW G G G (ah G G (aU G G G (az G G G (Rg.bg G G (aJ ?_))))))));exact aM rfl rfl ⟨by simp only[fC];first|rfl|(congr 1;first|(exact(decide_eq_true hV).symm)|(exact(decide_eq_false hV).symm)|(exact decide_eq_decide.2 hV)),rfl⟩
     ·refine aj G G G G (aj G G G G (ah G G (az G G G (az G G G (Rg.bg G G (aJ ?_))))));exact aM rfl rfl ⟨by simp only[fC];first|rfl|(congr 1;first|(exact(decide_eq_true hV).symm)|(exact(decide_eq_false hV).symm)|(exact decide_eq_decide.2 hV)),rfl⟩
    ·refine aj G G G G (aj G G G G (ah G G (az G G G (ah G G (ab G G (aj G G G G (aj G G G G (ah G G (az G G G (az G G G (aF G G ?_)))))))))));refine ad (aJ ?_);exact aM rfl rfl ⟨by simp only[fC];first|rfl|(congr 1;first|(exact(decide_eq_true hV).symm)|(exact(decide_eq_false hV).symm)|(exact decide_eq_decide.2 hV)),rfl⟩
   ·refine aj G G G G (aj G G G G (ah G G (az G G G (ah G G (ab G G (aj G G G G (aj G G G G (ah G G (az G G G (ah G G (ab G G ?_)))))))))));refine aj G G G G (aj G G G G (ah G G (az G G G (az G G G (Rg.bg G G (aJ ?_))))));exact aM rfl rfl ⟨by simp only[fC];first|rfl|(congr 1;first|(exact(decide_eq_true hV).symm)|(exact(decide_eq_false hV).symm)|(exact decide_eq_decide.2 hV)),rfl⟩
theorem FP (c:Int) (w0:World):
  Spec Tryz.prog 241 #[.int .i64 c] w0 (λv w=>v= .bool (lL c)/\w=w0):=by
 refine a8 (args:=[_]) (fn:=Tryz.f241) Tryz.func241 G (n:=9) Tryz.ntmps241 (T.aP (Rg.bg G G (T.aP (ab G G (ed G G G (ab G G ?_))))));refine aO (g:=5) G (λir=>?_) (λir=>?_)
 ·refine ah G G (ab G G (ah G G (fQ G G G (aU G G G (Rg.bg G G (aJ ?_))))));exact aM rfl rfl ⟨by simp only[lL];first|rfl|(congr 1;first|(exact(decide_eq_true hV).symm)|(exact(decide_eq_false hV).symm)|(exact decide_eq_decide.2 hV)),rfl⟩
 ·refine aj G G G G (aj G G G G (az G G G (Rg.bg G G (aJ ?_))));exact aM rfl rfl ⟨by simp only[lL];first|rfl|(congr 1;first|(exact(decide_eq_true hV).symm)|(exact(decide_eq_false hV).symm)|(exact decide_eq_decide.2 hV)),rfl⟩
theorem AQ (c:Int) (w0:World) (hc:0<=c/\c<=1114111):
  Spec Tryz.prog 242 #[.int .i64 c] w0 (λv w=>v= .int .i64 (dZ c)/\w=w0):=by
 refine a8 (args:=[_]) (fn:=Tryz.f242) Tryz.func242 G (n:=24) Tryz.ntmps242 (T.aP (Rg.bg G G (aN (T.aP (ab G G (ed G G G (ab G G ?_)))))));refine aO (g:=5) G (λir=>?_) (λir=>?_)
 ·refine ah G G (ab G G (ah G G (fQ G G G (aU G G G (ab G G ?_)))));refine aO (g:=9) G (λBY=>?_) (λBY=>?_)
  ·refine aj G G G G (aj G G G G (aj G G G G (cC G G G (cC G G G (aj G G G G (aj G G G G (cC G G G (cC G G G (aj G G G G (aU G G G (ad ?_)))))))))));refine kJ G (T.aP (ab G G (bB G G G hV (Rg.bg G G (aJ ?_)))));exact a47
  ·refine ah G G (ab G G (ah G G (ed G G G (ah G G (ab G G ?_)))));refine aO (g:=12) G (λrQ=>?_) (λrQ=>?_)
   ·refine ah G G (ab G G (ah G G (fQ G G G (ah G G (aU G G G (ah G G (ab G G ?_)))))));refine aO (g:=16) G (λLR=>?_) (λLR=>?_)
    ·refine ah G G (ab G G (ah G G (eW G G G (ah G G (aU G G G (az G G G (ad ?_)))))));refine bF G (λc1=>?_) (λc1=>?_)
     ·refine T.aP (ab G G (bB G G G hV (Rg.bg G G (aJ ?_))));exact a47
     ·refine aR (T.aP (ab G G (Rg.bg G G (aJ ?_))));exact a19
    ·refine aj G G G G (aj G G G G (ah G G (az G G G (az G G G (ad (iS G (aR (T.aP (ab G G (aF G G ?_))))))))));refine ad (aJ ?_);exact a19
   ·refine aj G G G G (aj G G G G (ah G G (az G G G (ah G G (ab G G (aj G G G G (aj G G G G (ah G G (az G G G (az G G G (ad ?_)))))))))));refine iS G (aR (T.aP (ab G G (Rg.bg G G (aJ ?_)))));exact a19
 ·refine aj G G G G (aj G G G G (az G G G (ab G G (ah G G (ab G G (ah G G (ed G G G (ah G G (ab G G ?_)))))))));refine aO (g:=12) G (λrQ=>?_) (λrQ=>?_)
  ·refine ah G G (ab G G (ah G G (fQ G G G (ah G G (aU G G G (ah G G (ab G G ?_)))))));refine aO (g:=16) G (λLR=>?_) (λLR=>?_)
   ·refine ah G G (ab G G (ah G G (eW G G G (ah G G (aU G G G (az G G G (ad ?_)))))));refine bF G (λc1=>?_) (λc1=>?_)
    ·refine T.aP (ab G G (bB G G G hV (Rg.bg G G (aJ ?_))));exact a47
    ·refine aR (T.aP (ab G G (Rg.bg G G (aJ ?_))));exact a19
   ·refine aj G G G G (aj G G G G (ah G G (az G G G (az G G G (ad (iS G (aR (T.aP (ab G G (aF G G ?_))))))))));refine ad (aJ ?_);exact a19
  ·refine aj G G G G (aj G G G G (ah G G (az G G G (ah G G (ab G G (aj G G G G (aj G G G G (ah G G (az G G G (az G G G (ad ?_)))))))))));refine iS G (aR (T.aP (ab G G (Rg.bg G G (aJ ?_)))));exact a19
end Go.K
namespace Go.Proofs
open Go.Shelf
def Tryz.vT:Go.Shelf.Ren:=⟨fun|169=>282|n=>n,fun|70=>363|9=>9|0=>0|72=>365|37=>293|127=>394|3=>3|5=>5|n=>n,fun|n=>n⟩
theorem Tryz.QN:Go.Proofs.Lays.n169 Tryz.prog Tryz.vT:={
 mixed:=by kernel_rfl
 f169:=Tryz.func282.trans a02
 t0:=zS
 a0:=Tryz.isAgg0
 z0:=Tryz.sizeOf0
 v0:=Tryz.zeroValue0
 t3:=ak
 a3:=Tryz.isAgg3
 z3:=Tryz.sizeOf3
 v3:=Tryz.zeroValue3
 t9:=aA
 a9:=Tryz.isAgg9
 z9:=zT
 v9:=mW
 t37:=bT
 a37:=Tryz.isAgg293
 z37:=Tryz.sizeOf293
 v37:=Tryz.zeroValue293
 t70:=Tryz.underlying363
 a70:=Tryz.isAgg363
 z70:=Tryz.sizeOf363
 v70:=Tryz.zeroValue363
 t72:=Tryz.underlying365
 a72:=Tryz.isAgg365
 z72:=Tryz.sizeOf365
 v72:=Tryz.zeroValue365
 t127:=Tryz.underlying394
 a127:=Tryz.isAgg394
 z127:=Tryz.sizeOf394
 v127:=Tryz.zeroValue394}
def Tryz.Dr:Go.Shelf.Ren:=⟨fun|119=>308|n=>n,fun|21=>21|4=>4|n=>n,fun|n=>n⟩
theorem Tryz.QO:Go.Proofs.Lays.n119 Tryz.prog Tryz.Dr:={
 mixed:=by kernel_rfl
 f119:=Tryz.func308.trans a02
 t4:=zU
 a4:=Tryz.isAgg4
 z4:=Tryz.sizeOf4
 v4:=Tryz.zeroValue4
 t21:=Tryz.underlying21
 a21:=Tryz.isAgg21
 z21:=Tryz.sizeOf21
 v21:=Tryz.zeroValue21}
def Tryz.Ds:Go.Shelf.Ren:=⟨fun|106=>147|213=>188|265=>254|n=>n,fun|9=>9|3=>3|n=>n,fun|n=>n⟩
theorem Tryz.QP:Go.Proofs.Lays.n106 Tryz.prog Tryz.Ds:={
 mixed:=by kernel_rfl
 f106:=Tryz.func147.trans a02
 f213:=Tryz.func188.trans a02
 f265:=Tryz.func254.trans a02
 t3:=ak
 a3:=Tryz.isAgg3
 z3:=Tryz.sizeOf3
 v3:=Tryz.zeroValue3
 t9:=aA
 a9:=Tryz.isAgg9
 z9:=zT
 v9:=mW}
theorem Tryz.tf:Builder.Extra Tryz.prog Tryz.vT:={
 sizeBuilder:=by kernel_rfl
 liesBuilder:=by kernel_rfl
 t5:=cP
 a5:=Tryz.isAgg5
 z5:=Tryz.sizeOf5
 v5:=Tryz.zeroValue5
 infoByte:=by kernel_rfl
 cellsByte:=by kernel_rfl
 sizeByte:=by kernel_rfl
 neB5:=by decide}
def Tryz.vU:Go.Shelf.Ren:=⟨fun|168=>280|240=>306|242=>307|276=>317|278=>318|n=>n,fun|0=>0|3=>3|4=>4|5=>5|9=>9|20=>20|21=>21|37=>293|46=>262|51=>336|70=>363|72=>365|75=>367|80=>371|164=>399|n=>n,fun|n=>n⟩
theorem Tryz.QQ:Go.Proofs.Lays.n168 Tryz.prog Tryz.vU:={
 mixed:=by kernel_rfl
 f168:=Tryz.func280.trans a02
 f240:=Tryz.func306.trans a02
 f242:=Tryz.func307.trans a02
 f276:=Tryz.func317.trans a02
 f278:=Tryz.func318.trans a02
 t0:=zS
 a0:=Tryz.isAgg0
 z0:=Tryz.sizeOf0
 v0:=Tryz.zeroValue0
 t3:=ak
 a3:=Tryz.isAgg3
 z3:=Tryz.sizeOf3
 v3:=Tryz.zeroValue3
 t4:=zU
 a4:=Tryz.isAgg4
 z4:=Tryz.sizeOf4
 v4:=Tryz.zeroValue4
 t5:=cP
 a5:=Tryz.isAgg5
 z5:=Tryz.sizeOf5
 v5:=Tryz.zeroValue5
 t9:=aA
 a9:=Tryz.isAgg9
 z9:=zT
 v9:=mW
 t20:=Tryz.underlying20
 a20:=Tryz.isAgg20
 z20:=Tryz.sizeOf20
 v20:=Tryz.zeroValue20
 t21:=Tryz.underlying21
 a21:=Tryz.isAgg21
 z21:=Tryz.sizeOf21
 v21:=Tryz.zeroValue21
 t37:=bT
 a37:=Tryz.isAgg293
 z37:=Tryz.sizeOf293
 v37:=Tryz.zeroValue293
 t46:=Tryz.underlying262
 a46:=Tryz.isAgg262
 z46:=Tryz.sizeOf262
 v46:=Tryz.zeroValue262
 t51:=Tryz.underlying336
 a51:=Tryz.isAgg336
 z51:=Tryz.sizeOf336
 v51:=Tryz.zeroValue336
 t70:=Tryz.underlying363
 a70:=Tryz.isAgg363
 z70:=Tryz.sizeOf363
 v70:=Tryz.zeroValue363
 t72:=Tryz.underlying365
 a72:=Tryz.isAgg365
 z72:=Tryz.sizeOf365
 v72:=Tryz.zeroValue365
 t75:=Tryz.underlying367
 a75:=Tryz.isAgg367
 z75:=Tryz.sizeOf367
 v75:=Tryz.zeroValue367
 t164:=Tryz.underlying399
 a164:=Tryz.isAgg399
 z164:=Tryz.sizeOf399
 v164:=Tryz.zeroValue399}
theorem Tryz.tg:Builder.Extra Tryz.prog Tryz.vU where
 sizeBuilder:=by kernel_rfl
 liesBuilder:=by kernel_rfl
 t5:=cP
 a5:=Tryz.isAgg5
 z5:=Tryz.sizeOf5
 v5:=Tryz.zeroValue5
 infoByte:=by kernel_rfl
 cellsByte:=by kernel_rfl
 sizeByte:=by kernel_rfl
 neB5:=by decide
end Go.Proofs
namespace Go.K
open Go.Proofs
set_option maxRecDepth 10000
open Go.RowKit Go.Shelf
theorem FQ (r:Int) (w:World):Spec Tryz.prog 308 #[.int .i32 r] w (λv w'=>v= .bool (Lib.validRune r)/\w'=w):=(Any.utf8_ValidRune Tryz.QO r w).mono λe w' ⟨h1,h2⟩=>⟨_,h1,rfl,h2⟩
theorem Jk {B b:Nat} {bs:List Value} {r:Int} (w:World) (hr: -2147483648<=r/\r<=2147483647) (h:Lib.IsBuilderF 365 5 B b bs w) (hl:bs.length+4<=140737488355328) (hB:B<=w.heap.size):
  Spec Tryz.prog 280 #[.pointer (some ⟨b,0,none⟩),.int .i32 r] w (λv w'=>Lib.IsBuilderF 365 5 B b (bs++Lib.runeCells r) w'∧Below B w w'):=
 (Any.Builder_WriteRune_k Tryz.QQ Tryz.tg B b bs r hr.1 hr.2 w h hl hB).mono λe w' ⟨h1,h2,h3,_⟩=>⟨_,h1,.inr h2,h3⟩
theorem LS {B b:Nat} {l:List UInt8} (w:World) (h:Lib.IsBuilderF 365 5 B b (Lib.byteCells l) w) (hB:B<=w.heap.size):
  Spec Tryz.prog 282 #[.pointer (some ⟨b,0,none⟩)] w (λv w'=>v= .string ⟨l.toArray⟩/\Below B w w'):=
 (Any.Builder_String_any_k Tryz.QN Tryz.tf B b l w h hB).mono λe w' ⟨h1,_,h3,_⟩=>⟨_,h1,rfl,h3⟩
theorem wrap32 {c:Int} (h:0<=c/\c<=1114111):IntKind.i32.wrap c=c:=by
 show(if(true&&decide (c%4294967296>=2147483648))=true then c%4294967296-4294967296 else c%4294967296)=c;rw[if_neg (by simp only[dr,decide_eq_true_eq];omega)];omega
def qp (c:Int):Int:=if c<0\/c>1114111\/Lib.validRune c=false then 65533 else c
theorem HI (c:Int):0<=qp c/\qp c<=1114111:=by unfold qp;split<;>omega
def gL (l:List Int):List UInt8:=l.flatMap λc=>Lib.encodeRune (qp c)
theorem kf (l:List Int) (c:Int):gL (l++[c])=gL l++Lib.encodeRune (qp c):=by simp[gL]
theorem QR (r:Int):(Lib.encodeRune r).length<=4:=by have:=(Lib.encodeRuneZ_length r).2;simpa[Lib.encodeRune]using this
theorem gj (l:List Int):(gL l).length<=4*l.length:=by
 induction l with
 |nil=>simp[gL]
 |cons c l ih=>
  have:=QR (qp c);simp only[gL,List.flatMap_cons,bG,cz]at ih ⊢;omega
theorem ye (l:List Int) (c:Int):Lib.byteCells (gL l)++Lib.runeCells (qp c)=Lib.byteCells (gL (l++[c])):=by
 rw[kf,<-Lib.byteCells_encodeRune];simp[Lib.byteCells]
theorem LU (c:Int) (w0:World):
  Spec Tryz.prog 281 #[.int .i64 c] w0 (λv w=>v= .int .i32 (qp c)/\w=w0):=by
 refine a8 (args:=[_]) (fn:=Tryz.f281) Tryz.func281 G (n:=17) Tryz.ntmps281 (T.aP (Rg.bg G G (aN (T.aP (ab G G (cy G G G (ab G G ?_)))))));refine aO (g:=5) G (λir=>?_) (λir=>?_)
 ·refine aj G G G G (aj G G G G (aU G G G (ab G G (aj G G G G (aj G G G G (aj G G G G (aj G G G G (aU G G G (ad (kJ G (aN ?_)))))))))));refine aL (Rg.bg G G (aJ ?_));exact aM rfl rfl ⟨by rw[qp,if_pos ad4],G⟩
 ·refine ah G G (ab G G (ah G G (fU G G G (az G G G (ab G G ?_)))));refine aO (g:=9) G (λBY=>?_) (λBY=>?_)
  ·refine aj G G G G (aj G G G G (aj G G G G (aj G G G G (aU G G G (ad (kJ G (T.aP (Rg.bg G G (aJ ?_)))))))));exact aM rfl rfl ⟨by rw[qp,if_pos ad4],G⟩
  ·refine ah G G (ab G G (ah G G (vJ ak Tryz.underlying21 G G (bh (v':= .int .i32 c) (congrArg (Value.int .i32) (wrap32 hV)) (ah G G ?_)))));refine aQ G G afW (FQ _ _) (λr wc hc=>?_);obtain⟨rfl,rfl⟩:=hc;refine ah rfl rfl (iv rfl rfl (bh (v':= .bool (decide (Lib.validRune c=false))) (by cases Lib.validRune c<;>rfl) (az rfl rfl rfl (ad ?_))));refine bF G (λc1=>?_) (λc1=>?_)
   ·refine T.aP (Rg.bg G G (aJ ?_));exact aM rfl rfl ⟨by rw[qp,if_pos ad4],G⟩
   ·refine aR (T.aP (ab G G (vJ ak Tryz.underlying21 G G (bh (v':= .int .i32 c) (congrArg (Value.int .i32) (wrap32 hV)) (Rg.bg G G (aJ ?_))))));exact aM rfl rfl ⟨by rw[qp,if_neg (by rintro(h|h|h)<;>first|omega|exact absurd h Ub)],rfl⟩
theorem Jl {M:aH} {xs:List Int} {v0:Value} (w0:World) (hM:Lt M w0) (hv:((RT.int .i64).sl).V M w0 xs v0) (hl:xs.length<=4000000):
  Spec Tryz.prog 243 #[v0] w0 (λv w=>v= .string ⟨(gL xs).toArray⟩/\Step M w0 M w aE):=by
 refine a8 (args:=[_]) (fn:=Tryz.f243) Tryz.func243 G (n:=17) Tryz.ntmps243 (T.aP (Rg.bg G G (T.aP ?_)));refine ec M afn G (λb w1 p1 q1 g1 s1=>?_);have uI:Lib.IsBuilderF 365 5 w0.heap.size b (Lib.byteCells (gL (xs.take 0))) w1:= .of (.inl ⟨p1,.slice none 0 0,g1,World.ownsRow_nil _ _ _ _,by simp[Value.ownBlock]⟩);have S1:Below w0.heap.size w0 w1:=s1.below;refine ad (aN (T.aP (ab G G (bN av G hv G (ab G G (ad (aY ?_)))))));refine dz (σ:=Nat) (λk=>[(3,.pointer (some ⟨b,0,none⟩)),(6,v0),(7,.int .i64 (xs.length:Int)),(8,.int .i64 (k:Int))]) (λk w=>Lib.IsBuilderF 365 5 w0.heap.size b (Lib.byteCells (gL (xs.take k))) w/\Below w0.heap.size w0 w/\k<=xs.length) (λk=>xs.length-k) 0 Uc ?_ ?_
 ·exact⟨uI,S1,bm _⟩
 ·rintro k w ⟨hb,S,hk⟩;refine T.aP (cy G G G (ad (aN ?_)));refine bF G (λc3=>?_) (λc3=>?_)
  ·refine aR (aN (aY (T.aP ?_)));refine cD (M:=M) av I3 G G G hv (Step.BT S M).le hV (λu4 c FR KJ=>?_);refine b4 ak G G KJ cf (λin4=>?_);refine Rg.bg G G (aL (ab G G ?_));refine aQ G G afT (LU c _) (λr wc hc=>?_);obtain⟨rfl,rfl⟩:=hc;refine aQ G G afS (Jk _ (by have:=HI c;omega) hb (by rw[Lib.byteCells_length];have:=gj (xs.take k);rw[a7]at this;omega) S.size) (λr5 w5 hc=>?_);obtain⟨hb5,S5⟩:=hc;have tk:xs.take (k+1)=xs.take k++[c]:=by rw[bX];simp only[aw]at FR;rw[FR];rfl
   rw[ye,<-tk]at hb5;have S6:=S.trans S5;refine ad (aL (bB G G G hV (ab G G (ad ?_))));refine⟨G,k+1,Uc,?_,?_⟩
   ·exact⟨hb5,S6,by omega⟩
   ·omega
  ·refine cQ (T.aP ?_);refine aQ G G afU (LS _ hb S.size) (λr7 w7 hc=>?_);obtain⟨rfl,S7⟩:=hc;refine Rg.bg G G (aJ ?_);have e:xs.take k=xs:=bD hV;rw[e];exact aM G G ⟨G,Step.BT (S.trans S7) M⟩
end Go.K
namespace Go.K
def nO (c:Int):Int:=if 194<=c/\c<224 then 2 else if 224<=c/\c<240 then 3 else if 240<=c/\c<245 then 4 else 0
def gR (c:Int):Int:=if 194<=c/\c<224 then 128 else if 224<=c/\c<240 then 2048 else if 240<=c/\c<245 then 65536 else 0
def uK (c:Int):Int:=if 194<=c/\c<224 then c-192 else if 224<=c/\c<240 then c-224 else if 240<=c/\c<245 then c-240 else 0
def vO (l:List UInt8):Nat->Int
 |0=>uK (jN l 0)
 |k+1=>64*vO l k+jN l (k+1)-128
theorem gG {l:List UInt8} {k:Nat}:jI l k=true↔k<l.length/\128<=jN l k/\jN l k<192:=by
 unfold jI;simp only[b7,decide_eq_true_eq,beq_iff_eq];omega
theorem AR {n:Nat}:Utf8.valid (n:Int)=true↔(n<55296\/(57344<=n/\n<=1114111)):=by
 simp only[Utf8.valid,Bool.or_eq_true,b7,decide_eq_true_eq];omega
theorem Zv {l:List UInt8} (h:(jN l 0:Int)<128):dec l=(jN l 0,1):=by
 unfold dec BU;rw[if_pos hV]
theorem HJ {l:List UInt8} (h0:128<=(jN l 0:Int)) (h:nO (jN l 0)=0\/∃k:Nat,1<=k/\(k:Int)<nO (jN l 0)/\jI l k=false):dec l=(65533,1):=by
 have hb:=oe l 0;unfold dec BU;rw[if_neg hV]
 have hk:nO (jN l 0)=0\/(2<=nO (jN l 0)/\jI l 1=false)\/(3<=nO (jN l 0)/\jI l 2=false)\/(4<=nO (jN l 0)/\jI l 3=false):=by
  rcases h with h|⟨k,h1,h2,h3⟩
  ·exact .inl h
  ·have:nO (jN l 0)<=4:=by
    unfold nO
    split
    ·omega
    ·split
     ·omega
     ·split<;>omega
   have hk:k=1\/k=2\/k=3:=by omega
   rcases hk with rfl|rfl|rfl
   ·exact .inr (.inl ⟨by omega,h3⟩)
   ·exact .inr (.inr (.inl ⟨by omega,h3⟩))
   ·exact .inr (.inr (.inr ⟨by omega,h3⟩))
 simp only[beq_iff_eq,b7,decide_eq_true_eq,ge_iff_le,AR];have hn:nO (jN l 0)=if 194<=(jN l 0:Int)/\(jN l 0:Int)<224 then 2 else if 224<=(jN l 0:Int)/\(jN l 0:Int)<240 then 3 else if 240<=(jN l 0:Int)/\(jN l 0:Int)<245 then 4 else 0:=rfl
 rw[hn]at hk
 split
 ·rename_i hc
  obtain⟨hc1,P0⟩:=hc
  split
  ·rename_i hv
   exfalso;by_cases aph:194<=(jN l 0:Int)
   ·rw[if_pos hV]at hk;rcases hk with hk|⟨_,hk⟩|⟨hk,_⟩|⟨hk,_⟩
    ·omega
    ·rw[hk]at P0;cases P0
    ·omega
    ·omega
   ·omega
  ·rfl
 ·split
  ·rename_i hc
   obtain⟨⟨hc1,P0⟩,Zw⟩:=hc
   split
   ·exfalso;rw[if_neg hV,if_pos hV]at hk;rcases hk with hk|⟨_,hk⟩|⟨_,hk⟩|⟨hk,_⟩
    ·omega
    ·rw[hk]at P0;cases P0
    ·rw[hk]at Zw;cases Zw
    ·omega
   ·rfl
  ·split
   ·rename_i hc
    obtain⟨⟨⟨hc1,P0⟩,Zw⟩,hc4⟩:=hc
    split
    ·rename_i hv
     exfalso;by_cases api:(jN l 0:Int)<245
     ·rw[if_neg hV,if_neg hV,if_pos hV]at hk;rcases hk with hk|⟨_,hk⟩|⟨_,hk⟩|⟨_,hk⟩
      ·omega
      ·rw[hk]at P0;cases P0
      ·rw[hk]at Zw;cases Zw
      ·rw[hk]at hc4;cases hc4
     ·omega
    ·rfl
   ·rfl
theorem nA {c:Int} (h:nO c≠0):(nO c=2/\gR c=128/\uK c=c-192/\194<=c/\c<224)\/(nO c=3/\gR c=2048/\uK c=c-224/\224<=c/\c<240)\/(nO c=4/\gR c=65536/\uK c=c-240/\240<=c/\c<245):=by
 by_cases h1:194<=c/\c<224
 ·exact .inl ⟨if_pos h1,if_pos h1,if_pos h1,h1.1,h1.2⟩
 ·by_cases h2:224<=c/\c<240
  ·exact .inr (.inl ⟨(if_neg h1).trans (if_pos h2),(if_neg h1).trans (if_pos h2),(if_neg h1).trans (if_pos h2),h2.1,h2.2⟩)
  ·by_cases h3:240<=c/\c<245
   ·exact .inr (.inr ⟨(if_neg h1).trans ((if_neg h2).trans (if_pos h3)),(if_neg h1).trans ((if_neg h2).trans (if_pos h3)),(if_neg h1).trans ((if_neg h2).trans (if_pos h3)),h3.1,h3.2⟩)
   ·exact absurd ((if_neg h1).trans ((if_neg h2).trans (if_neg h3))) h
theorem Dt {l:List UInt8} (hn:nO (jN l 0)≠0) (hc:∀k:Nat,1<=k->(k:Int)<nO (jN l 0)->jI l k=true) (v:Int) (hv:v=vO l (nO (jN l 0)-1).toNat):
  dec l=if v<gR (jN l 0)\/v>1114111\/(55296<=v/\v<=57343)then(65533,1)else(v.toNat,(nO (jN l 0)).toNat):=by
 have hb:=oe l 0;have b1:=oe l 1;have b2:=oe l 2;have b3:=oe l 3;unfold dec BU;simp only[beq_iff_eq,b7,decide_eq_true_eq,ge_iff_le,AR];rcases nA hn with⟨e1,e2,e3,e4,e5⟩|⟨e1,e2,e3,e4,e5⟩|⟨e1,e2,e3,e4,e5⟩
 ·have c1:=hc 1 hV hV;have d1:=gG.1 c1;rw[e1]at hv;have CO:v=64*((jN l 0:Int)-192)+jN l 1-128:=by rw[hv];show 64*uK (jN l 0)+_-_=_;rw[e3]
  rw[if_neg hV,if_pos ⟨by omega,c1⟩,e2,e1];by_cases hx:v<128\/v>1114111\/(55296<=v/\v<=57343)
  ·rw[if_pos hx,if_neg hV]
  ·rw[if_neg hx,if_pos hV];simp only[Prod.mk.injEq];omega
 ·have c1:=hc 1 hV hV;have c2:=hc 2 hV hV;have d1:=gG.1 c1;have d2:=gG.1 c2;rw[e1]at hv;have CO:v=64*(64*((jN l 0:Int)-224)+jN l 1-128)+jN l 2-128:=by rw[hv];show 64*(64*uK (jN l 0)+_-_)+_-_=_;rw[e3]
  rw[if_neg hV,if_neg hV,if_pos ⟨⟨by omega,c1⟩,c2⟩,e2,e1];by_cases hx:v<2048\/v>1114111\/(55296<=v/\v<=57343)
  ·rw[if_pos hx,if_neg hV]
  ·rw[if_neg hx,if_pos hV];simp only[Prod.mk.injEq];omega
 ·have c1:=hc 1 hV hV;have c2:=hc 2 hV hV;have c3:=hc 3 hV hV;have d1:=gG.1 c1;have d2:=gG.1 c2;have d3:=gG.1 c3;rw[e1]at hv;have CO:v=64*(64*(64*((jN l 0:Int)-240)+jN l 1-128)+jN l 2-128)+jN l 3-128:=by rw[hv];show 64*(64*(64*uK (jN l 0)+_-_)+_-_)+_-_=_;rw[e3]
  rw[if_neg hV,if_neg hV,if_neg hV,if_pos ⟨⟨⟨by omega,c1⟩,c2⟩,c3⟩,e2,e1];by_cases hx:v<65536\/v>1114111\/(55296<=v/\v<=57343)
  ·rw[if_pos hx,if_neg hV]
  ·rw[if_neg hx,if_pos hV];simp only[Prod.mk.injEq];omega
open Go.Proofs
set_option maxRecDepth 10000
theorem BZ (c:Int) (w0:World):
  Spec Tryz.prog 173 #[.int .i64 c] w0 (λv w=>v= .bool (fC c)/\w=w0):=by
 refine a8 (args:=[_]) (fn:=Tryz.f173) Tryz.func173 G (n:=31) Tryz.ntmps173 (T.aP (Rg.bg G G (aN (T.aP (ab G G (ed G G G (ab G G ?_)))))));refine aO (g:=5) G (λir=>?_) (λir=>?_)
 ·refine ah G G (ab G G (ah G G (fQ G G G (aU G G G (ab G G ?_)))));refine aO (g:=9) G (λBY=>?_) (λBY=>?_)
  ·refine aj G G G G (aj G G G G (aj G G G G (cC G G G (cC G G G (aj G G G G (aU G G G (ad (kJ G (T.aP (aF G G ?_))))))))));refine ad (aJ ?_);exact aM rfl rfl ⟨by simp only[fC];first|rfl|(congr 1;first|(exact(decide_eq_true hV).symm)|(exact(decide_eq_false hV).symm)|(exact decide_eq_decide.2 hV)),rfl⟩
  ·refine ah G G (ab G G (ah G G (ed G G G (ah G G (ab G G ?_)))));refine aO (g:=12) G (λrQ=>?_) (λrQ=>?_)
   ·refine ah G G (ab G G (ah G G (fQ G G G (ah G G (aU G G G (az G G G (ad ?_)))))));refine bF G (λc1=>?_) (λc1=>?_)
    ·refine T.aP (Rg.bg G G (aJ ?_));exact aM rfl rfl ⟨by simp only[fC];first|rfl|(congr 1;first|(exact(decide_eq_true hV).symm)|(exact(decide_eq_false hV).symm)|(exact decide_eq_decide.2 hV)),rfl⟩
    ·refine aR (T.aP (ab G G (ed G G G (ab G G ?_))));refine aO (g:=19) G (λFT=>?_) (λFT=>?_)
     ·refine ah G G (ab G G (ah G G (fQ G G G (aU G G G (ab G G ?_)))));refine aO (g:=23) G (λFU=>?_) (λFU=>?_)
      ·refine ah G G (ab G G (ah G G (eW G G G (aU G G G (ab G G ?_)))));refine aO (g:=27) G (λyf=>?_) (λyf=>?_)
       ·refine ah G G (ab G G (ah G G (eW G G G (aU G G G (Rg.bg G G (aJ ?_))))));exact aM rfl rfl ⟨by simp only[fC];first|rfl|(congr 1;first|(exact(decide_eq_true hV).symm)|(exact(decide_eq_false hV).symm)|(exact decide_eq_decide.2 hV)),rfl⟩
       ·refine aj G G G G (aj G G G G (az G G G (Rg.bg G G (aJ ?_))));exact aM rfl rfl ⟨by simp only[fC];first|rfl|(congr 1;first|(exact(decide_eq_true hV).symm)|(exact(decide_eq_false hV).symm)|(exact decide_eq_decide.2 hV)),rfl⟩
      ·refine aj G G G G (aj G G G G (az G G G (ab G G (aj G G G G (aj G G G G (az G G G (Rg.bg G G (aJ ?_))))))));exact aM rfl rfl ⟨by simp only[fC];first|rfl|(congr 1;first|(exact(decide_eq_true hV).symm)|(exact(decide_eq_false hV).symm)|(exact decide_eq_decide.2 hV)),rfl⟩
     ·refine aj G G G G (aj G G G G (az G G G (ab G G (aj G G G G (aj G G G G (az G G G (ab G G (aj G G G G (aj G G G G (az G G G (aF G G ?_)))))))))));refine ad (aJ ?_);exact aM rfl rfl ⟨by simp only[fC];first|rfl|(congr 1;first|(exact(decide_eq_true hV).symm)|(exact(decide_eq_false hV).symm)|(exact decide_eq_decide.2 hV)),rfl⟩
   ·refine aj G G G G (aj G G G G (ah G G (az G G G (az G G G (ad (iS G (aR (T.aP (ab G G (ed G G G ?_))))))))));refine ab G G ?_;refine aO (g:=19) G (λFT=>?_) (λFT=>?_)
    ·refine ah G G (ab G G (ah G G (fQ G G G (aU G G G (ab G G ?_)))));refine aO (g:=23) G (λFU=>?_) (λFU=>?_)
     ·refine ah G G (ab G G (ah G G (eW G G G (aU G G G (ab G G ?_)))));refine aO (g:=27) G (λyf=>?_) (λyf=>?_)
      ·refine ah G G (ab G G (ah G G (eW G G G (aU G G G (Rg.bg G G (aJ ?_))))));exact aM rfl rfl ⟨by simp only[fC];first|rfl|(congr 1;first|(exact(decide_eq_true hV).symm)|(exact(decide_eq_false hV).symm)|(exact decide_eq_decide.2 hV)),rfl⟩
      ·refine aj G G G G (aj G G G G (az G G G (Rg.bg G G (aJ ?_))));exact aM rfl rfl ⟨by simp only[fC];first|rfl|(congr 1;first|(exact(decide_eq_true hV).symm)|(exact(decide_eq_false hV).symm)|(exact decide_eq_decide.2 hV)),rfl⟩
     ·refine aj G G G G (aj G G G G (az G G G (ab G G (aj G G G G (aj G G G G (az G G G (Rg.bg G G (aJ ?_))))))));exact aM rfl rfl ⟨by simp only[fC];first|rfl|(congr 1;first|(exact(decide_eq_true hV).symm)|(exact(decide_eq_false hV).symm)|(exact decide_eq_decide.2 hV)),rfl⟩
    ·refine aj G G G G (aj G G G G (az G G G (ab G G (aj G G G G (aj G G G G (az G G G (ab G G (aj G G G G (aj G G G G (az G G G (aF G G ?_)))))))))));refine ad (aJ ?_);exact aM rfl rfl ⟨by simp only[fC];first|rfl|(congr 1;first|(exact(decide_eq_true hV).symm)|(exact(decide_eq_false hV).symm)|(exact decide_eq_decide.2 hV)),rfl⟩
 ·refine aj G G G G (aj G G G G (az G G G (ab G G (ah G G (ab G G (ah G G (ed G G G (ah G G (ab G G ?_)))))))));refine aO (g:=12) G (λrQ=>?_) (λrQ=>?_)
  ·refine ah G G (ab G G (ah G G (fQ G G G (ah G G (aU G G G (az G G G (ad ?_)))))));refine bF G (λc1=>?_) (λc1=>?_)
   ·refine T.aP (Rg.bg G G (aJ ?_));exact aM rfl rfl ⟨by simp only[fC];first|rfl|(congr 1;first|(exact(decide_eq_true hV).symm)|(exact(decide_eq_false hV).symm)|(exact decide_eq_decide.2 hV)),rfl⟩
   ·refine aR (T.aP (ab G G (ed G G G (ab G G ?_))));refine aO (g:=19) G (λFT=>?_) (λFT=>?_)
    ·refine ah G G (ab G G (ah G G (fQ G G G (aU G G G (ab G G ?_)))));refine aO (g:=23) G (λFU=>?_) (λFU=>?_)
     ·refine ah G G (ab G G (ah G G (eW G G G (aU G G G (ab G G ?_)))));refine aO (g:=27) G (λyf=>?_) (λyf=>?_)
      ·refine ah G G (ab G G (ah G G (eW G G G (aU G G G (Rg.bg G G (aJ ?_))))));exact aM rfl rfl ⟨by simp only[fC];first|rfl|(congr 1;first|(exact(decide_eq_true hV).symm)|(exact(decide_eq_false hV).symm)|(exact decide_eq_decide.2 hV)),rfl⟩
      ·refine aj G G G G (aj G G G G (az G G G (Rg.bg G G (aJ ?_))));exact aM rfl rfl ⟨by simp only[fC];first|rfl|(congr 1;first|(exact(decide_eq_true hV).symm)|(exact(decide_eq_false hV).symm)|(exact decide_eq_decide.2 hV)),rfl⟩
     ·refine aj G G G G (aj G G G G (az G G G (ab G G (aj G G G G (aj G G G G (az G G G (Rg.bg G G (aJ ?_))))))));exact aM rfl rfl ⟨by simp only[fC];first|rfl|(congr 1;first|(exact(decide_eq_true hV).symm)|(exact(decide_eq_false hV).symm)|(exact decide_eq_decide.2 hV)),rfl⟩
    ·refine aj G G G G (aj G G G G (az G G G (ab G G (aj G G G G (aj G G G G (az G G G (ab G G (aj G G G G (aj G G G G (az G G G (aF G G ?_)))))))))));refine ad (aJ ?_);exact aM rfl rfl ⟨by simp only[fC];first|rfl|(congr 1;first|(exact(decide_eq_true hV).symm)|(exact(decide_eq_false hV).symm)|(exact decide_eq_decide.2 hV)),rfl⟩
  ·refine aj G G G G (aj G G G G (ah G G (az G G G (az G G G (ad (iS G (aR (T.aP (ab G G (ed G G G ?_))))))))));refine ab G G ?_;refine aO (g:=19) G (λFT=>?_) (λFT=>?_)
   ·refine ah G G (ab G G (ah G G (fQ G G G (aU G G G (ab G G ?_)))));refine aO (g:=23) G (λFU=>?_) (λFU=>?_)
    ·refine ah G G (ab G G (ah G G (eW G G G (aU G G G (ab G G ?_)))));refine aO (g:=27) G (λyf=>?_) (λyf=>?_)
     ·refine ah G G (ab G G (ah G G (eW G G G (aU G G G (Rg.bg G G (aJ ?_))))));exact aM rfl rfl ⟨by simp only[fC];first|rfl|(congr 1;first|(exact(decide_eq_true hV).symm)|(exact(decide_eq_false hV).symm)|(exact decide_eq_decide.2 hV)),rfl⟩
     ·refine aj G G G G (aj G G G G (az G G G (Rg.bg G G (aJ ?_))));exact aM rfl rfl ⟨by simp only[fC];first|rfl|(congr 1;first|(exact(decide_eq_true hV).symm)|(exact(decide_eq_false hV).symm)|(exact decide_eq_decide.2 hV)),rfl⟩
    ·refine aj G G G G (aj G G G G (az G G G (ab G G (aj G G G G (aj G G G G (az G G G (Rg.bg G G (aJ ?_))))))));exact aM rfl rfl ⟨by simp only[fC];first|rfl|(congr 1;first|(exact(decide_eq_true hV).symm)|(exact(decide_eq_false hV).symm)|(exact decide_eq_decide.2 hV)),rfl⟩
   ·refine aj G G G G (aj G G G G (az G G G (ab G G (aj G G G G (aj G G G G (az G G G (ab G G (aj G G G G (aj G G G G (az G G G (aF G G ?_)))))))))));refine ad (aJ ?_);exact aM rfl rfl ⟨by simp only[fC];first|rfl|(congr 1;first|(exact(decide_eq_true hV).symm)|(exact(decide_eq_false hV).symm)|(exact decide_eq_decide.2 hV)),rfl⟩
theorem yg (c:Int) (w0:World) (hc:0<=c/\c<=1114111):
  Spec Tryz.prog 171 #[.int .i64 c] w0 (λv w=>v= .int .i64 (dZ c)/\w=w0):=by
 refine a8 (args:=[_]) (fn:=Tryz.f171) Tryz.func171 G (n:=28) Tryz.ntmps171 (T.aP (Rg.bg G G (aN (T.aP (ab G G (ed G G G (ab G G ?_)))))));refine aO (g:=5) G (λir=>?_) (λir=>?_)
 ·refine ah G G (ab G G (ah G G (fQ G G G (aU G G G (ab G G ?_)))));refine aO (g:=9) G (λBY=>?_) (λBY=>?_)
  ·refine aj G G G G (aj G G G G (aj G G G G (cC G G G (cC G G G (aj G G G G (aU G G G (ab G G (aj G G G G (aj G G G G (aj G G G G (cC G G G ?_)))))))))));refine cC G G G (aj G G G G (aU G G G (ad (kJ G (T.aP (ab G G (bB G G G hV (Rg.bg G G (aJ ?_)))))))));exact a47
  ·refine ah G G (ab G G (ah G G (ed G G G (ah G G (ab G G ?_)))));refine aO (g:=12) G (λrQ=>?_) (λrQ=>?_)
   ·refine ah G G (ab G G (ah G G (fQ G G G (ah G G (aU G G G (az G G G (ab G G ?_)))))));refine aO (g:=17) G (λyb=>?_) (λyb=>?_)
    ·refine aj G G G G (aj G G G G (aj G G G G (cC G G G (cC G G G (aj G G G G (aU G G G (ad (kJ G (T.aP (ab G G ?_))))))))));refine bB G G G hV (Rg.bg G G (aJ ?_));exact a47
    ·refine ah G G (ab G G (ah G G (ed G G G (ah G G (ab G G ?_)))));refine aO (g:=20) G (λlM=>?_) (λlM=>?_)
     ·refine ah G G (ab G G (ah G G (fQ G G G (ah G G (aU G G G (az G G G (ad ?_)))))));refine bF G (λc1=>?_) (λc1=>?_)
      ·refine T.aP (ab G G (bB G G G hV (Rg.bg G G (aJ ?_))));exact a47
      ·refine aR (T.aP (ab G G (Rg.bg G G (aJ ?_))));exact a19
     ·refine aj G G G G (aj G G G G (ah G G (az G G G (az G G G (ad (iS G (aR (T.aP (ab G G (aF G G ?_))))))))));refine ad (aJ ?_);exact a19
   ·refine aj G G G G (aj G G G G (ah G G (az G G G (az G G G (ab G G (ah G G (ab G G (ah G G (ed G G G (ah G G (ab G G ?_)))))))))));refine aO (g:=20) G (λlM=>?_) (λlM=>?_)
    ·refine ah G G (ab G G (ah G G (fQ G G G (ah G G (aU G G G (az G G G (ad ?_)))))));refine bF G (λc1=>?_) (λc1=>?_)
     ·refine T.aP (ab G G (bB G G G hV (Rg.bg G G (aJ ?_))));exact a47
     ·refine aR (T.aP (ab G G (Rg.bg G G (aJ ?_))));exact a19
    ·refine aj G G G G (aj G G G G (ah G G (az G G G (az G G G (ad (iS G (aR (T.aP (ab G G (aF G G ?_))))))))));refine ad (aJ ?_);exact a19
 ·refine aj G G G G (aj G G G G (az G G G (ab G G (ah G G (ab G G (ah G G (ed G G G (ah G G (ab G G ?_)))))))));refine aO (g:=12) G (λrQ=>?_) (λrQ=>?_)
  ·refine ah G G (ab G G (ah G G (fQ G G G (ah G G (aU G G G (az G G G (ab G G ?_)))))));refine aO (g:=17) G (λyb=>?_) (λyb=>?_)
   ·refine aj G G G G (aj G G G G (aj G G G G (cC G G G (cC G G G (aj G G G G (aU G G G (ad (kJ G (T.aP (ab G G ?_))))))))));refine bB G G G hV (Rg.bg G G (aJ ?_));exact a47
   ·refine ah G G (ab G G (ah G G (ed G G G (ah G G (ab G G ?_)))));refine aO (g:=20) G (λlM=>?_) (λlM=>?_)
    ·refine ah G G (ab G G (ah G G (fQ G G G (ah G G (aU G G G (az G G G (ad ?_)))))));refine bF G (λc1=>?_) (λc1=>?_)
     ·refine T.aP (ab G G (bB G G G hV (Rg.bg G G (aJ ?_))));exact a47
     ·refine aR (T.aP (ab G G (Rg.bg G G (aJ ?_))));exact a19
    ·refine aj G G G G (aj G G G G (ah G G (az G G G (az G G G (ad (iS G (aR (T.aP (ab G G (aF G G ?_))))))))));refine ad (aJ ?_);exact a19
  ·refine aj G G G G (aj G G G G (ah G G (az G G G (az G G G (ab G G (ah G G (ab G G (ah G G (ed G G G (ah G G (ab G G ?_)))))))))));refine aO (g:=20) G (λlM=>?_) (λlM=>?_)
   ·refine ah G G (ab G G (ah G G (fQ G G G (ah G G (aU G G G (az G G G (ad ?_)))))));refine bF G (λc1=>?_) (λc1=>?_)
    ·refine T.aP (ab G G (bB G G G hV (Rg.bg G G (aJ ?_))));exact a47
    ·refine aR (T.aP (ab G G (Rg.bg G G (aJ ?_))));exact a19
   ·refine aj G G G G (aj G G G G (ah G G (az G G G (az G G G (ad (iS G (aR (T.aP (ab G G (aF G G ?_))))))))));refine ad (aJ ?_);exact a19
def ot (c:Int):Bool:=decide (fC c=true\/lL c=true)
theorem yh (c:Int) (w0:World):
  Spec Tryz.prog 113 #[.int .i64 c] w0 (λv w=>v= .bool (ot c)/\w=w0):=by
 refine a8 (args:=[_]) (fn:=Tryz.f113) Tryz.func113 G (n:=13) Tryz.ntmps113 (T.aP (Rg.bg G G (T.aP (ab G G ?_))));refine aQ G G afA (BZ _ _) (λr wc hc=>?_);obtain⟨rfl,rfl⟩:=hc;refine bh (v':= .bool (decide (fC c=true))) (by cases fC c<;>rfl) (ab rfl rfl ?_);refine aO (g:=5) G (λir=>?_) (λir=>?_)
 ·refine aj G G G G (aj G G G G (aj G G G G (cC G G G (cC G G G (aj G G G G (aU G G G (Rg.bg G G (aJ ?_))))))));have e:(lL c=true)=(48<=c/\c<=57):=by simp[lL]
  exact aM rfl rfl ⟨by simp only[ot,e];first|(congr 1;first|(exact(decide_eq_true (.inl Ub)).symm)|(exact(decide_eq_true (.inr hV)).symm)|(exact(decide_eq_false ai1).symm)|(exact decide_eq_decide.2 ⟨λh=> .inr hV,λh=>h.elim (λh=>absurd h Ub) (λh=>by omega)⟩)),rfl⟩
 ·refine ah G G (ab G G (ah G G (ed G G G (ah G G (ab G G ?_)))));refine aO (g:=8) G (λkP=>?_) (λkP=>?_)
  ·refine ah G G (ab G G (ah G G (fQ G G G (ah G G (aU G G G (az G G G (Rg.bg G G (aJ ?_))))))));have e:(lL c=true)=(48<=c/\c<=57):=by simp[lL]
   exact aM rfl rfl ⟨by simp only[ot,e];first|(congr 1;first|(exact(decide_eq_true (.inl Ub)).symm)|(exact(decide_eq_true (.inr hV)).symm)|(exact(decide_eq_false ai1).symm)|(exact decide_eq_decide.2 ⟨λh=> .inr hV,λh=>h.elim (λh=>absurd h Ub) (λh=>by omega)⟩)),rfl⟩
  ·refine aj G G G G (aj G G G G (ah G G (az G G G (az G G G (Rg.bg G G (aJ ?_))))));have e:(lL c=true)=(48<=c/\c<=57):=by simp[lL]
   exact aM rfl rfl ⟨by simp only[ot,e];first|(congr 1;first|(exact(decide_eq_true (.inl Ub)).symm)|(exact(decide_eq_true (.inr hV)).symm)|(exact(decide_eq_false ai1).symm)|(exact decide_eq_decide.2 ⟨λh=> .inr hV,λh=>h.elim (λh=>absurd h Ub) (λh=>by omega)⟩)),rfl⟩
theorem U4 {l:List UInt8} {c:Int} (hc:c=(jN l 0:Int)) (hn:nO c≠0):∀{k:Nat},(∀j:Nat,1<=j->j<k+1->jI l j=true)->k<=3->0<=vO l k/\vO l k<=100000000:=by
 have key:∀k:Nat,(∀j:Nat,1<=j->j<k+1->jI l j=true)->0<=vO l k/\vO l k<=33*64^k-1:=by
  intro k
  induction k with
  |zero=>
   intro _;have:=nA hn;show 0<=uK (jN l 0:Int)/\uK (jN l 0:Int)<=33*64^0-1;rw[<-hc];simp only[Int.pow_zero];omega
  |succ k ih=>
   intro h;have h1:=ih λj h2 h3=>h j h2 hV
   have h2:=gG.1 (h (k+1) hV hV);show 0<=64*vO l k+_-128/\64*vO l k+_-128<=_;rw[Int.pow_succ];omega
 intro k h hk;have:=key k h
 have h3:(64:Int)^k<=262144:=by
  rcases(show k=0\/k=1\/k=2\/k=3 by omega)with rfl|rfl|rfl|rfl<;>decide
 omega
theorem LV {l:List UInt8} (w0:World) (hl:l≠[]) (hlen:l.length<=4000000):
  Spec Tryz.prog 170 #[.string ⟨l.toArray⟩] w0 (λv w=>v= .tuple #[.int .i64 ((dec l).1:Int),.int .i64 ((dec l).2:Int)]/\w=w0):=by
 have xE:0<l.length:=eh.2 hl;have yi:=oe l 0;obtain⟨c,hc⟩:∃c:Int,c=(jN l 0:Int):=⟨_,rfl⟩;have hcr:0<=c/\c<256:=by omega
 refine a8 (args:=[_]) (fn:=Tryz.f170) Tryz.func170 G (n:=85) Tryz.ntmps170 (T.aP (aF G G (Rg.bg G G (T.aP (ab G G ?_)))));refine Rg.HG (c:=l.getD 0 0) aA G G G q0 (by rw[cu];show l[0]? =_;rw[an xE];rfl) ?_;refine bh (v':= .int .u8 c) (by rw[hc];rfl) (Rg.uu cP ak rfl rfl hV (Rg.bg rfl rfl (aN (T.aP (ab rfl rfl (cy rfl rfl rfl (ad ?_)))))));refine bF G (λc2=>?_) (λc2=>?_)
 ·refine T.aP (ab G G (aF G G (Rg.bg G G (aJ ?_))));exact eX rfl rfl rfl ⟨by rw[Zv hV,hc];rfl,rfl⟩
 ·refine aR (T.aP (Rg.bg G G (T.aP (Rg.bg G G (T.aP (aF G G ?_))))));refine ad ?_;refine T.kW [(0,.string ⟨l.toArray⟩),(4,.int .i64 c),(5,.int .i64 (nO c)),(6,.int .i64 (gR c)),(7,.int .i64 (uK c))] ?_ ?_
  ·refine T.aP (ab G G (ed G G G (ab G G ?_)));refine aO (g:=18) G (λafY=>?_) (λafY=>?_)
   ·refine ah G G (ab G G (ah G G (cy G G G (aU G G G (ad ?_)))));refine bF G (λc7=>?_) (λc7=>?_)
    ·refine T.aP (Rg.bg G G (T.aP (Rg.bg G G (aL (ab G G (jw G G G hV (aF G G ?_)))))));refine ad ?_;exact⟨G,G,G,.cons G (.cons G (.cons (congrArg (λz=>some (Value.int .i64 z)) a05) (.cons (congrArg (λz=>some (Value.int .i64 z)) a06) (.cons (congrArg (λz=>some (Value.int .i64 z)) a07) (.nil)))))⟩
    ·refine T.aP (ab G G (ed G G G (ab G G ?_)));refine aO (g:=26) G (λiP=>?_) (λiP=>?_)
     ·refine ah G G (ab G G (ah G G (cy G G G (aU G G G (ad ?_)))));refine bF G (λJm=>?_) (λJm=>?_)
      ·refine T.aP (Rg.bg G G (T.aP (Rg.bg G G (aL (ab G G (jw G G G hV (aF G G ?_)))))));refine ad ?_;exact⟨G,G,G,.cons G (.cons G (.cons (congrArg (λz=>some (Value.int .i64 z)) a05) (.cons (congrArg (λz=>some (Value.int .i64 z)) a06) (.cons (congrArg (λz=>some (Value.int .i64 z)) a07) (.nil)))))⟩
      ·refine T.aP (ab G G (ed G G G (ab G G ?_)));refine aO (g:=34) G (λyj=>?_) (λyj=>?_)
       ·refine ah G G (ab G G (ah G G (cy G G G (aU G G G (ad ?_)))));refine bF G (λFV=>?_) (λFV=>?_)
        ·refine T.aP (Rg.bg G G (T.aP (Rg.bg G G (aL (ab G G (jw G G G hV (aF G G ?_)))))));refine ad ?_;exact⟨G,G,G,.cons G (.cons G (.cons (congrArg (λz=>some (Value.int .i64 z)) a05) (.cons (congrArg (λz=>some (Value.int .i64 z)) a06) (.cons (congrArg (λz=>some (Value.int .i64 z)) a07) (.nil)))))⟩
        ·refine aR ?_;exact⟨G,G,G,.cons G (.cons G (.cons (congrArg (λz=>some (Value.int .i64 z)) a05) (.cons (congrArg (λz=>some (Value.int .i64 z)) a06) (.cons (congrArg (λz=>some (Value.int .i64 z)) a07) (.nil)))))⟩
       ·refine aj G G G G (aj G G G G (az G G G (ad (iS G (aR ?_)))));exact⟨G,G,G,.cons G (.cons G (.cons (congrArg (λz=>some (Value.int .i64 z)) a05) (.cons (congrArg (λz=>some (Value.int .i64 z)) a06) (.cons (congrArg (λz=>some (Value.int .i64 z)) a07) (.nil)))))⟩
     ·refine aj G G G G (aj G G G G (az G G G (ad (iS G (T.aP (ab G G (ed G G G (ab G G ?_))))))));refine aO (g:=34) G (λyj=>?_) (λyj=>?_)
      ·refine ah G G (ab G G (ah G G (cy G G G (aU G G G (ad ?_)))));refine bF G (λFV=>?_) (λFV=>?_)
       ·refine T.aP (Rg.bg G G (T.aP (Rg.bg G G (aL (ab G G (jw G G G hV (aF G G ?_)))))));refine ad ?_;exact⟨G,G,G,.cons G (.cons G (.cons (congrArg (λz=>some (Value.int .i64 z)) a05) (.cons (congrArg (λz=>some (Value.int .i64 z)) a06) (.cons (congrArg (λz=>some (Value.int .i64 z)) a07) (.nil)))))⟩
       ·refine aR ?_;exact⟨G,G,G,.cons G (.cons G (.cons (congrArg (λz=>some (Value.int .i64 z)) a05) (.cons (congrArg (λz=>some (Value.int .i64 z)) a06) (.cons (congrArg (λz=>some (Value.int .i64 z)) a07) (.nil)))))⟩
      ·refine aj G G G G (aj G G G G (az G G G (ad (iS G (aR ?_)))));exact⟨G,G,G,.cons G (.cons G (.cons (congrArg (λz=>some (Value.int .i64 z)) a05) (.cons (congrArg (λz=>some (Value.int .i64 z)) a06) (.cons (congrArg (λz=>some (Value.int .i64 z)) a07) (.nil)))))⟩
   ·refine aj G G G G (aj G G G G (az G G G (ad (iS G (T.aP (ab G G (ed G G G (ab G G ?_))))))));refine aO (g:=26) G (λiP=>?_) (λiP=>?_)
    ·refine ah G G (ab G G (ah G G (cy G G G (aU G G G (ad ?_)))));refine bF G (λJm=>?_) (λJm=>?_)
     ·refine T.aP (Rg.bg G G (T.aP (Rg.bg G G (aL (ab G G (jw G G G hV (aF G G ?_)))))));refine ad ?_;exact⟨G,G,G,.cons G (.cons G (.cons (congrArg (λz=>some (Value.int .i64 z)) a05) (.cons (congrArg (λz=>some (Value.int .i64 z)) a06) (.cons (congrArg (λz=>some (Value.int .i64 z)) a07) (.nil)))))⟩
     ·refine T.aP (ab G G (ed G G G (ab G G ?_)));refine aO (g:=34) G (λyj=>?_) (λyj=>?_)
      ·refine ah G G (ab G G (ah G G (cy G G G (aU G G G (ad ?_)))));refine bF G (λFV=>?_) (λFV=>?_)
       ·refine T.aP (Rg.bg G G (T.aP (Rg.bg G G (aL (ab G G (jw G G G hV (aF G G ?_)))))));refine ad ?_;exact⟨G,G,G,.cons G (.cons G (.cons (congrArg (λz=>some (Value.int .i64 z)) a05) (.cons (congrArg (λz=>some (Value.int .i64 z)) a06) (.cons (congrArg (λz=>some (Value.int .i64 z)) a07) (.nil)))))⟩
       ·refine aR ?_;exact⟨G,G,G,.cons G (.cons G (.cons (congrArg (λz=>some (Value.int .i64 z)) a05) (.cons (congrArg (λz=>some (Value.int .i64 z)) a06) (.cons (congrArg (λz=>some (Value.int .i64 z)) a07) (.nil)))))⟩
      ·refine aj G G G G (aj G G G G (az G G G (ad (iS G (aR ?_)))));exact⟨G,G,G,.cons G (.cons G (.cons (congrArg (λz=>some (Value.int .i64 z)) a05) (.cons (congrArg (λz=>some (Value.int .i64 z)) a06) (.cons (congrArg (λz=>some (Value.int .i64 z)) a07) (.nil)))))⟩
    ·refine aj G G G G (aj G G G G (az G G G (ad (iS G (T.aP (ab G G (ed G G G (ab G G ?_))))))));refine aO (g:=34) G (λyj=>?_) (λyj=>?_)
     ·refine ah G G (ab G G (ah G G (cy G G G (aU G G G (ad ?_)))));refine bF G (λFV=>?_) (λFV=>?_)
      ·refine T.aP (Rg.bg G G (T.aP (Rg.bg G G (aL (ab G G (jw G G G hV (aF G G ?_)))))));refine ad ?_;exact⟨G,G,G,.cons G (.cons G (.cons (congrArg (λz=>some (Value.int .i64 z)) a05) (.cons (congrArg (λz=>some (Value.int .i64 z)) a06) (.cons (congrArg (λz=>some (Value.int .i64 z)) a07) (.nil)))))⟩
      ·refine aR ?_;exact⟨G,G,G,.cons G (.cons G (.cons (congrArg (λz=>some (Value.int .i64 z)) a05) (.cons (congrArg (λz=>some (Value.int .i64 z)) a06) (.cons (congrArg (λz=>some (Value.int .i64 z)) a07) (.nil)))))⟩
     ·refine aj G G G G (aj G G G G (az G G G (ad (iS G (aR ?_)))));exact⟨G,G,G,.cons G (.cons G (.cons (congrArg (λz=>some (Value.int .i64 z)) a05) (.cons (congrArg (λz=>some (Value.int .i64 z)) a06) (.cons (congrArg (λz=>some (Value.int .i64 z)) a07) (.nil)))))⟩
  ·refine aN (T.aP (ab G G (ic G G G (ab G G ?_))));refine aO (g:=42) G (λZx=>?_) (λZx=>?_)
   ·refine aj G G G G (aj G G G G (aj G G G G (aj G G G G (aU G G G (ad (kJ G (T.aP (aF G G (Rg.bg G G ?_)))))))));refine aJ ?_
    have hx:nO (jN l 0:Int)=0\/∃k:Nat,1<=k/\(k:Int)<nO (jN l 0:Int)/\jI l k=false:=by
     rw[<-hc];by_cases h0:nO c=0
     ·exact .inl h0
     ·have hnc:=nA h0;exact .inr ⟨(nO c).toNat-1,by omega,by omega,fm.2 λh=>by have:=(gG.1 h).1;omega⟩
    have e:dec l=(65533,1):=HJ hV hx;exact eX rfl rfl rfl ⟨by rw[e];rfl,rfl⟩
   ·refine ah G G (ab G G (ah G G (rp aA G G (bh (v':= .int .i64 (l.length:Int)) a71 (ah G G (ab G G (ah G G (cy G G G (az G G G (ad ?_))))))))));refine bF G (λSV=>?_) (λSV=>?_)
    ·refine T.aP (aF G G (Rg.bg G G (aJ ?_)))
     have hx:nO (jN l 0:Int)=0\/∃k:Nat,1<=k/\(k:Int)<nO (jN l 0:Int)/\jI l k=false:=by
      rw[<-hc];by_cases h0:nO c=0
      ·exact .inl h0
      ·have hnc:=nA h0;exact .inr ⟨(nO c).toNat-1,by omega,by omega,fm.2 λh=>by have:=(gG.1 h).1;omega⟩
     have e:dec l=(65533,1):=HJ hV hx;exact eX rfl rfl rfl ⟨by rw[e];rfl,rfl⟩
    ·refine aR (aN (T.aP (Rg.bg G G (aY ?_))));refine dz (σ:=Nat) (λi=>[(0,.string ⟨l.toArray⟩),(5,.int .i64 (nO c)),(6,.int .i64 (gR c)),(7,.int .i64 (vO l (i-1))),(8,.int .i64 (i:Int))]) (λi w=>w=w0/\1<=i/\(i:Int)<=nO c/\∀k:Nat,1<=k->k<i->jI l k=true) (λi=>(nO c).toNat-i) 1 (.cons G (.cons G (.cons G (.cons (congrArg (λz=>some (Value.int .i64 z)) (by show uK c=uK (jN l 0:Int);rw[hc])) (.cons rfl .nil))))) ?_ ?_
     ·exact⟨G,br _,by have:=nA (c:=c) hV;omega,λk h1 h2=>by omega⟩
     ·rintro i w ⟨rfl,AA,Fk,eZ⟩;have hnc:=nA (c:=c) hV
      have hvr:0<=vO l (i-1)/\vO l (i-1)<=100000000:=by
       exact U4 (l:=l) (c:=c) (k:=i-1) hc hV (λj h1 h2=>eZ j h1 hV) hV
      refine aN (T.aP (ab G G (ab G G (cy G G G (ad ?_)))));refine bF G (λc22=>?_) (λc22=>?_)
      ·refine aR (aN (aY (T.aP (ab G G (ab G G ?_)))));have kO:i<l.length:=by omega
       refine Rg.HG (c:=l.getD i 0) aA G G G hV (by rw[cu,aw,an kO];rfl) ?_;refine bh (v':= .int .u8 (jN l i:Int)) G ?_;have U5:=oe l i;refine Rg.uu cP ak G G hV (Rg.bg G G (aN (T.aP (ab G G (cy G G G (ab G G ?_))))));refine aO (g:=59) G (λZy=>?_) (λZy=>?_)
       ·refine aj G G G G (aj G G G G (aU G G G (ad (kJ G (T.aP (aF G G (Rg.bg G G (aJ ?_))))))))
        have hx:nO (jN l 0:Int)=0\/∃k:Nat,1<=k/\(k:Int)<nO (jN l 0:Int)/\jI l k=false:=by
         rw[<-hc];exact .inr ⟨i,AA,by omega,fm.2 λh=>by have:=gG.1 h;omega⟩
        have e:dec l=(65533,1):=HJ hV hx;exact eX rfl rfl rfl ⟨by rw[e];rfl,rfl⟩
       ·refine ah G G (ab G G (ah G G (ed G G G (az G G G (ad ?_)))));refine bF G (λU6=>?_) (λU6=>?_)
        ·refine T.aP (aF G G (Rg.bg G G (aJ ?_)))
         have hx:nO (jN l 0:Int)=0\/∃k:Nat,1<=k/\(k:Int)<nO (jN l 0:Int)/\jI l k=false:=by
          rw[<-hc];exact .inr ⟨i,AA,by omega,fm.2 λh=>by have:=gG.1 h;omega⟩
         have e:dec l=(65533,1):=HJ hV hx;exact eX rfl rfl rfl ⟨by rw[e];rfl,rfl⟩
        ·refine aR (aL (ab G G (Rg.Uk G G G hV (ab G G (bB G G G hV (jw G G G hV (Rg.bg G G (aL (ab G G (bB G G G hV ?_))))))))));refine Rg.bg G G ?_;refine⟨G,i+1,(.cons G (.cons G (.cons G (.cons (congrArg (λz=>some (Value.int .i64 z)) (by obtain⟨q,rfl⟩:∃q,i=q+1:=⟨i-1,by omega⟩;rfl)) (.cons rfl .nil))))),?_,?_⟩
         ·exact⟨G,by omega,by omega,λk h1 h2=>by
           rcases cK k i with h|h
           ·exact eZ k h1 h
           ·obtain rfl:k=i:=by omega
            exact gG.2 hV⟩
         ·omega
      ·refine cQ (aN (T.aP (ab G G (ab G G (cy G G G (ab G G ?_))))));refine aO (g:=71) G (λZz=>?_) (λZz=>?_)
       ·refine aj G G G G (aj G G G G (aU G G G (ab G G (aj G G G G (aj G G G G (aj G G G G (cC G G G (cC G G G (aj G G G G (aU G G G (ad ?_)))))))))));refine kJ G (T.aP (aF G G (Rg.bg G G (aJ ?_))));have e:=Dt (l:=l) (by rw[<-hc];omega) ab9 (vO l (i-1)) ag7;rw[<-hc,if_pos hV]at e;exact eX rfl rfl rfl ⟨by rw[e];rfl,rfl⟩
       ·refine ah G G (ab G G (ah G G (fU G G G (az G G G (ab G G ?_)))));refine aO (g:=75) G (λZA=>?_) (λZA=>?_)
        ·refine aj G G G G (aj G G G G (aj G G G G (cC G G G (cC G G G (aj G G G G (aU G G G (ad (kJ G (T.aP (aF G G ?_))))))))));refine Rg.bg G G (aJ ?_);have e:=Dt (l:=l) (by rw[<-hc];omega) ab9 (vO l (i-1)) ag7;rw[<-hc,if_pos hV]at e;exact eX rfl rfl rfl ⟨by rw[e];rfl,rfl⟩
        ·refine ah G G (ab G G (ah G G (ed G G G (ah G G (ab G G ?_)))));refine aO (g:=78) G (λU7=>?_) (λU7=>?_)
         ·refine ah G G (ab G G (ah G G (fQ G G G (ah G G (aU G G G (az G G G (ad ?_)))))));refine bF G (λc28=>?_) (λc28=>?_)
          ·refine T.aP (aF G G (Rg.bg G G (aJ ?_)));have e:=Dt (l:=l) (by rw[<-hc];omega) ab9 (vO l (i-1)) ag7;rw[<-hc,if_pos hV]at e;exact eX rfl rfl rfl ⟨by rw[e];rfl,rfl⟩
          ·refine aR (T.aP (ab G G (ab G G (aF G G (Rg.bg G G (aJ ?_))))));have e:=Dt (l:=l) (by rw[<-hc];omega) ab9 (vO l (i-1)) ag7;rw[<-hc,if_neg hV]at e;exact eX rfl rfl rfl ⟨by rw[e];simp only[];rw[zM hvr.1,zM hV],rfl⟩
         ·refine aj G G G G (aj G G G G (ah G G (az G G G (az G G G (ad (iS G (aR (T.aP (ab G G (ab G G ?_))))))))));refine aF G G (Rg.bg G G (aJ ?_));have e:=Dt (l:=l) (by rw[<-hc];omega) ab9 (vO l (i-1)) ag7;rw[<-hc,if_neg hV]at e;exact eX rfl rfl rfl ⟨by rw[e];simp only[];rw[zM hvr.1,zM hV],rfl⟩
theorem ym {M:aH} {l:List UInt8} (w0:World) (hM:Lt M w0) (hl:l.length<=4000000):
  Spec Tryz.prog 111 #[.string ⟨l.toArray⟩] w0 (λv w=>∃M',Lt M' w/\Step M w0 M' w aE/\Own (RT.int .i64) 3 M' w w0.heap.size v (dC l)):=by
 have iF:=hM;refine a8 (args:=[_]) (fn:=Tryz.f111) Tryz.func111 G (n:=22) Tryz.ntmps111 ?_;have S:Step M w0 M w0 aE:=aV;refine T.aP (Rg.bg G G (T.aP (Rg.bg G G (aN (aY ?_)))));refine dz (σ:=Nat×List Int×Value) (λq=>[(0,.string ⟨(l.drop q.1).toArray⟩),(3,q.2.2)]) (λq w=>∃M',Lt M' w/\Step M w0 M' w aE/\Own (RT.int .i64) 3 M' w w0.heap.size q.2.2 q.2.1/\dC l=q.2.1++dC (l.drop q.1)/\q.1<=l.length) (λq=>l.length-q.1) (0,[],.slice none 0 0) a73 ?_ ?_
 ·exact⟨M,hM,S,eG _ _ _ _ _,by simp,by simp⟩
 ·rintro⟨p,xs,u⟩ w ⟨M1,hM,S,ho,B0,hp⟩;dsimp only at ho B0 hp ⊢;refine aN (T.aP (ab G G (rp aA G G (bh (v':= .int .i64 ((l.drop p).length:Int)) a71 (fU G G G (ad ?_))))));refine bF G (λc2=>?_) (λc2=>?_)
  ·refine aR (aY (T.aP (ab G G ?_)));have fq:l.drop p≠[]:=by intro h;rw[h]at c2;simp at c2
   have xg:p<l.length:=by have:=eh.2 fq;rw[cN]at this;omega
   have hwd:=ji fq;refine aQ rfl rfl afz (LV (l:=l.drop p) _ fq (by rw[cN];omega)) (λr3 w3 hc=>?_);obtain⟨rfl,rfl⟩:=hc;refine ab G G (cq G G G (cq G G G (aF G G (Rg.bg G G (T.aP (ab G G (ab G G ?_)))))));refine fp (A:=RT.int .i64) (hn:=by decide) (M:=M1) av I3 q0 G G hM (gV (by have:=qo (l.drop p);omega)) (.inr ⟨rfl,rfl⟩) (λU8 U9 mE ou=>?_);replace ho:=ho.bM ou;replace hM:=ou.lt hM;have:=S.size;replace S:=S.ax ou;refine dH (M:=M1) (base:=w0.heap.size) av I3 rfl rfl rfl rfl ho mE cf ac4 ac4 (S.size) (λZB af1 apk ZC Va=>?_);replace mE:=mE.le Va.le;replace hM:=Va.lt hM;have:=S.size;replace S:=S.dR Va ho (br _);replace ho:=ZC;refine Rg.bg G G (aL (ab G G (ab G G (Rg.QI aA G G G hV (bh (v':= .string ⟨(l.drop (p+(dec (l.drop p)).2)).toArray⟩) (by rw[List.drop_drop];simp) (Rg.bg rfl rfl ?_))))));refine⟨G,(p+(dec (l.drop p)).2,xs++[((dec (l.drop p)).1:Int)],ZB),a73,?_,?_⟩
   ·refine⟨af1,hM,S,ho,?_,?_⟩
    ·rw[B0,ke fq,List.drop_drop];simp
    ·have:=hwd.2;rw[cN]at this;dsimp only;omega
   ·have:=hwd.1;have:=hwd.2;rw[cN]at this;dsimp only;omega
  ·refine cQ (T.aP (ab G G (Rg.bg G G (aJ ?_))));have e:dC l=xs:=by rw[B0,iV (by simp at c2;omega),lg];simp
   rw[e];exact aM G G ⟨_,hM,S,ho⟩
theorem vV {M:aH} {l:List UInt8} (w0:World) (hM:Lt M w0) (hl:l.length<=4000000):Spec Tryz.prog 111 #[.string ⟨l.toArray⟩] w0 (λv w=>((RT.int .i64).sl).V M w (dC l) v/\Step M w0 M w aE):=
 (ym w0 hM hl).mono λ_ w ⟨M',h1,h2,h3⟩=>⟨h3.close hM h2 (by have:=gF l;omega),h2.back⟩
theorem qY {M:aH} {w:World} {x:Int} (h:0<=x/\x<256):RT.u8.V M w x.toNat.toUInt8 (.int .u8 (IntKind.u8.wrap x)):=by
 have e1:IntKind.u8.wrap x=x:=by
  show(if(false&&decide (x%256>=128))=true then x%256-256 else x%256)=x;rw[if_neg (by simp)];omega
 have e2:((x.toNat.toUInt8).toNat:Int)=x:=by
  have:x.toNat.toUInt8.toNat=x.toNat%256:=UInt8.toNat_ofNat' ..;omega
 rw[e1];exact⟨[.int .u8 x],by show _=_;rw[e2],rfl⟩
theorem ZD {r:Int} (h:0<=r/\r<128):Lib.encodeRune r=[r.toNat.toUInt8]:=by rw[Lib.encodeRune,Lib.encodeRuneZ_one h.1 hV];rfl
theorem ZE {r:Int} (h:128<=r/\r<2048):Lib.encodeRune r=[(192+r/64).toNat.toUInt8,(128+r%64).toNat.toUInt8]:=by rw[Lib.encodeRune,Lib.encodeRuneZ_two h.1 hV];rfl
theorem Jn (c:Int):qp c<55296\/57343<qp c:=by
 unfold qp
 split
 ·omega
 ·rename_i h
  have h2:Lib.validRune c=true:=by
   cases hv:Lib.validRune c with
   |true=>rfl
   |false=>exact absurd (.inr (.inr hv)) h
  simp only[Lib.validRune,decide_eq_true_eq]at h2;omega
theorem af3 {r:Int} (h:2048<=r/\r<65536) (h2:r<55296\/57343<r):Lib.encodeRune r=[(224+r/4096).toNat.toUInt8,(128+r/64%64).toNat.toUInt8,(128+r%64).toNat.toUInt8]:=by rw[Lib.encodeRune,Lib.encodeRuneZ_three hV];rfl
theorem af4 {r:Int} (h:65536<=r/\r<=1114111):Lib.encodeRune r=[(240+r/262144).toNat.toUInt8,(128+r/4096%64).toNat.toUInt8,(128+r/64%64).toNat.toUInt8,(128+r%64).toNat.toUInt8]:=by rw[Lib.encodeRune,Lib.encodeRuneZ_four h.1 h.2];rfl
theorem th {c:Int} (h:c<0\/c>1114111\/(55296<=c/\c<=57343)):qp c=65533:=by
 rw[qp,if_pos];rcases h with h|h|h
 ·exact .inl h
 ·exact .inr (.inl h)
 ·refine .inr (.inr ?_);simp only[Lib.validRune,decide_eq_false_iff_not];omega
theorem nB {c:Int} (h: ¬(c<0\/c>1114111\/(55296<=c/\c<=57343))):qp c=c:=by
 rw[qp,if_neg];rintro(h1|h1|h1)
 ·omega
 ·omega
 ·simp only[Lib.validRune,decide_eq_false_iff_not]at h1;omega
theorem rR {M:aH} {xs:List Int} {v0:Value} (w0:World) (hM:Lt M w0) (hv:((RT.int .i64).sl).V M w0 xs v0) (hl:xs.length<=4000000):
  Spec Tryz.prog 172 #[v0] w0 (λv w=>v= .string ⟨(gL xs).toArray⟩/\Step M w0 M w aE):=by
 have iF:=hM;refine a8 (args:=[_]) (fn:=Tryz.f172) Tryz.func172 G (n:=91) Tryz.ntmps172 ?_;have S:Step M w0 M w0 aE:=aV;refine T.aP (Rg.bg G G (T.aP (Rg.bg G G (aN (T.aP (aF G G ?_))))));refine ad (aY ?_);refine dz (σ:=Nat×Value) (λq=>[(0,v0),(3,q.2),(4,.int .i64 (q.1:Int))]) (λq w=>∃M',Lt M' w/\Step M w0 M' w aE/\Own RT.u8 5 M' w w0.heap.size q.2 (gL (xs.take q.1))/\((RT.int .i64).sl).V M' w xs v0/\q.1<=xs.length) (λq=>xs.length-q.1) (0,.slice none 0 0) a09 ?_ ?_
 ·exact⟨M,hM,S,eG _ _ _ _ _,hv,bm _⟩
 ·rintro⟨k,u⟩ w ⟨M1,hM,S,ho,hv,hk⟩;dsimp only at ho hk ⊢;refine aN (T.aP (ab G G (ab G G (bN av G hv G (cy G G G (ad ?_))))));refine bF G (λc3=>?_) (λc3=>?_)
  ·refine aR (aN (aY (T.aP (ab G G (ab G G ?_)))));refine cD av I3 G G G hv cf hV (λu5 c Jo wL=>?_);refine b4 ak G G wL cf (λin5=>?_);have tk:xs.take (k+1)=xs.take k++[c]:=by rw[bX];simp only[aw]at Jo;rw[Jo];rfl
   have hsr:=HI c;have ZF:=Jn c;refine Rg.bg G G ?_;refine T.kW [(0,v0),(3,u),(4,.int .i64 (k:Int)),(5,.int .i64 (qp c))] ?_ ?_
   ·refine T.aP (ab G G (cy G G G (ab G G ?_)));refine aO (g:=18) G (λVb=>?_) (λVb=>?_)
    ·refine aj G G G G (aj G G G G (aU G G G (ab G G (aj G G G G (aj G G G G (aj G G G G (cC G G G (cC G G G (aj G G G G (aU G G G (ad ?_)))))))))));refine kJ G (aL (Rg.bg G G ?_));exact⟨G,G,G,.cons G (.cons G (.cons G (.cons (congrArg (λz=>some (Value.int .i64 z)) a98) (.nil))))⟩
    ·refine ah G G (ab G G (ah G G (fU G G G (az G G G (ab G G ?_)))));refine aO (g:=22) G (λaf5=>?_) (λaf5=>?_)
     ·refine aj G G G G (aj G G G G (aj G G G G (cC G G G (cC G G G (aj G G G G (aU G G G (ad (kJ G (aL (Rg.bg G G ?_))))))))));exact⟨G,G,G,.cons G (.cons G (.cons G (.cons (congrArg (λz=>some (Value.int .i64 z)) a98) (.nil))))⟩
     ·refine ah G G (ab G G (ah G G (ed G G G (ah G G (ab G G ?_)))));refine aO (g:=25) G (λaf6=>?_) (λaf6=>?_)
      ·refine ah G G (ab G G (ah G G (fQ G G G (ah G G (aU G G G (az G G G (ad ?_)))))));refine bF G (λc6=>?_) (λc6=>?_)
       ·refine aL (Rg.bg G G ?_);exact⟨G,G,G,.cons G (.cons G (.cons G (.cons (congrArg (λz=>some (Value.int .i64 z)) a98) (.nil))))⟩
       ·refine aR ?_;exact⟨G,G,G,.cons G (.cons G (.cons G (.cons (congrArg (λz=>some (Value.int .i64 z)) a98) (.nil))))⟩
      ·refine aj G G G G (aj G G G G (ah G G (az G G G (az G G G (ad (iS G (aR ?_)))))));exact⟨G,G,G,.cons G (.cons G (.cons G (.cons (congrArg (λz=>some (Value.int .i64 z)) a98) (.nil))))⟩
   ·refine T.aP (ab G G (cy G G G (ad ?_)));refine bF G (λc8=>?_) (λc8=>?_)
    ·refine aL (ab G G (ab G G (vJ ak cP G G ?_)));refine fp (A:=RT.u8) (hn:=by decide) (M:=M1) bT I5 q0 G G hM (qY hV) (.inr ⟨G,G⟩) (λapl ZG LW pX=>?_);replace hv:=hv.le pX.le;replace ho:=ho.bM pX;replace hM:=pX.lt hM;have:=S.size;replace S:=S.ax pX;refine dH (M:=M1) (base:=w0.heap.size) bT I5 G G G G ho LW cf a38 a38 (S.size) (λZH af7 af8 ZI Ac=>?_);replace hv:=hv.le Ac.le;replace LW:=LW.le Ac.le;replace hM:=Ac.lt hM;have:=S.size;replace S:=S.dR Ac ho (br _);replace ho:=ZI;refine Rg.bg G G (aL (ab G G (bB G G G hV (Rg.bg G G ?_))));refine⟨G,(k+1,ZH),a09,?_,?_⟩
     ·exact⟨af7,hM,S,by rw[tk,kf,ZD hV];exact ho,hv,by dsimp only;omega⟩
     ·dsimp only;omega
    ·refine T.aP (ab G G (cy G G G (ad ?_)));refine bF G (λVc=>?_) (λVc=>?_)
     ·refine aL (ab G G (ab G G (Rg.xG G G G hV (bB G G G hV (vJ ak cP G G (ab G G (Rg.wJ G G G hV (bB G G G hV (vJ ak cP G G ?_)))))))));refine Rg.K3 (A:=RT.u8) (hn:=by decide) (M:=M1) (xs:=[(192+qp c/64).toNat.toUInt8,(128+qp c%64).toNat.toUInt8]) bT I5 G q0 G ⟨_,_,_,G,G,G,qY hV,_,_,_,G,G,G,qY hV,G⟩ G hM (.inr ⟨G,G⟩) q0 (λalI alJ FX HK=>?_);replace hv:=hv.le HK.le;replace ho:=ho.bM HK;replace hM:=HK.lt hM;have:=S.size;replace S:=S.ax HK;refine dH (M:=M1) (base:=w0.heap.size) bT I5 G G G G ho FX cf a38 a38 (S.size) (λVd Ve af9 QS B1=>?_);replace hv:=hv.le B1.le;replace FX:=FX.le B1.le;replace hM:=B1.lt hM;have:=S.size;replace S:=S.dR B1 ho (br _);replace ho:=QS;refine Rg.bg G G (aL (ab G G (bB G G G hV (Rg.bg G G ?_))));refine⟨G,(k+1,Vd),a09,?_,?_⟩
      ·exact⟨Ve,hM,S,by rw[tk,kf,ZE hV];exact ho,hv,by dsimp only;omega⟩
      ·dsimp only;omega
     ·refine T.aP (ab G G (cy G G G (ad ?_)));refine bF G (λDu=>?_) (λDu=>?_)
      ·refine aL (ab G G (ab G G (Rg.xG G G G hV (bB G G G hV (vJ ak cP G G (ab G G (Rg.xG G G G hV (Rg.wJ G G G hV (bB G G G hV (vJ ak cP G G (ab G G ?_)))))))))));refine Rg.wJ G G G hV (bB G G G hV (vJ ak cP G G ?_));refine Rg.K3 (A:=RT.u8) (hn:=by decide) (M:=M1) (xs:=[(224+qp c/4096).toNat.toUInt8,(128+qp c/64%64).toNat.toUInt8,(128+qp c%64).toNat.toUInt8]) bT I5 G q0 G ⟨_,_,_,G,G,G,qY hV,_,_,_,G,G,G,qY hV,_,_,_,G,G,G,qY hV,G⟩ G hM (.inr ⟨G,G⟩) q0 (λaga agb B2 B3=>?_);replace hv:=hv.le B3.le;replace ho:=ho.bM B3;replace hM:=B3.lt hM;have:=S.size;replace S:=S.ax B3;refine dH (M:=M1) (base:=w0.heap.size) bT I5 G G G G ho B2 cf a38 a38 (S.size) (λVf Vg agc QT B4=>?_);replace hv:=hv.le B4.le;replace B2:=B2.le B4.le;replace hM:=B4.lt hM;have:=S.size;replace S:=S.dR B4 ho (br _);replace ho:=QT;refine Rg.bg G G (aL (ab G G (bB G G G hV (Rg.bg G G ?_))));refine⟨G,(k+1,Vf),a09,?_,?_⟩
       ·exact⟨Vg,hM,S,by rw[tk,kf,af3 hV ZF];exact ho,hv,by dsimp only;omega⟩
       ·dsimp only;omega
      ·refine aL (ab G G (ab G G (Rg.xG G G G hV (bB G G G hV (vJ ak cP G G (ab G G (Rg.xG G G G hV (Rg.wJ G G G hV (bB G G G hV (vJ ak cP G G (ab G G ?_)))))))))));refine Rg.xG G G G hV (Rg.wJ G G G hV (bB G G G hV (vJ ak cP G G (ab G G (Rg.wJ G G G hV (bB G G G hV (vJ ak cP G G ?_)))))));refine Rg.K3 (A:=RT.u8) (hn:=by decide) (M:=M1) (xs:=[(240+qp c/262144).toNat.toUInt8,(128+qp c/4096%64).toNat.toUInt8,(128+qp c/64%64).toNat.toUInt8,(128+qp c%64).toNat.toUInt8]) bT I5 G q0 G ⟨_,_,_,G,G,G,qY hV,_,_,_,G,G,G,qY hV,_,_,_,G,G,G,qY hV,_,_,_,G,G,G,qY hV,G⟩ G hM (.inr ⟨G,G⟩) q0 (λagd age B5 B6=>?_);replace hv:=hv.le B6.le;replace ho:=ho.bM B6;replace hM:=B6.lt hM;have:=S.size;replace S:=S.ax B6;refine dH (M:=M1) (base:=w0.heap.size) bT I5 G G G G ho B5 cf a38 a38 (S.size) (λVh Vi agf QU B7=>?_);replace hv:=hv.le B7.le;replace B5:=B5.le B7.le;replace hM:=B7.lt hM;have:=S.size;replace S:=S.dR B7 ho (br _);replace ho:=QU;refine Rg.bg G G (aL (ab G G (bB G G G hV (Rg.bg G G ?_))));refine⟨G,(k+1,Vh),a09,?_,?_⟩
       ·exact⟨Vi,hM,S,by rw[tk,kf,af4 hV];exact ho,hv,by dsimp only;omega⟩
       ·dsimp only;omega
  ·refine cQ (T.aP (ab G G (Rg.b2s (hn:=by decide) (M:=M) bT cP aA G G (ho.close iF S (by have:=gj (xs.take k);rw[a7]at this;omega)) cf (Rg.bg rfl rfl (aJ ?_)))));have e:xs.take k=xs:=bD hV;rw[e];exact aM G G ⟨G,S.back⟩
theorem FY {M:aH} {l:List UInt8} (w0:World) (hM:Lt M w0) (hl:l.length<=4000000):
  Spec Tryz.prog 244 #[.string ⟨l.toArray⟩] w0 (λv w=>((RT.int .i64).sl).V M w (dC l) v/\Step M w0 M w aE):=by
 have iF:=hM;refine a8 (args:=[_]) (fn:=Tryz.f244) Tryz.func244 G (n:=17) Tryz.ntmps244 ?_;have S:Step M w0 M w0 aE:=aV;refine T.aP (Rg.bg G G (T.aP (Rg.bg G G (aN (T.aP (ab G G ?_))))));refine Rg.LG M aA G G (λLX apm apn apo agh Vj=>?_);obtain⟨SY,LY⟩:∃M',M'=ins M LX:=⟨_,rfl⟩;rw[<-LY]at Vj;have Vk:SY LX:=by rw[LY];exact .inl G
 replace hM:=Vj.lt hM;have:=S.size;replace S:=S.ax Vj;refine ad (aY ?_);refine dz (σ:=Nat×List Int×Value) (λq=>[(3,q.2.2),(7,.pointer (some ⟨LX,0,none⟩))]) (λq w=>∃M',Lt M' w/\Step M w0 M' w aE/\w.heap[LX]? =some (.stringIter ⟨l.toArray⟩ q.1)/\M' LX/\Own (RT.int .i64) 3 M' w w0.heap.size q.2.2 q.2.1/\dC l=q.2.1++dC (l.drop q.1)/\q.1<=l.length) (λq=>l.length-q.1) (0,[],.slice none 0 0) a73 ?_ ?_
 ·exact⟨SY,hM,S,agh,Vk,eG _ _ _ _ _,by simp,by simp⟩
 ·rintro⟨p,xs,u⟩ w ⟨M1,hM,S,g,AS,ho,B0,hp⟩;dsimp only at g ho B0 hp ⊢;refine T.aP ?_;refine Rg.QH (M:=M1) G g AS G (λagi apq agj LZ=>?_) (λagi=>?_)
  ·have:=ae g;replace AS:=(LZ.mem _ this).2 AS;replace ho:=ho.step LZ (λb hb hk=>ho.eD g (hk▸hb));replace hM:=LZ.lt hM;have:=S.size;replace S:=S.trans LZ (λk hk h=>by have h:_=_:=h;subst h;first|(exfalso;omega)|(show _<=_;omega)|exact⟨by first|omega|assumption,(S.mem _ hk).1 ((LZ.mem _ (ae g)).1 AS)⟩|exact .inl rfl|exact .inr rfl|exact .inr (.inl rfl)|exact .inr (.inr rfl)|exact .inr (.inr (.inl rfl))|exact rfl);have g_:=agj;clear g;have g:=g_;clear g_;refine cq G G G (ad (aN (kJ G (aR (aY (T.aP (cq G G G (Rg.bg G G (aL ?_)))))))));refine ab G G (ab G G (Rg.uu Tryz.underlying21 ak G G (by have:=qo (l.drop p);omega) ?_));refine fp (A:=RT.int .i64) (hn:=by decide) (M:=M1) av I3 q0 G G hM (gV (by have:=qo (l.drop p);omega)) (.inr ⟨rfl,rfl⟩) (λagk ZJ HL wM=>?_);have:=ae g;replace AS:=(wM.mem _ this).2 AS;replace g:=wM.aB g;replace ho:=ho.bM wM;replace hM:=wM.lt hM;have:=S.size;replace S:=S.ax wM;refine dH (M:=M1) (base:=w0.heap.size) av I3 rfl rfl rfl rfl ho HL cf ac4 ac4 (S.size) (λagl agm apr ZK L0=>?_);have:=ae g;replace AS:=(L0.mem _ this).2 AS;replace g:=L0.bR g (λh=>by first|exact ho.eD g h|exact ho.fx g q0 h|(have:=(ho.base _ h).1;omega));replace HL:=HL.le L0.le;replace hM:=L0.lt hM;have:=S.size;replace S:=S.dR L0 ho (br _);replace ho:=ZK;refine Rg.bg G G ?_;have fq:l.drop p≠[]:=by intro h;have:=congrArg List.length h;simp at this;omega
   refine⟨G,(p+(dec (l.drop p)).2,xs++[((dec (l.drop p)).1:Int)],agl),a73,?_,?_⟩
   ·refine⟨agm,hM,S,g,AS,ho,?_,?_⟩
    ·rw[B0,ke fq,List.drop_drop];simp
    ·have:=(ji fq).2;rw[cN]at this;dsimp only;omega
   ·have:=(ji fq).1;have:=(ji fq).2;rw[cN]at this;dsimp only;omega
  ·refine cq G G G (ad (aN (iS G (cQ (T.aP (ab G G (Rg.bg G G (aJ ?_))))))));have e:dC l=xs:=by rw[B0,iV hV,lg];simp
   rw[e];have:=gF l;rw[e]at this;exact aM G G ⟨ho.close iF S hV,S.back⟩
def eF (p:List Int×List (List UInt8)) (c:Int):List Int×List (List UInt8):=
 if fC c=true\/lL c=true then(p.1++[dZ c],p.2)else if 0<p.1.length then([],p.2++[gL p.1])else([],p.2)
structure L3 (M:aH) (w:World) (B bo bs:Nat) (p:List Int×List (List UInt8)):Prop where
 a:∃u,w.heap[bo]? =some (.cells #[u] 61 (0,0))/\Own (RT.int .i64) 3 M w B u p.1
 b:∃u,w.heap[bs]? =some (.cells #[u] 25 (0,0))/\Own RT.str 9 M w B u p.2
 m:M bo/\M bs/\B<=bo/\B<=bs
theorem pY {c:Int} (h:fC c=true\/lL c=true):0<=c/\c<=1114111:=by
 simp only[fC,lL,decide_eq_true_eq]at h;omega
theorem yn {M:aH} {B bo bs:Nat} {p:List Int×List (List UInt8)} (w0:World) (hM:Lt M w0) (c:Int) (ht:L3 M w0 B bo bs p) (hl:p.1.length<=4000000/\p.2.length<=4000000):
  Spec Tryz.prog 239 #[.int .i64 c,.pointer (some ⟨bo,0,none⟩),.pointer (some ⟨bs,0,none⟩)] w0 (λv w=>∃M',Lt M' w/\L3 M' w B bo bs (eF p c)/\Step M w0 M' w (kT M B)):=by
 obtain⟨⟨uo,go,ho⟩,⟨us,gs,hs⟩,gM,iB,Ym,Yn⟩:=ht;obtain⟨own,out⟩:=p;dsimp only at ho hs hl ⊢;have fq:bo≠bs:=λe=>by subst e;rw[go]at gs;cases gs
 refine a8 (args:=[_,_,_]) (fn:=Tryz.f239) Tryz.func239 G (n:=23) Tryz.ntmps239 ?_;have S:Step M w0 M w0 (kT M B):=(aV).ek a18 (λ_ h=>h.2);refine aN (T.aP (ab G G ?_));refine aQ G G afK (Dq _ _) (λr wc hc=>?_);obtain⟨rfl,rfl⟩:=hc;refine bh (v':= .bool (decide (fC c=true))) (by cases fC c<;>rfl) (ab rfl rfl ?_);refine aO (g:=6) G (λagn=>?_) (λagn=>?_)
 ·refine aj G G G G (aj G G G G (aU G G G (ad (kJ G (aN ?_)))));apply T.pM 2 [0] 2 aE mixed rfl rfl rfl rfl;intro Jp L4;have lN:=L4 M;have:=ae go;replace gM:=(lN.mem _ this).2 gM;replace go:=lN.aB go;have:=ae gs;replace iB:=(lN.mem _ this).2 iB;replace gs:=lN.aB gs;replace ho:=ho.bM lN;replace hs:=hs.bM lN;replace hM:=lN.lt hM;have:=S.size;replace S:=S.ax lN;refine aG av G G G (by first|assumption|exact bY lN Ub) G (Rg.dm (ab G G (Rg.dm (gm (⟨j1 ⟨gD G Ub a92,trivial⟩,?_⟩)))));have kp:=l9 aE Jp;have FZ:fC c=true\/lL c=true:=by first|exact .inl Ub|exact .inr Ub
  refine aQ G G Zr (AQ c _ (pY FZ)) (λr wc hc=>?_);obtain⟨rfl,rfl⟩:=hc;refine(fun(kp:fI _ _ _)=>ad ⟨G,G,λ_=>kp,?_⟩) a01;refine fp (A:=RT.int .i64) (hn:=by decide) (M:=M) av I3 q0 G G hM (gV (by have:=pY FZ;unfold dZ;split<;>omega)) (.inr ⟨rfl,rfl⟩) (λQV Jq jY s1_3=>?_);have:=ae go;replace gM:=(s1_3.mem _ this).2 gM;replace go:=s1_3.aB go;have:=ae gs;replace iB:=(s1_3.mem _ this).2 iB;replace gs:=s1_3.aB gs;replace ho:=ho.bM s1_3;replace hs:=hs.bM s1_3;replace hM:=s1_3.lt hM;have:=S.size;replace S:=S.ax s1_3;refine(fun(kp:fI _ _ _)=>ad ⟨G,G,λ_=>kp,?_⟩) a01;refine dH (M:=M) (base:=B) av I3 rfl rfl rfl rfl ho jY cf a08 a08 (by have:=ae go;omega) (λVl L5 Vm L6 lO=>?_);have:=ae go;replace gM:=(lO.mem _ this).2 gM;replace go:=lO.bR go (λh=>by first|exact ho.eD go h|exact ho.fx go q0 h|(have:=(ho.base _ h).1;omega));have:=ae gs;replace iB:=(lO.mem _ this).2 iB;replace gs:=lO.bR gs (λh=>by first|exact ho.eD gs h|exact ho.fx gs q0 h|(have:=(ho.base _ h).1;omega));replace jY:=jY.le lO.le;replace hs:=hs.step lO (λb h1 h2=>hs.iZ ho q0 h1 h2);replace hM:=lO.lt hM;have:=S.size;replace S:=S.trans lO (λb hb h=>⟨(ho.base b h).1,(S.mem b hb).1 (ho.mut_ b h)⟩);replace ho:=L6;refine ad ⟨G,G,λh=>absurd G h,?_⟩;refine cg (M:=L5) pb rfl rfl go rfl (a95) gM (λVn kP ov=>?_);change Vn.heap[_]? =some (Obj.cells #[Vl] _ _)at kP
  have:=ae go;replace gM:=(ov.mem _ this).2 gM;have:=ae gs;replace iB:=(ov.mem _ this).2 iB;replace gs:=ov.bR gs a03;replace jY:=jY.le ov.le;replace ho:=ho.step ov (λb hb hk=>by have hk:b=_:=hk;subst hk;first|exact absurd hb (ho.fx go q0)|exact absurd hb (ho.fx gs q0));replace hs:=hs.step ov (λb hb hk=>by have hk:b=_:=hk;subst hk;first|exact absurd hb (hs.fx go q0)|exact absurd hb (hs.fx gs q0));replace hM:=ov.lt hM;have:=S.size;replace S:=S.trans ov (λk hk h=>by have h:_=_:=h;subst h;first|(exfalso;omega)|(show _<=_;omega)|exact⟨by first|omega|assumption,(S.mem _ hk).1 ((ov.mem _ (ae go)).1 gM)⟩|exact .inl rfl|exact .inr rfl|exact .inr (.inl rfl)|exact .inr (.inr rfl)|exact .inr (.inr (.inl rfl))|exact rfl);have L7:=kP;clear go;have go:=L7;clear L7;refine ad ⟨G,G,λh=>absurd G h,rq (aJ ?_)⟩;rw[show eF (own,out) c=(own++[dZ c],out)from if_pos FZ];exact CQ G ⟨L5,hM,⟨⟨_,go,ho⟩,⟨_,gs,hs⟩,gM,iB,Ym,Yn⟩,S⟩
 ·refine ah G G (ab G G (ah G G ?_));refine aQ G G afL (FP _ _) (λr wc hc=>?_);obtain⟨rfl,rfl⟩:=hc;refine bh (v':= .bool (decide (lL c=true))) (by cases lL c<;>rfl) (az rfl rfl rfl (ad ?_));refine bF G (λc0=>?_) (λc0=>?_)
  ·refine aN ?_;apply T.pM 2 [0] 2 aE mixed rfl rfl rfl rfl;intro Jp L4;have lN:=L4 M;have:=ae go;replace gM:=(lN.mem _ this).2 gM;replace go:=lN.aB go;have:=ae gs;replace iB:=(lN.mem _ this).2 iB;replace gs:=lN.aB gs;replace ho:=ho.bM lN;replace hs:=hs.bM lN;replace hM:=lN.lt hM;have:=S.size;replace S:=S.ax lN;refine aG av G G G (by first|assumption|exact bY lN Ub) G (Rg.dm (ab G G (Rg.dm (gm (⟨j1 ⟨gD G Ub a92,trivial⟩,?_⟩)))));have kp:=l9 aE Jp;have FZ:fC c=true\/lL c=true:=by first|exact .inl Ub|exact .inr Ub
   refine aQ G G Zr (AQ c _ (pY FZ)) (λr wc hc=>?_);obtain⟨rfl,rfl⟩:=hc;refine(fun(kp:fI _ _ _)=>ad ⟨G,G,λ_=>kp,?_⟩) a01;refine fp (A:=RT.int .i64) (hn:=by decide) (M:=M) av I3 q0 G G hM (gV (by have:=pY FZ;unfold dZ;split<;>omega)) (.inr ⟨rfl,rfl⟩) (λQV Jq jY s1_3=>?_);have:=ae go;replace gM:=(s1_3.mem _ this).2 gM;replace go:=s1_3.aB go;have:=ae gs;replace iB:=(s1_3.mem _ this).2 iB;replace gs:=s1_3.aB gs;replace ho:=ho.bM s1_3;replace hs:=hs.bM s1_3;replace hM:=s1_3.lt hM;have:=S.size;replace S:=S.ax s1_3;refine(fun(kp:fI _ _ _)=>ad ⟨G,G,λ_=>kp,?_⟩) a01;refine dH (M:=M) (base:=B) av I3 rfl rfl rfl rfl ho jY cf a08 a08 (by have:=ae go;omega) (λVl L5 Vm L6 lO=>?_);have:=ae go;replace gM:=(lO.mem _ this).2 gM;replace go:=lO.bR go (λh=>by first|exact ho.eD go h|exact ho.fx go q0 h|(have:=(ho.base _ h).1;omega));have:=ae gs;replace iB:=(lO.mem _ this).2 iB;replace gs:=lO.bR gs (λh=>by first|exact ho.eD gs h|exact ho.fx gs q0 h|(have:=(ho.base _ h).1;omega));replace jY:=jY.le lO.le;replace hs:=hs.step lO (λb h1 h2=>hs.iZ ho q0 h1 h2);replace hM:=lO.lt hM;have:=S.size;replace S:=S.trans lO (λb hb h=>⟨(ho.base b h).1,(S.mem b hb).1 (ho.mut_ b h)⟩);replace ho:=L6;refine ad ⟨G,G,λh=>absurd G h,?_⟩;refine cg (M:=L5) pb rfl rfl go rfl (a95) gM (λVn kP ov=>?_);change Vn.heap[_]? =some (Obj.cells #[Vl] _ _)at kP
   have:=ae go;replace gM:=(ov.mem _ this).2 gM;have:=ae gs;replace iB:=(ov.mem _ this).2 iB;replace gs:=ov.bR gs a03;replace jY:=jY.le ov.le;replace ho:=ho.step ov (λb hb hk=>by have hk:b=_:=hk;subst hk;first|exact absurd hb (ho.fx go q0)|exact absurd hb (ho.fx gs q0));replace hs:=hs.step ov (λb hb hk=>by have hk:b=_:=hk;subst hk;first|exact absurd hb (hs.fx go q0)|exact absurd hb (hs.fx gs q0));replace hM:=ov.lt hM;have:=S.size;replace S:=S.trans ov (λk hk h=>by have h:_=_:=h;subst h;first|(exfalso;omega)|(show _<=_;omega)|exact⟨by first|omega|assumption,(S.mem _ hk).1 ((ov.mem _ (ae go)).1 gM)⟩|exact .inl rfl|exact .inr rfl|exact .inr (.inl rfl)|exact .inr (.inr rfl)|exact .inr (.inr (.inl rfl))|exact rfl);have L7:=kP;clear go;have go:=L7;clear L7;refine ad ⟨G,G,λh=>absurd G h,rq (aJ ?_)⟩;rw[show eF (own,out) c=(own++[dZ c],out)from if_pos FZ];exact CQ G ⟨L5,hM,⟨⟨_,go,ho⟩,⟨_,gs,hs⟩,gM,iB,Ym,Yn⟩,S⟩
  ·refine aR (aN (T.aP (aG av G G G Ub G (iQ av G ho G (fU G G G (ad ?_))))));refine bF G (λc2=>?_) (λc2=>?_)
   ·apply T.pM 2 [0] 2 aE mixed rfl rfl rfl rfl;intro ZL ZM;have pf:=ZM M;have:=ae go;replace gM:=(pf.mem _ this).2 gM;replace go:=pf.aB go;have:=ae gs;replace iB:=(pf.mem _ this).2 iB;replace gs:=pf.aB gs;replace ho:=ho.bM pf;replace hs:=hs.bM pf;replace hM:=pf.lt hM;have:=S.size;replace S:=S.ax pf;refine aG aD G G G (by first|assumption|exact bY pf Ub) G (Rg.dm (aG av G G G (by first|assumption|exact bY pf Ub) G (Rg.dm (gm (⟨j1 ⟨gD G Ub a92,trivial⟩,?_⟩)))));have kp:=l9 aE ZL;refine aQ G G afM (Jl (M:=rm M uo) _ (λb hb=>hM b hb.1) (ho.view hV) hV) (λr3 w3 hc=>?_);obtain⟨rfl,s3⟩:=hc;replace s3:=s3.any M;have:=ae go;replace gM:=(s3.mem _ this).2 gM;replace go:=s3.aB go;have:=ae gs;replace iB:=(s3.mem _ this).2 iB;replace gs:=s3.aB gs;replace ho:=ho.bM s3;replace hs:=hs.bM s3;replace hM:=s3.lt hM;have:=S.size;replace S:=S.ax s3;refine(fun(kp:fI _ _ _)=>ad ⟨G,G,λ_=>kp,?_⟩) a01;refine fp (A:=RT.str) (hn:=by decide) (M:=M) aD I9 q0 G G hM (lu.2 ⟨G,by have:=gj own;omega⟩) (.inr ⟨rfl,rfl⟩) (λaps apt yo Dv=>?_);have:=ae go;replace gM:=(Dv.mem _ this).2 gM;replace go:=Dv.aB go;have:=ae gs;replace iB:=(Dv.mem _ this).2 iB;replace gs:=Dv.aB gs;replace ho:=ho.bM Dv;replace hs:=hs.bM Dv;replace hM:=Dv.lt hM;have:=S.size;replace S:=S.ax Dv;refine(fun(kp:fI _ _ _)=>ad ⟨G,G,λ_=>kp,?_⟩) a01
    refine dH (M:=M) (base:=B) aD I9 rfl rfl rfl rfl hs yo cf a08 a08 (by have:=ae go;omega) (λVo ZN apu ZO Dw=>?_);have:=ae go;replace gM:=(Dw.mem _ this).2 gM;replace go:=Dw.bR go (λh=>by first|exact hs.eD go h|exact hs.fx go q0 h|(have:=(hs.base _ h).1;omega));have:=ae gs;replace iB:=(Dw.mem _ this).2 iB;replace gs:=Dw.bR gs (λh=>by first|exact hs.eD gs h|exact hs.fx gs q0 h|(have:=(hs.base _ h).1;omega));replace yo:=yo.le Dw.le;replace ho:=ho.step Dw (λb h1 h2=>ho.iZ hs q0 h1 h2);replace hM:=Dw.lt hM;have:=S.size;replace S:=S.trans Dw (λb hb h=>⟨(hs.base b h).1,(S.mem b hb).1 (hs.mut_ b h)⟩);replace hs:=ZO;refine ad ⟨G,G,λh=>absurd G h,?_⟩;refine cg (M:=ZN) vS rfl rfl gs rfl ((by obtain⟨_,_,he,_⟩:=hs.isSlice;rw[he];rfl)) iB (λago ZQ B8=>?_);change ago.heap[_]? =some (Obj.cells #[Vo] _ _)at ZQ;have:=ae go;replace gM:=(B8.mem _ this).2 gM;replace go:=B8.bR go a03;have:=ae gs;replace iB:=(B8.mem _ this).2 iB;replace yo:=yo.le B8.le;replace ho:=ho.step B8 (λb hb hk=>by have hk:b=_:=hk;subst hk;first|exact absurd hb (ho.fx go q0)|exact absurd hb (ho.fx gs q0));replace hs:=hs.step B8 (λb hb hk=>by have hk:b=_:=hk;subst hk;first|exact absurd hb (hs.fx go q0)|exact absurd hb (hs.fx gs q0));replace hM:=B8.lt hM;have:=S.size;replace S:=S.trans B8 (λk hk h=>by have h:_=_:=h;subst h;first|(exfalso;omega)|(show _<=_;omega)|exact⟨by first|omega|assumption,(S.mem _ hk).1 ((B8.mem _ (ae gs)).1 iB)⟩|exact .inl rfl|exact .inr rfl|exact .inr (.inl rfl)|exact .inr (.inr rfl)|exact .inr (.inr (.inl rfl))|exact rfl);have gs_:=ZQ;clear gs;have gs:=gs_;clear gs_;refine ad ⟨G,G,λh=>absurd G h,rq (aL ?_)⟩;refine cg (M:=ZN) pb G G go G (G) gM (λL8 Dx kQ=>?_)
    change L8.heap[_]? =some (Obj.cells #[.slice none 0 0] _ _)at Dx;have:=ae go;replace gM:=(kQ.mem _ this).2 gM;have:=ae gs;replace iB:=(kQ.mem _ this).2 iB;replace gs:=kQ.bR gs a03;replace yo:=yo.le kQ.le;replace ho:=ho.step kQ (λb hb hk=>by have hk:b=_:=hk;subst hk;first|exact absurd hb (ho.fx go q0)|exact absurd hb (ho.fx gs q0));replace hs:=hs.step kQ (λb hb hk=>by have hk:b=_:=hk;subst hk;first|exact absurd hb (hs.fx go q0)|exact absurd hb (hs.fx gs q0));replace hM:=kQ.lt hM;have:=S.size;replace S:=S.trans kQ (λk hk h=>by have h:_=_:=h;subst h;first|(exfalso;omega)|(show _<=_;omega)|exact⟨by first|omega|assumption,(S.mem _ hk).1 ((kQ.mem _ (ae go)).1 gM)⟩|exact .inl rfl|exact .inr rfl|exact .inr (.inl rfl)|exact .inr (.inr rfl)|exact .inr (.inr (.inl rfl))|exact rfl);have L7:=Dx;clear go;have go:=L7;clear L7;refine ad ?_
    first|refine ig.nil ?_|simp+decide only[BA,pI,if_true,if_false]|skip
    have Yo: ¬(fC c=true\/lL c=true):=by rintro(h|h)<;>exact absurd h Ub
    first
    |rw[show eF (own,out) c=([],out++[gL own])from(if_neg Yo).trans (if_pos (by show 0<own.length;omega))]
     exact a89
    |rw[show eF (own,out) c=([],out)from(if_neg Yo).trans (if_neg (by show¬0<own.length;omega))]
     exact a89
   ·refine aR (aL ?_);refine cg (M:=M) pb G G go G (G) gM (λL8 Dx kQ=>?_);change L8.heap[_]? =some (Obj.cells #[.slice none 0 0] _ _)at Dx;have:=ae go;replace gM:=(kQ.mem _ this).2 gM;have:=ae gs;replace iB:=(kQ.mem _ this).2 iB;replace gs:=kQ.bR gs a03;replace ho:=ho.step kQ (λb hb hk=>by have hk:b=_:=hk;subst hk;first|exact absurd hb (ho.fx go q0)|exact absurd hb (ho.fx gs q0));replace hs:=hs.step kQ (λb hb hk=>by have hk:b=_:=hk;subst hk;first|exact absurd hb (hs.fx go q0)|exact absurd hb (hs.fx gs q0));replace hM:=kQ.lt hM;have:=S.size;replace S:=S.trans kQ (λk hk h=>by have h:_=_:=h;subst h;first|(exfalso;omega)|(show _<=_;omega)|exact⟨by first|omega|assumption,(S.mem _ hk).1 ((kQ.mem _ (ae go)).1 gM)⟩|exact .inl rfl|exact .inr rfl|exact .inr (.inl rfl)|exact .inr (.inr rfl)|exact .inr (.inr (.inl rfl))|exact rfl);have L7:=Dx;clear go;have go:=L7;clear L7;refine ad ?_
    first|refine ig.nil ?_|simp+decide only[BA,pI,if_true,if_false]|skip
    have Yo: ¬(fC c=true\/lL c=true):=by rintro(h|h)<;>exact absurd h Ub
    first
    |rw[show eF (own,out) c=([],out++[gL own])from(if_neg Yo).trans (if_pos (by show 0<own.length;omega))]
     exact a89
    |rw[show eF (own,out) c=([],out)from(if_neg Yo).trans (if_neg (by show¬0<own.length;omega))]
     exact a89
theorem nC (l:List Int):∀p,(l.foldl eF p).1.length<=p.1.length+l.length/\(l.foldl eF p).2.length<=p.2.length+l.length:=by
 induction l with
 |nil=>intro p;simp
 |cons c l ih=>
  intro p;have:=ih (eF p c)
  have h1:(eF p c).1.length<=p.1.length+1/\(eF p c).2.length<=p.2.length+1:=by
   unfold eF
   split
   ·simp
   ·split<;>simp
  simp only[pC,cz];omega
def words (l:List UInt8):List (List UInt8):=((dC l++[32]).foldl eF ([],[])).2
theorem nD (l:List UInt8):(words l).length<=l.length+1:=by
 have h:=(nC (dC l++[32]) ([],[])).2;have h2:=gF l;rw[bG]at h;have h3:([]:List (List UInt8)).length=0:=rfl;have h4: [(32:Int)].length=1:=rfl;unfold words;simp only[h3,h4]at h;omega
theorem vW {M:aH} {l:List UInt8} (w0:World) (hM:Lt M w0) (hl:l.length<=3900000):
  Spec Tryz.prog 182 #[.string ⟨l.toArray⟩] w0 (λv w=>(RT.str.sl).V M w (words l) v/\Step M w0 M w aE):=by
 have iF:=hM;refine a8 (args:=[_]) (fn:=Tryz.f182) Tryz.func182 G (n:=23) Tryz.ntmps182 ?_;have S:Step M w0 M w0 aE:=aV;refine T.aP (Rg.bg G G (T.aP ?_));refine ec M vS G (λuL QW agp agq ox wN=>?_);obtain⟨AT,yp⟩:∃M',M'=ins M uL:=⟨_,rfl⟩;rw[<-yp]at wN;have lP:AT uL:=by rw[yp];exact .inl G
 change QW.heap[uL]? =some (.cells #[.slice none 0 0] _ _)at ox;replace hM:=wN.lt hM;have:=S.size;replace S:=S.ax wN;refine ad (T.aP ?_);refine ec AT pb G (λgx Vp agr ags Dy yq=>?_);obtain⟨L9,yt⟩:∃M',M'=ins AT gx:=⟨_,rfl⟩;rw[<-yt]at yq;have yu:L9 gx:=by rw[yt];exact .inl G
 change Vp.heap[gx]? =some (.cells #[.slice none 0 0] _ _)at Dy;have:=ae ox;replace lP:=(yq.mem _ this).2 lP;replace ox:=yq.aB ox;replace hM:=yq.lt hM;have:=S.size;replace S:=S.ax yq;refine ad (T.aP (jd (xs:=[]) (ys:=[.tmp 4,.tmp 3]) G G G (Rg.bg G G (aN (T.aP (ab G G ?_))))));refine aQ G G afN (FY _ hM hV) (λv4 w4 hc=>?_);obtain⟨B0,s4⟩:=hc;have:=ae ox;replace lP:=(s4.mem _ this).2 lP;replace ox:=s4.aB ox;have:=ae Dy;replace yu:=(s4.mem _ this).2 yu;replace Dy:=s4.aB Dy;replace hM:=s4.lt hM;have:=S.size;replace S:=S.ax s4;refine bN av G B0 G (ab G G (ad (aY ?_)));refine dz (σ:=Nat) (λk=>[(3,.pointer (some ⟨uL,0,none⟩)),(5,.func (.func 239) #[] #[.pointer (some ⟨gx,0,none⟩),.pointer (some ⟨uL,0,none⟩)]),(10,v4),(11,.int .i64 ((dC l).length:Int)),(12,.int .i64 (k:Int))]) (λk w=>∃M',Lt M' w/\Step M w0 M' w aE/\L3 M' w w0.heap.size gx uL (((dC l).take k).foldl eF ([],[]))/\((RT.int .i64).sl).V M' w (dC l) v4/\k<=(dC l).length) (λk=>(dC l).length-k) 0 a65 ?_ ?_
 ·exact⟨_,hM,S,⟨⟨_,Dy,eG _ _ _ _ _⟩,⟨_,ox,eG _ _ _ _ _⟩,yu,lP,by omega,by omega⟩,B0,bm _⟩
 ·rintro k w ⟨M1,hM,S,ht,B0,hk⟩;refine T.aP (cy G G G (ad (aN ?_)));refine bF G (λc5=>?_) (λc5=>?_)
  ·refine aR (aN (aY (T.aP ?_)));refine cD av I3 G G G B0 cf hV (λu6 c KK kZ=>?_);refine b4 ak G G kZ cf (λin6=>?_);refine Rg.bg G G (aL (ab G G (ab G G ?_)));have sx:=gF l;have Fm:=nC ((dC l).take k) ([],[]);rw[a7]at Fm;refine uk (first:=[]) (captured:=[.pointer (some ⟨gx,0,none⟩),.pointer (some ⟨uL,0,none⟩)]) rfl rfl rfl Zq (yn (B:=w0.heap.size) _ hM c ht (by simp at Fm;omega)) (λr7 w7 hc=>?_);obtain⟨M2,HM,QX,s7⟩:=hc;have tk:(dC l).take (k+1)=(dC l).take k++[c]:=by rw[bX];simp only[aw]at KK;rw[KK];rfl
   refine ad (aL (bB G G G hV (ab G G (ad ?_))));refine⟨G,k+1,a65,?_,?_⟩
   ·exact⟨M2,HM,S.ly s7 (br _),by rw[tk,iE];exact QX,B0.le s7.le,by omega⟩
   ·omega
  ·refine cQ (T.aP (ab G G ?_));have sx:=gF l;have Fm:=nC ((dC l).take k) ([],[]);rw[a7]at Fm;refine uk (first:=[]) (captured:=[.pointer (some ⟨gx,0,none⟩),.pointer (some ⟨uL,0,none⟩)]) rfl rfl rfl Zq (yn (B:=w0.heap.size) _ hM 32 ht (by simp at Fm;omega)) (λr9 w9 hc=>?_);obtain⟨M2,HM,QX,s9⟩:=hc;have e9:eF (((dC l).take k).foldl eF ([],[])) 32=(dC l++[32]).foldl eF ([],[]):=by rw[iE,bD hV];rfl
   rw[e9]at QX;obtain⟨_,⟨us,gs,hs⟩,_⟩:=QX;replace S:=S.ly s9 (br _);refine ad (T.aP (aG aD G G G gs G (Rg.bg G G (aJ ?_))));exact aM G G ⟨xd iF S hs (by have:=nD l;omega),S.back⟩
theorem yv {M:aH} {l:List UInt8} (w0:World) (hM:Lt M w0) (hl:l.length<=900000):Spec Tryz.prog 182 #[.string ⟨l.toArray⟩] w0 (λv w=>(RT.str.sl).V M w (words l) v/\Step M w0 M w aE):=vW w0 hM hV
theorem yx {p:List Int×List (List UInt8)} {c:Int} (h:ot c=true):eF p c=(p.1++[dZ c],p.2):=if_pos (by simpa[ot]using h)
theorem kg {p:List Int×List (List UInt8)} {c:Int} (h:ot c=false):eF p c=if 0<p.1.length then([],p.2++[gL p.1])else([],p.2):=if_neg (by simpa[ot]using h)
def KL (sg:List Int) (i:Nat) (ws:List (List UInt8)):Prop:=(i<=sg.length/\(sg.take i).foldl eF ([],[])=([],ws))\/(i=sg.length+1/\((sg++[32]).foldl eF ([],[])).2=ws)
theorem Ma {c:Int} (h:ot c=true):0<=c/\c<=1114111:=pY (by simpa[ot]using h)
theorem Md:ot 32=false:=by decide
theorem uM {sg:List Int} {i:Nat} {c:Int} (h:sg[i]? =some c) (p:List Int×List (List UInt8)):(sg.take (i+1)).foldl eF p=eF ((sg.take i).foldl eF p) c:=by
 rw[bX,h,dx,iE];rfl
theorem KL.skip {sg:List Int} {i:Nat} {ws:List (List UInt8)} {c:Int} (h:KL sg i ws) (hc:sg[i]? =some c) (hi:ot c=false):KL sg (i+1) ws:=by
 have eK:=(al.1 hc).1;rcases h with⟨_,h⟩|⟨h,_⟩
 ·exact .inl ⟨eK,by rw[uM hc,h,kg hi];rfl⟩
 ·omega
theorem KL.word {sg:List Int} {j:Nat} {own:List Int} {ws:List (List UInt8)} (h:(sg.take j).foldl eF ([],[])=(own,ws)) (ho:0<own.length) (hj:j<=sg.length) (hn:∀c,sg[j]? =some c->ot c=false):KL sg (j+1) (ws++[gL own]):=by
 rcases pH hj with e|eK
 ·refine .inr ⟨by omega,?_⟩;rw[e,List.take_length]at h;rw[iE,h];show(eF (own,ws) 32).2=_;rw[kg Md,if_pos ho]
 ·have hc:sg[j]? =some sg[j]:=an eK;exact .inl ⟨eK,by rw[uM hc,h,kg (hn _ hc),if_pos ho]⟩
theorem KL.done {sg:List Int} {i:Nat} {ws:List (List UInt8)} (h:KL sg i ws) (hi:sg.length<=i):((sg++[32]).foldl eF ([],[])).2=ws:=by
 rcases h with⟨h1,h⟩|⟨_,h⟩
 ·rw[bD hV]at h;rw[iE,h];show(eF ([],ws) 32).2=_;rw[kg Md];rfl
 ·exact h
theorem KL.len {sg:List Int} {i:Nat} {ws:List (List UInt8)} (h:KL sg i ws):ws.length<=sg.length+1:=by
 rcases h with⟨_,h⟩|⟨_,h⟩
 ·have:=(nC (sg.take i) ([],[])).2;rw[h,a7]at this;simp only[jE]at this;have e:(([]:List Int),([]:List (List UInt8))).2.length=0:=rfl;omega
 ·have:=(nC (sg++[32]) ([],[])).2;rw[h,bG]at this;have e:(([]:List Int),([]:List (List UInt8))).2.length=0:=rfl;have e2: [(32:Int)].length=1:=rfl;omega
theorem gH {sg:List Int} {j:Nat} {own:List Int} {ws:List (List UInt8)} (h:(sg.take j).foldl eF ([],[])=(own,ws)):own.length<=sg.length/\ws.length<=sg.length:=by
 have:=nC (sg.take j) ([],[]);rw[h,a7]at this;simp only[jE]at this;have e:(([]:List Int),([]:List (List UInt8))).1.length=0:=rfl;have e2:(([]:List Int),([]:List (List UInt8))).2.length=0:=rfl;omega
theorem Dz {M:aH} {l:List UInt8} (w0:World) (hM:Lt M w0) (hl:l.length<=900000):
  Spec Tryz.prog 122 #[.string ⟨l.toArray⟩] w0 (λv w=>(RT.str.sl).V M w (words l) v/\Step M w0 M w aE):=by
 have iF:=hM;have sx:=gF l;refine a8 (args:=[_]) (fn:=Tryz.f122) Tryz.func122 G (n:=50) Tryz.ntmps122 ?_;have S:Step M w0 M w0 aE:=aV;refine T.aP (Rg.bg G G (T.aP (ab G G ?_)));refine aQ G G UY (vV _ hM hV) (λv1 w1 hc=>?_);obtain⟨hv,s1⟩:=hc;replace hM:=s1.lt hM;have:=S.size;replace S:=S.ax s1;refine Rg.bg G G (T.aP (Rg.bg G G (aN (T.aP (Rg.bg G G (aY ?_))))));refine dz (σ:=Nat×Value) (λq=>[(3,v1),(4,q.2),(5,.int .i64 (q.1:Int))]) (λq w=>∃M' ws,Lt M' w/\Step M w0 M' w aE/\Own RT.str 9 M' w w0.heap.size q.2 ws/\((RT.int .i64).sl).V M' w (dC l) v1/\KL (dC l) q.1 ws) (λq=>(dC l).length+1-q.1) (0,.slice none 0 0) a09 ?_ ?_
 ·exact⟨M,[],hM,S,eG _ _ _ _ _,hv,.inl ⟨bm _,G⟩⟩
 ·rintro⟨i,u4⟩ w ⟨M1,ws,hM,S,ti,hv,ZR⟩;dsimp only at ti ZR ⊢;refine aN (T.aP (ab G G (ab G G (bN av G hv G (cy G G G (ad ?_))))));refine bF G (λc4=>?_) (λc4=>?_)
  ·refine aR (aN (aY (T.aP (ab G G (ab G G ?_)))));refine cD av I3 G G G hv cf hV (λZS c hgc huc=>?_);refine b4 ak G G huc cf (λinc=>?_);rw[aw]at hgc;refine aQ G G UZ (yh c _) (λr wc hc=>?_);obtain⟨rfl,rfl⟩:=hc;refine bh (v':= .bool (decide (ot c=true))) (by cases ot c<;>rfl) (Rg.bg rfl rfl (aN (T.aP (ab rfl rfl (iv rfl rfl (bh (v':= .bool (decide (ot c=false))) (by cases ot c<;>rfl) (ad ?_)))))));refine bF G (λc7=>?_) (λc7=>?_)
   ·refine cQ (aL (ab G G (bB G G G hV (Rg.bg G G ?_))));refine⟨G,(i+1,u4),a09,?_,?_⟩
    ·exact⟨M1,ws,hM,S,ti,hv,ZR.skip hgc Ub⟩
    ·dsimp only;omega
   ·refine aR (T.aP (Rg.bg G G (aN (aY ?_))));refine dz (σ:=Nat×List Int×Value) (λq=>[(3,v1),(4,u4),(5,.int .i64 (q.1:Int)),(7,q.2.2)]) (λq w=>∃M',Lt M' w/\Step M w0 M' w aE/\Own RT.str 9 M' w w0.heap.size u4 ws/\Own (RT.int .i64) 3 M' w w0.heap.size q.2.2 q.2.1/\((RT.int .i64).sl).V M' w (dC l) v1/\((dC l).take q.1).foldl eF ([],[])=(q.2.1,ws)/\i<=q.1/\q.1<=(dC l).length/\(i<q.1->0<q.2.1.length)) (λq=>(dC l).length-q.1) (i,[],.slice none 0 0) Uc ?_ ?_
    ·have agt:((dC l).take i).foldl eF ([],[])=([],ws):=by
      rcases ZR with⟨_,h⟩|⟨h,_⟩
      ·exact h
      ·omega
     exact⟨M1,hM,S,ti,eG _ _ _ _ _,hv,agt,br _,by dsimp only;omega,λh=>absurd h (jR _)⟩
    ·rintro⟨j,own,u7⟩ w ⟨M2,hM,S,ti,sz,hv,hf,Yk,vP,rD⟩;dsimp only at sz hf Yk vP rD ⊢;refine aN (T.aP (ab G G (ab G G (bN av G hv G (cy G G G (ab G G ?_))))));refine aO (g:=27) G (λagu=>?_) (λagu=>?_)
     ·refine ah G G (ab G G (ah G G (ab G G (ah G G ?_))));refine cD av I3 G G G hv cf hV (λapw d vX hud=>?_);refine ah G G ?_;refine b4 ak G G hud cf (λind=>?_);rw[aw]at vX;refine ah G G ?_;refine aQ G G UZ (yh d _) (λr wc hc=>?_);obtain⟨rfl,rfl⟩:=hc;refine bh (v':= .bool (decide (ot d=true))) (by cases ot d<;>rfl) (aU rfl rfl rfl (ad ?_));refine bF G (λc9=>?_) (λc9=>?_)
      ·refine aR (aY (T.aP (ab G G (ab G G (ab G G ?_)))));refine cD av I3 G G G hv cf hV (λZT e BB hue=>?_);refine b4 ak G G hue cf (λmc=>?_);rw[aw]at BB;have Vq:ot e=true:=by rw[vX]at BB;cases BB;assumption
       refine aQ G G Zp (yg e _ (Ma Vq)) (λr wc hc=>?_);obtain⟨rfl,rfl⟩:=hc;refine fp (A:=RT.int .i64) (hn:=by decide) (M:=M2) av I3 q0 G G hM (gV (by have:=Ma Vq;unfold dZ;split<;>omega)) (.inr ⟨rfl,rfl⟩) (λalL alM F0 DA=>?_);replace hv:=hv.le DA.le;replace ti:=ti.bM DA;replace sz:=sz.bM DA;replace hM:=DA.lt hM;have:=S.size;replace S:=S.ax DA;refine dH (M:=M2) (base:=w0.heap.size) av I3 G G G G sz F0 cf ad7 ad7 (S.size) (λTa ZU ZV Vr oW=>?_);replace hv:=hv.le oW.le;replace F0:=F0.le oW.le;replace ti:=ti.step oW (λb h1 h2=>ti.iZ sz q0 h1 h2);replace hM:=oW.lt hM;have:=S.size;replace S:=S.dR oW sz (br _);replace sz:=Vr;refine Rg.bg G G (aL (ab G G (bB G G G hV (Rg.bg G G ?_))));refine⟨G,(j+1,own++[dZ e],Ta),Uc,?_,?_⟩
       ·exact⟨ZU,hM,S,ti,sz,hv,by rw[uM BB,hf,yx Vq],by dsimp only;omega,by dsimp only;omega,λ_=>by simp⟩
       ·dsimp only;omega
      ·refine cQ (aL (ab G G (ab G G ?_)));refine aQ G G U1 (rR (M:=rm M2 u7) _ (λb hb=>hM b hb.1) (sz.view (by have:=gH hf;omega)) (by have:=gH hf;omega)) (λr12 Me Vs=>?_);obtain⟨rfl,mF⟩:=Vs;replace mF:=mF.any M2;replace hv:=hv.le mF.le;replace ti:=ti.bM mF;replace sz:=sz.bM mF;replace hM:=mF.lt hM;have:=S.size;replace S:=S.ax mF;refine fp (A:=RT.str) (hn:=by decide) (M:=M2) aD I9 q0 G G hM (lu.2 ⟨G,by have:=gj own;have:=gH hf;omega⟩) (.inr ⟨rfl,rfl⟩) (λZW ZX rS pZ=>?_);replace hv:=hv.le pZ.le;replace ti:=ti.bM pZ;replace sz:=sz.bM pZ;replace hM:=pZ.lt hM;have:=S.size;replace S:=S.ax pZ;refine dH (M:=M2) (base:=w0.heap.size) aD I9 G G G G ti rS cf ad7 ad7 (S.size) (λyy p6 Mf rT ff=>?_);replace hv:=hv.le ff.le;replace rS:=rS.le ff.le;replace sz:=sz.step ff (λb h1 h2=>sz.iZ ti q0 h1 h2);replace hM:=ff.lt hM;have:=S.size;replace S:=S.dR ff ti (br _);replace ti:=rT;refine Rg.bg G G (aL (ab G G (bB G G G hV (Rg.bg G G ?_))))
       have rD:0<own.length:=by
        rcases pH Yk with e|h
        ·exfalso;subst e
         first|omega|(rw[hgc]at vX;cases vX;exact c9 (by cases hq:ot c with|true=>rfl|false=>exact absurd hq Ub))
        ·exact rD h
       have Jr:∀c,(dC l)[j]? =some c->ot c=false:=λc hc=>by
        first|(rw[dE hV]at hc;cases hc)|(rw[vX]at hc;cases hc;exact fm.2 c9)
       refine⟨G,(j+1,yy),a09,?_,?_⟩
       ·exact⟨p6,_,hM,S,ti,hv,KL.word hf rD vP Jr⟩
       ·dsimp only;omega
     ·refine aj G G G G (aj G G G G (aj G G G G (aj G G G G (aj G G G G (az G G G (ad (iS G (cQ (aL (ab G G (ab G G ?_)))))))))));refine aQ G G U1 (rR (M:=rm M2 u7) _ (λb hb=>hM b hb.1) (sz.view (by have:=gH hf;omega)) (by have:=gH hf;omega)) (λr12 Me Vs=>?_);obtain⟨rfl,mF⟩:=Vs;replace mF:=mF.any M2;replace hv:=hv.le mF.le;replace ti:=ti.bM mF;replace sz:=sz.bM mF;replace hM:=mF.lt hM;have:=S.size;replace S:=S.ax mF;refine fp (A:=RT.str) (hn:=by decide) (M:=M2) aD I9 q0 G G hM (lu.2 ⟨G,by have:=gj own;have:=gH hf;omega⟩) (.inr ⟨rfl,rfl⟩) (λZW ZX rS pZ=>?_);replace hv:=hv.le pZ.le;replace ti:=ti.bM pZ;replace sz:=sz.bM pZ;replace hM:=pZ.lt hM;have:=S.size;replace S:=S.ax pZ;refine dH (M:=M2) (base:=w0.heap.size) aD I9 G G G G ti rS cf ad7 ad7 (S.size) (λyy p6 Mf rT ff=>?_);replace hv:=hv.le ff.le;replace rS:=rS.le ff.le;replace sz:=sz.step ff (λb h1 h2=>sz.iZ ti q0 h1 h2);replace hM:=ff.lt hM;have:=S.size;replace S:=S.dR ff ti (br _);replace ti:=rT;refine Rg.bg G G (aL (ab G G (bB G G G hV (Rg.bg G G ?_))))
      have rD:0<own.length:=by
       rcases pH Yk with e|h
       ·exfalso;subst e
        first|omega|(rw[hgc]at vX;cases vX;exact c9 (by cases hq:ot c with|true=>rfl|false=>exact absurd hq Ub))
       ·exact rD h
      have Jr:∀c,(dC l)[j]? =some c->ot c=false:=λc hc=>by
       first|(rw[dE hV]at hc;cases hc)|(rw[vX]at hc;cases hc;exact fm.2 c9)
      refine⟨G,(j+1,yy),a09,?_,?_⟩
      ·exact⟨p6,_,hM,S,ti,hv,KL.word hf rD vP Jr⟩
      ·dsimp only;omega
  ·refine cQ (T.aP (ab G G (Rg.bg G G (aJ ?_))));have e:=ZR.done hV;have e2:words l=ws:=e;rw[e2];exact aM G G ⟨ti.close iF S (by have:=ZR.len;omega),S.back⟩
def lQ:Nat->List (List UInt8)->Int
 |_,[]=>0
 |i,w::ws=>if 30<w.length then 3 else if 500<=i then 7 else lQ (i+1) ws
theorem HN {i k:Nat} {ws:List (List UInt8)} {x:List UInt8} (h:ws[k]? =some x):lQ i (ws.drop k)=if 30<x.length then 3 else if 500<=i then 7 else lQ (i+1) (ws.drop (k+1)):=by
 have eK:=(al.1 h).1;rw[eR eK,(al.1 h).2];rfl
theorem ep {M:aH} {w:World} {x:List UInt8} {v:Value} (h:RT.str.V M w x v):v= .string ⟨x.toArray⟩:=(lu.1 h).1
theorem Js {M:aH} {l:List UInt8} (w0:World) (hM:Lt M w0) (hl:l.length<=900000):
  Spec Tryz.prog 138 #[.string ⟨l.toArray⟩] w0 (λv w=>(∃u,v= .tuple #[u,.int .i64 (lQ 0 (words l))]/\(lQ 0 (words l)=0->∃a cap,u= .slice a (words l).length cap))/\Step M w0 M w aE):=by
 have iF:=hM;refine a8 (args:=[_]) (fn:=Tryz.f138) Tryz.func138 G (n:=30) Tryz.ntmps138 ?_;have S:Step M w0 M w0 aE:=aV;refine T.aP (aF G G (Rg.bg G G (T.aP (Rg.bg G G (aN (T.aP ?_))))));refine ab G G ?_;refine aQ G G U2 (yv _ hM hl) (λv1 w1 hc=>?_);obtain⟨hv,s1⟩:=hc;replace hM:=s1.lt hM;have:=S.size;replace S:=S.ax s1;refine bN aD G hv G (ab G G (ad (aY ?_)));refine dz (σ:=Nat×Value) (λq=>[(8,v1),(4,q.2),(9,.int .i64 ((words l).length:Int)),(10,.int .i64 (q.1:Int))]) (λq w=>(∃M' xs,Lt M' w/\Step M w0 M' w aE/\Own (RT.pair RT.str (RT.int .i64)) 218 M' w w0.heap.size q.2 xs/\xs.length=q.1/\(RT.str.sl).V M' w (words l) v1)/\lQ 0 (words l)=lQ q.1 ((words l).drop q.1)/\q.1<=(words l).length/\q.1<=500) (λq=>(words l).length-q.1) (0,.slice none 0 0) Uc ?_ ?_
 ·exact⟨⟨M,[],hM,S,eG _ _ _ _ _,G,hv⟩,G,bm _,bm _⟩
 ·rintro⟨i,u⟩ w ⟨⟨M1,xs,hM,S,ho,xf,hv⟩,I4,hi,hi5⟩;dsimp only at ho xf I4 hi hi5 ⊢;refine T.aP (cy G G G (ad (aN ?_)));refine bF G (λc3=>?_) (λc3=>?_)
  ·refine aR (aN (aY (T.aP (ab G G ?_))));refine cD aD I9 G G G hv cf hV (λZY x HO hux=>?_);refine bP aA G G G G G hux cf (λvx yz=>?_);rw[aw]at HO;obtain rfl:=ep yz;have ht:=HN (i:=i) HO;refine aF G G (Rg.bg G G (aN (aY (T.aP (ab G G (rp aA G G (bh (v':= .int .i64 (x.length:Int)) a71 (fU G G G (aF G G ?_)))))))));refine ad ?_;refine bF G (λc5=>?_) (λc5=>?_)
   ·refine T.aP (aF G G (Rg.bg G G (aJ ?_)));rw[I4,ht,if_pos hV];exact ad0
   ·refine T.aP (ab G G (ic G G G (Rg.bg G G ?_)));refine bF G (λc7=>?_) (λc7=>?_)
    ·refine T.aP (aF G G (Rg.bg G G (aJ ?_)));rw[I4,ht,if_neg hV,if_pos hV];exact ad0
    ·refine aR (aL (ab rfl rfl (ab rfl rfl (ab rfl rfl (dg (places:=[(0,1),(1,1)]) Tryz.underlying218 Jj Zn rfl ⟨_,_,rfl,rfl,_,_,rfl,rfl,rfl⟩ (out:=[_,_]) ⟨0,[_],rfl,rfl,by simp[Value.cells],1,[_],rfl,rfl,by simp[Value.cells],rfl⟩ ?_)))));refine fp (A:=(RT.pair RT.str (RT.int .i64))) (hn:=by decide) (M:=M1) Tryz.underlying154 Jj q0 G G hM (fw yz (gV (x:=(i:Int)) hV) G G G G) (.inl G) (λZH af8 Mg Ac=>?_);replace hv:=hv.le Ac.le;replace yz:=yz.le Ac.le;replace ho:=ho.bM Ac;replace hM:=Ac.lt hM;have:=S.size;replace S:=S.ax Ac;refine dH (M:=M1) (base:=w0.heap.size) Tryz.underlying154 Jj rfl rfl rfl rfl ho Mg cf a08 a08 (S.size) (λagx agy ZZ Z0 p8=>?_);replace hv:=hv.le p8.le;replace yz:=yz.le p8.le;replace Mg:=Mg.le p8.le;replace hM:=p8.lt hM;have:=S.size;replace S:=S.dR p8 ho (br _);replace ho:=Z0;refine Rg.bg G G (aL (bB G G G hV (ab G G (ad ?_))));refine⟨G,(i+1,agx),Uc,?_,?_⟩
     ·exact⟨⟨agy,_,hM,S,ho,by simp[xf],hv⟩,by rw[I4,ht,if_neg hV,if_neg hV],by dsimp only;omega,by dsimp only;omega⟩
     ·dsimp only;omega
  ·refine cQ (T.aP (ab G G (aF G G (Rg.bg G G (aJ ?_)))));have e:lQ 0 (words l)=0:=by rw[I4,iV hV];rfl
   rw[e];obtain⟨a,cap,he,_⟩:=ho.isSlice;exact eX rfl rfl rfl ⟨⟨u,rfl,λ_=>⟨a,cap,by rw[he,xf];congr 1;omega⟩⟩,S.back⟩
theorem F1 {M:aH} {l:List UInt8} (w0:World) (hM:Lt M w0) (hl:l.length<=900000):
  Spec Tryz.prog 74 #[.string ⟨l.toArray⟩] w0 (λv w=>(∃u,v= .tuple #[u,.int .i64 (lQ 0 (words l))]/\(lQ 0 (words l)=0->∃a cap,u= .slice a (words l).length cap))/\Step M w0 M w aE):=by
 have iF:=hM;refine a8 (args:=[_]) (fn:=Tryz.f74) Tryz.func74 G (n:=33) Tryz.ntmps74 ?_;have S:Step M w0 M w0 aE:=aV;refine T.aP (aF G G (Rg.bg G G (T.aP (ab G G ?_))));refine aQ G G afr (Dz _ hM hl) (λv1 w1 hc=>?_);obtain⟨hv,s1⟩:=hc;replace hM:=s1.lt hM;have:=S.size;replace S:=S.ax s1;refine Rg.bg G G (T.aP (Rg.bg G G (aN (T.aP (Rg.bg G G (aY ?_))))));refine dz (σ:=Nat×Value) (λq=>[(4,v1),(5,q.2),(6,.int .i64 (q.1:Int))]) (λq w=>(∃M' xs,Lt M' w/\Step M w0 M' w aE/\Own (RT.pair RT.str (RT.int .i64)) 218 M' w w0.heap.size q.2 xs/\xs.length=q.1/\(RT.str.sl).V M' w (words l) v1)/\lQ 0 (words l)=lQ q.1 ((words l).drop q.1)/\q.1<=(words l).length/\q.1<=500) (λq=>(words l).length-q.1) (0,.slice none 0 0) a09 ?_ ?_
 ·exact⟨⟨M,[],hM,S,eG _ _ _ _ _,G,hv⟩,G,bm _,bm _⟩
 ·rintro⟨i,u⟩ w ⟨⟨M1,xs,hM,S,ho,xf,hv⟩,I4,hi,hi5⟩;dsimp only at ho xf I4 hi hi5 ⊢;refine aN (T.aP (ab G G (ab G G (bN aD G hv G (cy G G G (ad ?_))))));refine bF G (λc4=>?_) (λc4=>?_)
  ·refine aR (aN (aY (aN (T.aP (ab G G (ab G G ?_))))));refine cD aD I9 G G G hv cf hV (λZS x HO hux=>?_);refine bP aA G G G G G hux cf (λvx yz=>?_);rw[aw]at HO;obtain rfl:=ep yz;have ht:=HN (i:=i) HO;refine rp aA G G (bh (v':= .int .i64 (x.length:Int)) a71 (fU G G G (ad ?_)));refine bF G (λc6=>?_) (λc6=>?_)
   ·refine T.aP (aF G G (Rg.bg G G (aJ ?_)));rw[I4,ht,if_pos hV];exact ad0
   ·refine aR (aN (T.aP (ab G G (ed G G G (ad ?_)))));refine bF G (λc8=>?_) (λc8=>?_)
    ·refine T.aP (aF G G (Rg.bg G G (aJ ?_)));rw[I4,ht,if_neg hV,if_pos hV];exact ad0
    ·refine aR (aL (ab G G (ab G G (ab G G ?_))));refine cD aD I9 G G G hv cf hV (λZT y Jt huy=>?_);refine bP aA G G G G G huy cf (λvy Yp=>?_);rw[aw]at Jt;obtain rfl:=ep Yp;obtain rfl:x=y:=by rw[HO]at Jt;exact aK Jt
     refine ab rfl rfl (dg (places:=[(0,1),(1,1)]) Tryz.underlying218 Jj Zn rfl ⟨_,_,rfl,rfl,_,_,rfl,rfl,rfl⟩ (out:=[_,_]) ⟨0,[_],rfl,rfl,by simp[Value.cells],1,[_],rfl,rfl,by simp[Value.cells],rfl⟩ ?_);refine fp (A:=(RT.pair RT.str (RT.int .i64))) (hn:=by decide) (M:=M1) Tryz.underlying154 Jj q0 G G hM (fw Yp (gV (x:=(i:Int)) hV) G G G G) (.inl G) (λTa ZV F2 oW=>?_);replace hv:=hv.le oW.le;replace yz:=yz.le oW.le;replace Yp:=Yp.le oW.le;replace ho:=ho.bM oW;replace hM:=oW.lt hM;have:=S.size;replace S:=S.ax oW;refine dH (M:=M1) (base:=w0.heap.size) Tryz.underlying154 Jj rfl rfl rfl rfl ho F2 cf a08 a08 (S.size) (λZ1 Z2 HP Vt gy=>?_);replace hv:=hv.le gy.le;replace yz:=yz.le gy.le;replace Yp:=Yp.le gy.le;replace F2:=F2.le gy.le;replace hM:=gy.lt hM;have:=S.size;replace S:=S.dR gy ho (br _);replace ho:=Vt;refine Rg.bg G G (aL (ab G G (bB G G G hV (Rg.bg G G ?_))));refine⟨G,(i+1,Z1),a09,?_,?_⟩
     ·exact⟨⟨Z2,_,hM,S,ho,by simp[xf],hv⟩,by rw[I4,ht,if_neg hV,if_neg hV],by dsimp only;omega,by dsimp only;omega⟩
     ·dsimp only;omega
  ·refine cQ (T.aP (ab G G (aF G G (Rg.bg G G (aJ ?_)))));have e:lQ 0 (words l)=0:=by rw[I4,iV hV];rfl
   rw[e];obtain⟨a,cap,he,_⟩:=ho.isSlice;exact eX rfl rfl rfl ⟨⟨u,rfl,λ_=>⟨a,cap,by rw[he,xf];congr 1;omega⟩⟩,S.back⟩
end Go.K
namespace Go.Proofs
open Go.Shelf
def Tryz.DB:Go.Shelf.Ren:=⟨fun|160=>183|232=>246|231=>245|227=>247|234=>249|233=>248|236=>251|235=>250|228=>283|271=>286|151=>285|197=>284|120=>311|152=>310|260=>309|137=>319|119=>308|224=>320|225=>321|217=>323|266=>324|n=>n,fun|9=>9|4=>4|3=>3|5=>5|117=>340|116=>339|0=>0|124=>343|21=>21|105=>373|46=>262|119=>401|139=>404|138=>403|n=>n,fun|3=>2|4=>3|n=>n⟩
theorem Tryz.QY:Go.Proofs.Lays.n160 Tryz.prog Tryz.DB:={
 mixed:=by kernel_rfl
 f119:=Tryz.func308.trans a02
 f120:=Tryz.func311.trans a02
 f137:=Tryz.func319.trans a02
 f151:=Tryz.func285.trans a02
 f152:=Tryz.func310.trans a02
 f160:=Tryz.func183.trans a02
 f197:=Tryz.func284.trans a02
 f217:=Tryz.func323.trans a02
 f224:=Tryz.func320.trans a02
 f225:=Tryz.func321.trans a02
 f227:=Tryz.func247.trans a02
 f228:=Tryz.func283.trans a02
 f231:=Tryz.func245.trans a02
 f232:=Tryz.func246.trans a02
 f233:=Tryz.func248.trans a02
 f234:=Tryz.func249.trans a02
 f235:=Tryz.func250.trans a02
 f236:=Tryz.func251.trans a02
 f260:=Tryz.func309.trans a02
 f266:=Tryz.func324.trans a02
 f271:=Tryz.func286.trans a02
 t0:=zS
 a0:=Tryz.isAgg0
 z0:=Tryz.sizeOf0
 v0:=Tryz.zeroValue0
 t3:=ak
 a3:=Tryz.isAgg3
 z3:=Tryz.sizeOf3
 v3:=Tryz.zeroValue3
 t4:=zU
 a4:=Tryz.isAgg4
 z4:=Tryz.sizeOf4
 v4:=Tryz.zeroValue4
 t5:=cP
 a5:=Tryz.isAgg5
 z5:=Tryz.sizeOf5
 v5:=Tryz.zeroValue5
 t9:=aA
 a9:=Tryz.isAgg9
 z9:=zT
 v9:=mW
 t21:=Tryz.underlying21
 a21:=Tryz.isAgg21
 z21:=Tryz.sizeOf21
 v21:=Tryz.zeroValue21
 t46:=Tryz.underlying262
 a46:=Tryz.isAgg262
 z46:=Tryz.sizeOf262
 v46:=Tryz.zeroValue262
 t105:=Tryz.underlying373
 a105:=Tryz.isAgg373
 z105:=Tryz.sizeOf373
 v105:=Tryz.zeroValue373
 t116:=Tryz.underlying339
 a116:=Tryz.isAgg339
 z116:=Tryz.sizeOf339
 t117:=Tryz.underlying340
 a117:=Tryz.isAgg340
 z117:=Tryz.sizeOf340
 v117:=Tryz.zeroValue340
 t119:=Tryz.underlying401
 a119:=Tryz.isAgg401
 z119:=Tryz.sizeOf401
 t124:=Tryz.underlying343
 a124:=Tryz.isAgg343
 z124:=Tryz.sizeOf343
 v124:=Tryz.zeroValue343
 t138:=Tryz.underlying403
 a138:=Tryz.isAgg403
 z138:=Tryz.sizeOf403
 v138:=Tryz.zeroValue403
 t139:=Tryz.underlying404
 a139:=Tryz.isAgg404
 z139:=Tryz.sizeOf404
 v139:=Tryz.zeroValue404
 g3:=by kernel_rfl
 g4:=by kernel_rfl}
end Go.Proofs
namespace Go.K
open Go.Proofs
set_option maxRecDepth 10000
open Go.RowKit Go.Shelf
def k3:List UInt8:=[97,98,99,100,101,102,103,104,105,106,107,108,109,110,111,112,113,114,115,116,117,118,119,120,121,122]
def ia (b:UInt8):Bool:=decide (97<=b.toNat/\b.toNat<=122)
def eA (s:List UInt8):Bool:=decide (1<=s.length/\s.length<=12)&&s.all ia
theorem DC (b:UInt8):k3.contains b=ia b:=by
 have key:∀n:Fin 256,k3.contains (UInt8.ofNat n)=ia (UInt8.ofNat n):=by decide
 have:=key ⟨b.toNat,UInt8.toNat_lt b⟩;simpa using this
theorem drop_nil {α:Type} (p:α->Bool):∀l:List α,l.dropWhile p=[]↔∀x∈l,p x=true
 |[]=>by simp
 |x::l=>by
  rw[List.dropWhile_cons];by_cases h:p x=true
  ·rw[if_pos h,drop_nil p l];simp[h]
  ·rw[if_neg h];simp[h]
theorem yA (s:List UInt8):Lib.trimS s k3=[]↔s.all ia=true:=by
 have e:(λb=>k3.contains b)=ia:=funext DC;unfold Lib.trimS Lib.trimLeftS Lib.trimRightS;rw[e,drop_nil,ew];constructor
 ·intro h
  have h2:s.reverse.dropWhile ia=[]:=by
   cases hd:s.reverse.dropWhile ia with
   |nil=>rfl
   |cons x r=>
    have h3:=h x (by rw[hd];simp);have h4:=List.head?_dropWhile_not ia s.reverse;rw[hd]at h4;simp[h3]at h4
  intro x hx;exact(drop_nil _ _).1 h2 x (List.mem_reverse.2 hx)
 ·intro h x hx;rw[(drop_nil ia s.reverse).2 (λy hy=>h y (List.mem_reverse.1 hy))]at hx
  cases hx
theorem Ju (s:List UInt8) (hs:s.length<=140737488355328) (w:World):Spec Tryz.prog 183 #[.string ⟨s.toArray⟩,.string ⟨k3.toArray⟩] w (λv w'=>v= .string ⟨(Lib.trimS s k3).toArray⟩/\∀M,Step M w M w' aE):=
 (Any.strings_Trim_ascii Tryz.QY Tryz.zeroValue339 (by kernel_rfl) ⟨s.toArray⟩ ⟨k3.toArray⟩ w (by simp[ByteArray.size];omega) q0 (λj b hj=>by
  have hm:b∈k3:=ao hj;have:=DC b;rw[fS.2 hm]at this;have h2:97<=b.toNat/\b.toNat<=122:=by simpa[ia]using this.symm
  omega)).mono λe w' ⟨h1,h2⟩=>⟨_,h1,rfl,λM=> .BT h2 M⟩
theorem uN (s:List UInt8) (hs:s.length<=140737488355328) (w0:World):
  Spec Tryz.prog 139 #[.string ⟨s.toArray⟩] w0 (λv w=>v= .bool (eA s)/\∀M,Step M w0 M w aE):=by
 refine a8 (args:=[_]) (fn:=Tryz.f139) Tryz.func139 G (n:=15) Tryz.ntmps139 (T.aP (Rg.bg G G (T.aP (ab G G (Rg.Hz (p:=s) (q:=[]) G G G (ab G G ?_))))));refine aO (g:=5) G (λir=>?_) (λir=>?_)
 ·refine ah G G (ab G G (ah G G (rp aA G G (bh (v':= .int .i64 (s.length:Int)) a71 (ah G G (fQ G G G (aU G G G (ab G G ?_))))))));refine aO (g:=10) G (λagz=>?_) (λagz=>?_)
  ·refine ah G G (ab G G (ah G G ?_));refine aQ G G afB (Ju s hs _) (λr w9 hc=>?_);obtain⟨rfl,s9⟩:=hc;refine ah G G (Rg.CS (p:=Lib.trimS s k3) (q:=[]) G G G (aU G G G (Rg.bg G G (aJ ?_))))
   first
   |exact aM rfl rfl ⟨by rw[eA,decide_eq_true (p:=1<=s.length/\s.length<=12) ⟨eh.2 ir,by omega⟩,dr];exact congrArg Value.bool (by rw[jF,decide_eq_true_eq];exact yA s),s9⟩
   |exact aa2
   |(have Vu:s=[]:=Classical.not_not.1 ir
     subst Vu;exact aM G G ⟨G,λM=>aV⟩)
  ·refine aj G G G G (aj G G G G (aj G G G G (az G G G (Rg.bg G G (aJ ?_)))))
   first
   |exact aM rfl rfl ⟨by rw[eA,decide_eq_true (p:=1<=s.length/\s.length<=12) ⟨eh.2 ir,by omega⟩,dr];exact congrArg Value.bool (by rw[jF,decide_eq_true_eq];exact yA s),s9⟩
   |exact aa2
   |(have Vu:s=[]:=Classical.not_not.1 ir
     subst Vu;exact aM G G ⟨G,λM=>aV⟩)
 ·refine aj G G G G (aj G G G G (aj G G G G (az G G G (ab G G (aj G G G G (aj G G G G (aj G G G G (az G G G (Rg.bg G G (aJ ?_))))))))))
  first
  |exact aM rfl rfl ⟨by rw[eA,decide_eq_true (p:=1<=s.length/\s.length<=12) ⟨eh.2 ir,by omega⟩,dr];exact congrArg Value.bool (by rw[jF,decide_eq_true_eq];exact yA s),s9⟩
  |exact aa2
  |(have Vu:s=[]:=Classical.not_not.1 ir
    subst Vu;exact aM G G ⟨G,λM=>aV⟩)
theorem Mh {s:List UInt8} (h:∀(k:Nat) c,s[k]? =some c->ia c=true):s.all ia=true:=ew.2 λc hc=>by
 obtain⟨k,hk⟩:=bO.1 hc;exact h k c hk
theorem tj {s:List UInt8} {i:Nat} (h:i<s.length):s[i]? =some (s.getD i 0):=by rw[cu,an h];rfl
theorem kh {M:aH} {w:World} {p:Fd} {v:Value} (h:RT.fd.V M w p v):v= .agg #[.string ⟨p.1.toArray⟩,.string ⟨p.2.toArray⟩]:=by
 obtain⟨vs,⟨va,vb,rfl,⟨rfl,_⟩,⟨rfl,_⟩⟩,rfl⟩:=h;rfl
theorem Vv {M:aH} {w:World} {p:Fd} {v:Value} (h:RT.fd.V M w p v):p.1.length<=140737488355328/\p.2.length<=140737488355328:=by
 obtain⟨vs,⟨va,vb,rfl,⟨rfl,h1⟩,⟨rfl,h2⟩⟩,_⟩:=h;exact⟨h1,h2⟩
def Ad:List Fd->List Fd->Nat->Int
 |_,[],n=>if 500<n then 7 else 0
 |seen,f::fs,n=>if eA f.1=false then 4 else if(seen.any λg=>decide (g.1=f.1))=true then 5 else if lQ 0 (words f.2)≠0 then lQ 0 (words f.2)else Ad (seen++[f]) fs (n+(words f.2).length)
def mj (d:Dc):Int:=if 8<d.2.length then 7 else Ad [] d.2 0
theorem HQ {fs:List Fd} {i n:Nat} {x:Fd} (h:fs[i]? =some x):Ad (fs.take i) (fs.drop i) n=if eA x.1=false then 4 else if((fs.take i).any λg=>decide (g.1=x.1))=true then 5 else if lQ 0 (words x.2)≠0 then lQ 0 (words x.2)else Ad (fs.take (i+1)) (fs.drop (i+1)) (n+(words x.2).length):=by
 have eK:=(al.1 h).1;rw[eR eK,(al.1 h).2,bX,h];rfl
theorem tn {fs:List Fd} {i n:Nat} (h:fs.length<=i):Ad (fs.take i) (fs.drop i) n=if 500<n then 7 else 0:=by
 rw[iV h];rfl
theorem rU (s:List UInt8) (hs:s.length<=140737488355328) (w0:World):
  Spec Tryz.prog 58 #[.string ⟨s.toArray⟩] w0 (λv w=>v= .bool (eA s)/\w=w0):=by
 refine a8 (args:=[_]) (fn:=Tryz.f58) Tryz.func58 G (n:=28) Tryz.ntmps58 (T.aP (Rg.bg G G (aN (T.aP (Rg.bg G G (aY ?_))))));refine dz (σ:=Nat) (λi=>[(0,.string ⟨s.toArray⟩),(3,.int .i64 (i:Int))]) (λi w=>w=w0/\i<=s.length/\∀k c,k<i->s[k]? =some c->ia c=true) (λi=>s.length-i) 0 a73 ?_ ?_
 ·exact⟨G,bm _,λk c h=>absurd h (fB k)⟩
 ·rintro i w ⟨rfl,hi,eZ⟩;refine aN (T.aP (ab G G (ab G G (rp aA G G (bh (v':= .int .i64 (s.length:Int)) a71 (cy G G G (ad ?_)))))));refine bF G (λc2=>?_) (λc2=>?_)
  ·refine aR (aN (aY (T.aP (ab G G (ab G G (Rg.HG (c:=s.getD i 0) aA G G G hV (by rw[aw];exact tj hV) (cy G G G (ab G G ?_))))))));refine aO (g:=14) G (λagA=>?_) (λagA=>?_)
   ·refine aj G G G G (aj G G G G (aj G G G G (aj G G G G (aU G G G (ad (kJ G (T.aP (Rg.bg G G (aJ ?_)))))))))
    have hx:s.all ia=false:=fm.2 λh=>by
     have h2:=ew.1 h _ (ao (tj (s:=s) (i:=i) hV));simp only[ia,decide_eq_true_eq]at h2;omega
    exact aM rfl rfl ⟨by rw[eA,hx,Bool.and_false],rfl⟩
   ·refine ah G G (ab G G (ah G G (ab G G (ah G G (Rg.HG (c:=s.getD i 0) aA G G G hV (by rw[aw];exact tj hV) (ah G G (fU G G G (az G G G (ad ?_)))))))));refine bF G (λc4=>?_) (λc4=>?_)
    ·refine T.aP (Rg.bg G G (aJ ?_))
     have hx:s.all ia=false:=fm.2 λh=>by
      have h2:=ew.1 h _ (ao (tj (s:=s) (i:=i) hV));simp only[ia,decide_eq_true_eq]at h2;omega
     exact aM rfl rfl ⟨by rw[eA,hx,Bool.and_false],rfl⟩
    ·refine aR (aL (ab G G (bB G G G hV (Rg.bg G G ?_))));refine⟨G,i+1,a73,?_,?_⟩
     ·exact⟨G,by omega,λk c h hc=>by
       rcases cK k i with h2|h2
       ·exact eZ k c h2 hc
       ·obtain rfl:k=i:=by omega
        rw[tj hV]at hc;cases hc;simp only[ia,decide_eq_true_eq];omega⟩
     ·omega
  ·refine cQ (T.aP (ab G G (rp aA G G (bh (v':= .int .i64 (s.length:Int)) a71 (ed G G G (ab G G ?_))))));refine aO (g:=23) G (λpg=>?_) (λpg=>?_)
   ·refine ah G G (ab G G (ah G G (rp aA G G (bh (v':= .int .i64 (s.length:Int)) a71 (ah G G (fQ G G G (aU G G G (Rg.bg G G (aJ ?_)))))))));have ha:s.all ia=true:=Mh λk c hc=>eZ k c (by have:=(al.1 hc).1;omega) hc
    first
    |exact aM rfl rfl ⟨by rw[eA,ha,k5];exact congrArg Value.bool (decide_eq_decide.2 hV),G⟩
    |exact aM rfl rfl ⟨by rw[eA,ha,k5];exact congrArg Value.bool (decide_eq_false hV).symm,G⟩
   ·refine aj G G G G (aj G G G G (aj G G G G (az G G G (Rg.bg G G (aJ ?_)))));have ha:s.all ia=true:=Mh λk c hc=>eZ k c (by have:=(al.1 hc).1;omega) hc
    first
    |exact aM rfl rfl ⟨by rw[eA,ha,k5];exact congrArg Value.bool (decide_eq_decide.2 hV),G⟩
    |exact aM rfl rfl ⟨by rw[eA,ha,k5];exact congrArg Value.bool (decide_eq_false hV).symm,G⟩
theorem Jv {M:aH} {o:Fd} {v0:Value} (w0:World) (hM:Lt M w0) (hv:RT.fd.V M w0 o v0) {nm:List UInt8} {t:Value} {bf:Nat} (g:w0.heap[bf]? =some (.cells #[.string ⟨nm.toArray⟩,t] 153 (0,0))) (AS:M bf):
  Spec Tryz.prog 141 #[v0,.pointer (some ⟨bf,0,none⟩)] w0 (λv w=>v= .bool (decide (o.1=nm))/\Step M w0 M w aE):=by
 refine a8 (args:=[_,_]) (fn:=Tryz.f141) Tryz.func141 G (n:=9) Tryz.ntmps141 ?_;have S:Step M w0 M w0 aE:=aV;refine T.aP ?_;refine Rg.jj (A:=RT.fd) G G hM hv G (λu0 w1 dF s0 _=>?_);have:=ae g;replace AS:=(s0.mem _ this).2 AS;replace g:=s0.aB g;replace hM:=s0.lt hM;have:=S.size;replace S:=S.ax s0;refine Rg.bg G G (T.aP ?_);refine ar (M:=M) (A:=RT.fd) (B:=RT.str) cF G G I9 q0 (KI) G G q0 Ub (by repeat (first|exact bI _ _|refine aX (bJ Ub) ?_)) (λAe kS=>?_);refine bP aA G G G G G kS cf (λv1 qH=>?_);obtain rfl:=ep qH;refine aT (o':=0) cF G G I9 q0 G G (aG aA G G G Ub G (Rg.CS (p:=o.1) (q:=nm) G G G (Rg.bg G G (aJ ?_))));exact aM G G ⟨G,S⟩
theorem F3 {M:aH} {fs:List Fd} {v0:Value} (w0:World) (hM:Lt M w0) (hv:(RT.fd.sl).V M w0 fs v0) {nm:List UInt8} {t:Value} {bf:Nat} (g:w0.heap[bf]? =some (.cells #[.string ⟨nm.toArray⟩,t] 153 (0,0))) (AS:M bf):
  Spec Tryz.prog 184 #[v0,.func (.func 141) #[] #[.pointer (some ⟨bf,0,none⟩)]] w0 (λv w=>(∃k:Int,v= .int .i64 k/\(0<=k↔(fs.any λg=>decide (g.1=nm))=true)/\ -1<=k/\k<=9223372036854775807)/\Step M w0 M w aE):=by
 have zP:=dQ hv;refine a8 (args:=[_,_]) (fn:=Tryz.f184) Tryz.func184 G (n:=19) Tryz.ntmps184 ?_;have S:Step M w0 M w0 aE:=aV;refine T.aP (Rg.bg G G (aN (T.aP (ab G G (bN bE G hv G (ab G G (ad (aY ?_))))))));refine dz (σ:=Nat) (λi=>[(0,v0),(1,.func (.func 141) #[] #[.pointer (some ⟨bf,0,none⟩)]),(6,v0),(7,.int .i64 (fs.length:Int)),(8,.int .i64 (i:Int))]) (λi w=>Lt M w/\Step M w0 M w aE/\(w.heap[bf]? =some (.cells #[.string ⟨nm.toArray⟩,t] 153 (0,0)))/\(RT.fd.sl).V M w fs v0/\i<=fs.length/\∀k o,k<i->fs[k]? =some o->o.1≠nm) (λi=>fs.length-i) 0 a65 ?_ ?_
 ·exact⟨hM,S,g,hv,bm _,λk c h=>absurd h (fB k)⟩
 ·rintro i w ⟨hM,S,g,hv,hi,eZ⟩;refine T.aP (cy G G G (ad (aN ?_)));refine bF G (λc2=>?_) (λc2=>?_)
  ·refine aR (aN (aY (T.aP (ab G G (Rg.bg G G (T.aP (ab G G (ab G G ?_))))))));refine ab G G ?_;refine cD bE j3 G G G hv cf hV (λu4 o FR KJ=>?_);refine cv (A:=RT.fd) cF G j3 q0 G G G KJ cf (λv4 pE=>?_);rw[aw]at FR;refine uk (first:=[]) (captured:=[.pointer (some ⟨bf,0,none⟩)]) G G G afu (Jv _ hM pE g AS) (λr5 w5 hc=>?_);obtain⟨rfl,s5⟩:=hc;have:=ae g;replace AS:=(s5.mem _ this).2 AS;replace g:=s5.aB g;replace hv:=hv.le s5.le;replace hM:=s5.lt hM;have:=S.size;replace S:=S.ax s5;refine ad ?_;refine bF G (λc4=>?_) (λc4=>?_)
   ·refine T.aP (ab G G (Rg.bg G G (aJ ?_)));exact aM rfl rfl ⟨⟨_,rfl,⟨λ_=>nf.2 ⟨o,ao FR,by simpa using Ub⟩,λ_=>by omega⟩,by omega,by omega⟩,S.back⟩
   ·refine aR (aL (bB G G G hV (ab G G (ad ?_))));refine⟨G,i+1,a65,?_,?_⟩
    ·exact⟨hM,S,g,hv,by omega,λk o' h hc=>by
      rcases cK k i with h2|h2
      ·exact eZ k o' h2 hc
      ·obtain rfl:k=i:=by omega
       rw[FR]at hc;cases hc;assumption⟩
    ·omega
  ·refine cQ (T.aP (Rg.bg G G (aJ ?_)))
   exact aM G G ⟨⟨-1,G,⟨λh=>by omega,λh=>by
    obtain⟨o,ho,he⟩:=nf.1 h;obtain⟨k,hk⟩:=bO.1 ho;exact absurd (by simpa using he) (eZ k o (by have:=(al.1 hk).1;omega) hk)⟩,by omega,by omega⟩,S.back⟩
theorem DD {M:aH} {fs:List Fd} {v0:Value} (w0:World) (hM:Lt M w0) (hv:(RT.fd.sl).V M w0 fs v0) {nm:List UInt8} {t:Value} {bf:Nat} (g:w0.heap[bf]? =some (.cells #[.string ⟨nm.toArray⟩,t] 153 (0,0))) (AS:M bf):
  Spec Tryz.prog 140 #[v0,.func (.func 141) #[] #[.pointer (some ⟨bf,0,none⟩)]] w0 (λv w=>v= .bool (fs.any λg=>decide (g.1=nm))/\Step M w0 M w aE):=by
 refine a8 (args:=[_,_]) (fn:=Tryz.f140) Tryz.func140 G (n:=9) Tryz.ntmps140 ?_;have S:Step M w0 M w0 aE:=aV;refine T.aP (Rg.bg G G (T.aP (ab G G (ab G G ?_))));refine aQ G G afC (F3 _ hM hv g AS) (λr1 w1 hc=>?_);obtain⟨⟨k,rfl,hk,_⟩,s1⟩:=hc;have:=ae g;replace AS:=(s1.mem _ this).2 AS;replace g:=s1.aB g;replace hv:=hv.le s1.le;replace hM:=s1.lt hM;have:=S.size;replace S:=S.ax s1;refine ed G G G (Rg.bg G G (aJ ?_));exact aM rfl rfl ⟨congrArg Value.bool (by rw[jF,decide_eq_true_eq];exact hk),S⟩
theorem Mi {M:aH} {d:Dc} {v0:Value} (w0:World) (hM:Lt M w0) (hv:RT.dc.V M w0 d v0) (hl:∀f∈d.2,f.1.length<=900000/\f.2.length<=900000):
  Spec Tryz.prog 93 #[v0] w0 (λv w=>v= .int .i64 (mj d)/\Step M w0 M w aE):=by
 have iF:=hM;refine a8 (args:=[_]) (fn:=Tryz.f93) Tryz.func93 G (n:=49) Tryz.ntmps93 ?_;have S:Step M w0 M w0 aE:=aV;refine T.aP ?_;refine Rg.jj (A:=RT.dc) G G hM hv G (λu0 w1 dF s0 _=>?_);replace hM:=s0.lt hM;have:=S.size;replace S:=S.ax s0;refine Rg.bg G G (aN (T.aP ?_));refine ar (M:=M) (A:=RT.dc) (B:=(RT.fd).sl) bp G G uJ q0 (Jg) G G q0 Ub (by repeat (first|exact bI _ _|refine aX (bJ Ub) ?_)) (λAe kS=>?_);refine bP (M:=M) bE G G G G G Ub (by repeat (first|exact bI _ _|refine aX (bJ Ub) ?_)) (λyB lR=>?_);refine bN bE G lR G (fU G G G (ad ?_));refine bF G (λc1=>?_) (λc1=>?_)
 ·refine T.aP (Rg.bg G G (aJ ?_));exact aM rfl rfl ⟨by rw[mj,if_pos hV],S.back⟩
 ·refine aR (T.aP (Rg.bg G G (aN (T.aP ?_))));refine ar (M:=M) (A:=RT.dc) (B:=(RT.fd).sl) bp G G uJ q0 (Jg) G G q0 Ub (by repeat (first|exact bI _ _|refine aX (bJ Ub) ?_)) (λJw qZ=>?_);refine bP (M:=M) bE G G G G G Ub (by repeat (first|exact bI _ _|refine aX (bJ Ub) ?_)) (λF4 nE=>?_);refine bN bE G nE G (ab G G (ad (aY ?_)));refine dz (σ:=Nat×Nat) (λq=>[(1,u0),(3,.int .i64 (q.2:Int)),(13,F4),(14,.int .i64 (d.2.length:Int)),(15,.int .i64 (q.1:Int))]) (λq w=>∃M',Lt M' w/\Step M w0 M' w aE/\cR RT.dc M' w u0 d/\(RT.fd.sl).V M' w d.2 F4/\mj d=Ad (d.2.take q.1) (d.2.drop q.1) q.2/\q.1<=d.2.length/\q.2<=900001*q.1) (λq=>d.2.length-q.1) (0,0) a65 ?_ ?_
  ·exact⟨M,hM,S,dF,nE,by rw[mj,if_neg hV];rfl,bm _,br _⟩
  ·rintro⟨i,n⟩ w ⟨M1,hM,S,dF,mM,F5,hi,hn⟩;dsimp only at F5 hi hn ⊢;refine T.aP (cy G G G (ad (aN ?_)));refine bF G (λc5=>?_) (λc5=>?_)
   ·refine aR (aN (aY (T.aP (ab G G ?_))));refine cD bE j3 G G G mM cf hV (λu6 x KK kZ=>?_);refine cv (A:=RT.fd) cF G j3 q0 G G G kZ cf (λv6 p9=>?_);rw[aw]at KK;obtain rfl:=kh p9;have kC:=HQ (n:=n) KK;have xf:=hl _ (ao KK);refine ec M1 j3 G (λVw agB apA apB pg Ml=>?_);obtain⟨DE,Mm⟩:∃M',M'=ins M1 Vw:=⟨_,rfl⟩;rw[<-Mm]at Ml;have lS:DE Vw:=by rw[Mm];exact .inl G
    change agB.heap[Vw]? =some (.cells #[.string ⟨#[]⟩,.string ⟨#[]⟩] _ _)at pg;replace dF:=dF.le q0 Ml.le;replace mM:=mM.le Ml.le;replace hM:=Ml.lt hM;have:=S.size;replace S:=S.ax Ml;refine aF G G ?_;refine cM (M:=DE) (vs:=[.string ⟨x.1.toArray⟩,.string ⟨x.2.toArray⟩]) j3 G G (by intro u hu;simp at hu;rcases hu with rfl|rfl<;>rfl) rfl rfl pg lS (λw6 g6 s6=>?_);have:=ae pg;replace lS:=(s6.mem _ this).2 lS;replace dF:=dF.le q0 s6.le;replace mM:=mM.le s6.le;replace hM:=s6.lt hM;have:=S.size;replace S:=S.trans s6 (λk hk h=>by have h:_=_:=h;subst h;first|(exfalso;omega)|(show _<=_;omega)|exact⟨by first|omega|assumption,(S.mem _ hk).1 ((s6.mem _ (ae pg)).1 lS)⟩|exact .inl rfl|exact .inr rfl|exact .inr (.inl rfl)|exact .inr (.inr rfl)|exact .inr (.inr (.inl rfl))|exact rfl);have Tb:=g6;clear pg;have pg:=Tb;clear Tb;refine ad (T.aP (aT (o':=1) cF G G I9 q0 G G (aG aA G G G Ub G ?_)));refine aQ G G afs (Js _ hM xf.2) (λr7 w7 hc=>?_);obtain⟨⟨u7,rfl,hu7⟩,s7⟩:=hc;have:=ae pg;replace lS:=(s7.mem _ this).2 lS;replace pg:=s7.aB pg;replace dF:=dF.le q0 s7.le;replace mM:=mM.le s7.le;replace hM:=s7.lt hM;have:=S.size;replace S:=S.ax s7;refine ab G G (cq G G G (cq G G G (aF G G (Rg.bg G G (aN (aY (T.aP (aT (o':=0) cF G G I9 q0 G G (aG aA G G G Ub G ?_)))))))));refine aQ G G U0 (uN x.1 hV _) (λr8 w8 hc=>?_);obtain⟨rfl,s8_⟩:=hc;have s8:=s8_ DE;have:=ae pg;replace lS:=(s8.mem _ this).2 lS;replace pg:=s8.aB pg;replace dF:=dF.le q0 s8.le;replace mM:=mM.le s8.le;replace hM:=s8.lt hM;have:=S.size;replace S:=S.ax s8
    refine iv rfl rfl (bh (v':= .bool (decide (eA x.1=false))) (by cases eA x.1<;>rfl) (Rg.bg rfl rfl ?_));refine bF G (λc8=>?_) (λc8=>?_)
    ·refine T.aP (Rg.bg G G (aJ ?_));exact aM rfl rfl ⟨by rw[F5,kC,if_pos Ub],S.back⟩
    ·refine T.aP ?_;refine ar (M:=DE) (A:=RT.dc) (B:=(RT.fd).sl) bp G G uJ q0 (Jg) G G q0 Ub (by repeat (first|exact bI _ _|refine aX (bJ Ub) ?_)) (λMn yC=>?_);refine bP (M:=DE) bE G G G G G Ub (by repeat (first|exact bI _ _|refine aX (bJ Ub) ?_)) (λZ3 Mp=>?_);refine ab G G ?_;refine Rg.Qh bE j3 G G G Mp hV (λJy nF=>?_);rw[aw]at nF;refine jd (xs:=[]) (ys:=[.tmp 5]) G G G ?_;refine aQ G G aft (DD _ hM nF pg lS) (λr10 w10 hc=>?_);obtain⟨rfl,rV⟩:=hc;have:=ae pg;replace lS:=(rV.mem _ this).2 lS;replace pg:=rV.aB pg;replace dF:=dF.le q0 rV.le;replace mM:=mM.le rV.le;replace hM:=rV.lt hM;have:=S.size;replace S:=S.ax rV;refine aF rfl rfl (bh (v':= .bool (decide (((d.2.take i).any λg=>decide (g.1=x.1))=true))) (by cases((d.2.take i).any λg=>decide (g.1=x.1))<;>rfl) (ad ?_));refine bF G (λVc=>?_) (λVc=>?_)
     ·refine T.aP (Rg.bg G G (aJ ?_));exact aM rfl rfl ⟨by rw[F5,kC,if_neg Ub,if_pos Ub],S.back⟩
     ·refine T.aP (ab G G (eW G G G (Rg.bg G G ?_)));refine bF G (λDu=>?_) (λDu=>?_)
      ·refine T.aP (ab G G (Rg.bg G G (aJ ?_)));exact aM rfl rfl ⟨by rw[F5,kC,if_neg Ub,if_neg Ub,if_pos Ub];rfl,S.back⟩
      ·refine aR (aL (ab G G ?_));have Z4:lQ 0 (words x.2)=0:=Classical.not_not.1 Du;obtain⟨a,cap,rfl⟩:=hu7 Z4;have Tc:=nD x.2;refine ab G G (Rg.uE Tryz.underlying154 G G (bB G G G hV (Rg.bg G G (aL (bB G G G hV (ab G G (ad ?_)))))));refine⟨G,(i+1,n+(words x.2).length),a65,?_,?_⟩
       ·exact⟨_,hM,S,dF,mM,by rw[F5,kC,if_neg Ub,if_neg Ub,if_neg Du],by dsimp only;omega,by dsimp only;omega⟩
       ·dsimp only;omega
   ·refine cQ (aN (T.aP (ab G G (fU G G G (ad ?_)))));refine bF G (λFt=>?_) (λFt=>?_)
    ·refine T.aP (Rg.bg G G (aJ ?_));exact aM rfl rfl ⟨by rw[F5,tn hV,if_pos hV],S.back⟩
    ·refine aR (T.aP (Rg.bg G G (aJ ?_)));exact aM rfl rfl ⟨by rw[F5,tn hV,if_neg hV],S.back⟩
end Go.K
