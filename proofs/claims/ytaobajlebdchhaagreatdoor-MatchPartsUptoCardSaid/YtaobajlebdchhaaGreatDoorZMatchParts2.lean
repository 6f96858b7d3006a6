/- What the law 'MatchParts' needs of walks and plain Lean, part 2: nothing is assumed beyond the texts that it imports. -/
import Derived.ChangeKeysEq
import Derived.Ground.Names2Prog
import Derived.KernelRfl
import Derived.Laws.IdiomCopy
import Derived.Laws.MakeOwn
import Derived.Laws.StructEq
import Derived.Lib.RuneBytes
import Derived.Lib.SliceRun
import Derived.Maps.OwnSet
import Derived.Shelf.SlGeneric
import Derived.Shelf.Slices.SearchI
import Derived.Shelf.Small.Strs
import Derived.Shelf.Small.Utf8
import Derived.Shelf.Strings.Builder1
import Derived.Shelf.Strings.BuilderRune
import Derived.Shelf.Strings.SlTrimAscii
import Derived.Test.YtaobajlebdchhaaGreatDoorProg
import Derived.Test.YtaobajlebdchhaaGreatDoorZMatchParts1
set_option linter.unusedVariables false
set_option linter.unusedSimpArgs false
theorem ab:type_of% @Go.K.Rg.move:=@Go.K.Rg.move
theorem ad:type_of% @Go.K.Rg.nil:=@Go.K.Rg.nil
theorem ae:type_of% @Go.K.Rg.az:=@Go.K.Rg.az
theorem aj:type_of% @Go.K.Rg.bF:=@Go.K.Rg.bF
theorem ak:type_of% @List.getElem?_eq_some_iff:=@List.getElem?_eq_some_iff
theorem al:type_of% @Go.Proofs.Tryz.underlying3:=@Go.Proofs.Tryz.underlying3
theorem an:type_of% @Go.Proofs.Tryz.underlying36:=@Go.Proofs.Tryz.underlying36
theorem ao:type_of% @List.mem_of_getElem?:=@List.mem_of_getElem?
theorem aq:type_of% @List.getElem?_eq_getElem:=@List.getElem?_eq_getElem
theorem au:type_of% @Go.K.Rg.bh:=@Go.K.Rg.bh
theorem av:type_of% @Int.toNat_natCast:=@Int.toNat_natCast
theorem aw:type_of% @Go.K.Rg.fieldAddr:=@Go.K.Rg.fieldAddr
theorem ax:type_of% @Go.Proofs.Tryz.underlying28:=@Go.Proofs.Tryz.underlying28
theorem ay:type_of% @Go.K.T.region:=@Go.K.T.region
theorem aB:type_of% @Go.K.Rg.aY:=@Go.K.Rg.aY
theorem aC:type_of% @Go.Proofs.Tryz.underlying61:=@Go.Proofs.Tryz.underlying61
theorem aD:type_of% @Go.K.bO.cons:=@Go.K.bO.cons
theorem aE:type_of% @Go.Proofs.Tryz.underlying9:=@Go.Proofs.Tryz.underlying9
theorem aG:type_of% @Option.some.inj:=@Option.some.inj
theorem aI:type_of% @Go.Proofs.Tryz.underlying25:=@Go.Proofs.Tryz.underlying25
theorem aJ:type_of% @Go.K.Rg.assign:=@Go.K.Rg.assign
theorem aK:type_of% @Nat.le_refl:=@Nat.le_refl
theorem aL:type_of% @Go.K.cz.cons:=@Go.K.cz.cons
theorem aM:type_of% @Go.K.T.skip:=@Go.K.T.skip
theorem aN:type_of% @Go.K.Rg.bU:=@Go.K.Rg.bU
theorem aQ:type_of% @Go.K.T.seq:=@Go.K.T.seq
theorem aR:type_of% @Go.K.Rg.bW:=@Go.K.Rg.bW
theorem aS:type_of% @Go.K.T.ret:=@Go.K.T.ret
theorem aV:type_of% @Go.K.Rg.call:=@Go.K.Rg.call
theorem aW:type_of% @Go.K.Le.trans:=@Go.K.Le.trans
theorem aX:type_of% @Go.K.Rg.cB:=@Go.K.Rg.cB
theorem aZ:type_of% @Go.K.Rg.eqv:=@Go.K.Rg.eqv
theorem a7:type_of% @Go.K.Rg.bZ:=@Go.K.Rg.bZ
theorem bm:type_of% @Go.Proofs.Tryz.underlying45:=@Go.Proofs.Tryz.underlying45
theorem bp:type_of% @Go.K.T.block:=@Go.K.T.block
theorem bu:type_of% @Go.K.Rg.nilCheck:=@Go.K.Rg.nilCheck
theorem bz:type_of% @List.append_nil:=@List.append_nil
theorem bA:type_of% @Nat.zero_le:=@Nat.zero_le
theorem bB:type_of% @Go.K.Le.refl:=@Go.K.Le.refl
theorem bC:type_of% @Go.K.Step.le:=@Go.K.Step.le
theorem bE:type_of% @List.mem_cons_self:=@List.mem_cons_self
theorem bH:type_of% @Go.K.T.dE:=@Go.K.T.dE
theorem bI:type_of% @List.length_take:=@List.length_take
theorem bJ:type_of% @Go.Proofs.Tryz.underlying72:=@Go.Proofs.Tryz.underlying72
theorem bK:type_of% @Go.Proofs.Tryz.underlying117:=@Go.Proofs.Tryz.underlying117
theorem bM:type_of% @List.take_of_length_le:=@List.take_of_length_le
theorem bN:type_of% @Go.K.Rg.dr:=@Go.K.Rg.dr
theorem bP:type_of% @Go.Proofs.Tryz.underlying70:=@Go.Proofs.Tryz.underlying70
theorem bQ:type_of% @List.mem_iff_getElem?:=@List.mem_iff_getElem?
theorem bR:type_of% @Go.K.Rg.cU:=@Go.K.Rg.cU
theorem bS:type_of% @Go.Proofs.Tryz.underlying24:=@Go.Proofs.Tryz.underlying24
theorem bT:type_of% @List.length_append:=@List.length_append
theorem bV:type_of% @Go.K.Rg.load:=@Go.K.Rg.load
theorem bX:type_of% @Go.K.Rg.cJ:=@Go.K.Rg.cJ
theorem b4:type_of% @Go.Proofs.Tryz.underlying293:=@Go.Proofs.Tryz.underlying293
theorem b7:type_of% @Go.Proofs.Tryz.underlying323:=@Go.Proofs.Tryz.underlying323
theorem cg:type_of% @List.length_map:=@List.length_map
theorem ch:type_of% @Nat.le_trans:=@Nat.le_trans
theorem cj:type_of% @List.take_add_one:=@List.take_add_one
theorem cn:type_of% @List.mem_cons_of_mem:=@List.mem_cons_of_mem
theorem cp:type_of% @Go.K.Step.aF:=@Go.K.Step.aF
theorem cq:type_of% @Go.K.Rg.cZ:=@Go.K.Rg.cZ
theorem cr:type_of% @Go.Proofs.Tryz.underlying26:=@Go.Proofs.Tryz.underlying26
theorem cu:type_of% @Go.K.Rg.fU:=@Go.K.Rg.fU
theorem cv:type_of% @Go.Proofs.Tryz.underlying188:=@Go.Proofs.Tryz.underlying188
theorem cw:type_of% @Go.Sem.run_bind:=@Go.Sem.run_bind
theorem cx:type_of% @Go.K.Rg.build:=@Go.K.Rg.build
theorem cA:type_of% @Go.K.Rg.dx:=@Go.K.Rg.dx
theorem cC:type_of% @Bool.and_eq_true:=@Bool.and_eq_true
theorem cD:type_of% @Go.K.Rg.idx:=@Go.K.Rg.idx
theorem cF:type_of% @Decidable.not_not:=@Decidable.not_not
theorem cG:type_of% @List.length_eq_zero_iff:=@List.length_eq_zero_iff
theorem cH:type_of% @Go.K.Rg.gv:=@Go.K.Rg.gv
theorem cI:type_of% @Go.K.Rg.append:=@Go.K.Rg.append
theorem cL:type_of% @List.getD_eq_getElem?_getD:=@List.getD_eq_getElem?_getD
theorem cM:type_of% @Go.Result.andThen_ok:=@Go.Result.andThen_ok
theorem cO:type_of% @List.mem_map:=@List.mem_map
theorem cP:type_of% @Go.K.Rg.extract:=@Go.K.Rg.extract
theorem cR:type_of% @List.length_cons:=@List.length_cons
theorem cT:type_of% @Nat.lt_or_ge:=@Nat.lt_or_ge
theorem cV:type_of% @List.mem_singleton:=@List.mem_singleton
theorem cW:type_of% @Go.Proofs.Tryz.underlying153:=@Go.Proofs.Tryz.underlying153
theorem cY:type_of% @Eq.symm:=@Eq.symm
theorem de:type_of% @Go.K.T.exit:=@Go.K.T.exit
theorem dg:type_of% @List.mem_cons:=@List.mem_cons
theorem dm:type_of% @Go.K.Rg.dy:=@Go.K.Rg.dy
theorem dn:type_of% @List.length_drop:=@List.length_drop
theorem dq:type_of% @Go.Proofs.Tryz.underlying5:=@Go.Proofs.Tryz.underlying5
theorem dw:type_of% @Go.Proofs.Tryz.underlying261:=@Go.Proofs.Tryz.underlying261
theorem dz:type_of% @Go.K.T.loop:=@Go.K.T.loop
theorem dD:type_of% @Go.Proofs.Tryz.underlying114:=@Go.Proofs.Tryz.underlying114
theorem dF:type_of% @Bool.true_and:=@Bool.true_and
theorem dG:type_of% @Array.getElem?_setIfInBounds:=@Array.getElem?_setIfInBounds
theorem dH:type_of% @List.mem_append:=@List.mem_append
theorem dO:type_of% @List.getElem?_eq_none:=@List.getElem?_eq_none
theorem dR:type_of% @List.getElem?_take:=@List.getElem?_take
theorem dS:type_of% @Option.toList_some:=@Option.toList_some
theorem dT:type_of% @Go.K.Rg.kc:=@Go.K.Rg.kc
theorem dV:type_of% @Go.Proofs.Tryz.underlying250:=@Go.Proofs.Tryz.underlying250
theorem dW:type_of% @Go.Proofs.Tryz.underlying126:=@Go.Proofs.Tryz.underlying126
theorem eh:type_of% @List.pairwise_map:=@List.pairwise_map
theorem ek:type_of% @Go.Proofs.Tryz.underlying182:=@Go.Proofs.Tryz.underlying182
theorem ep:type_of% @Go.K.Own.nil:=@Go.K.Own.nil
theorem eu:type_of% @Go.K.Rg.alloc:=@Go.K.Rg.alloc
theorem ey:type_of% @Go.Proofs.Tryz.underlying74:=@Go.Proofs.Tryz.underlying74
theorem ez:type_of% @Go.Proofs.Tryz.underlying296:=@Go.Proofs.Tryz.underlying296
theorem eA:type_of% @List.length_pos_iff:=@List.length_pos_iff
theorem eH:type_of% @List.map_append:=@List.map_append
theorem eI:type_of% @List.all_eq_true:=@List.all_eq_true
theorem eL:type_of% @List.take_succ_eq_append_getElem:=@List.take_succ_eq_append_getElem
theorem eM:type_of% @Go.K.Rg.eQ:=@Go.K.Rg.eQ
theorem eS:type_of% @List.length_singleton:=@List.length_singleton
theorem eT:type_of% @Bool.false_and:=@Bool.false_and
theorem eX:type_of% @List.getElem?_map:=@List.getElem?_map
theorem eY:type_of% @List.getElem?_set:=@List.getElem?_set
theorem fe:type_of% @List.drop_eq_getElem_cons:=@List.drop_eq_getElem_cons
theorem fj:type_of% @Go.K.Part.snd:=@Go.K.Part.snd
theorem fp:type_of% @Nat.not_lt_zero:=@Nat.not_lt_zero
theorem fq:type_of% @Go.Proofs.Tryz.underlying249:=@Go.Proofs.Tryz.underlying249
theorem fu:type_of% @Go.Proofs.Tryz.underlying294:=@Go.Proofs.Tryz.underlying294
theorem fx:type_of% @List.map_cons:=@List.map_cons
theorem fA:type_of% @List.length_filter_le:=@List.length_filter_le
theorem fF:type_of% @Nat.lt_trichotomy:=@Nat.lt_trichotomy
theorem fG:type_of% @Go.K.Rg.om:=@Go.K.Rg.om
theorem fH:type_of% @Bool.eq_false_iff:=@Bool.eq_false_iff
theorem fP:type_of% @Option.map_some:=@Option.map_some
theorem fQ:type_of% @Go.K.T.iff:=@Go.K.T.iff
theorem fR:type_of% @Go.K.Rg.px:=@Go.K.Rg.px
theorem fV:type_of% @List.drop_eq_nil_of_le:=@List.drop_eq_nil_of_le
theorem fW:type_of% @Go.Proofs.Tryz.underlying128:=@Go.Proofs.Tryz.underlying128
theorem gj:type_of% @List.mem_map_of_mem:=@List.mem_map_of_mem
theorem gr:type_of% @Go.K.Rg.qj:=@Go.K.Rg.qj
theorem gu:type_of% @List.contains_iff_mem:=@List.contains_iff_mem
theorem gC:type_of% @List.pairwise_cons:=@List.pairwise_cons
theorem gJ:type_of% @Go.Proofs.Tryz.underlying122:=@Go.Proofs.Tryz.underlying122
theorem gV:type_of% @Go.K.ou.nil:=@Go.K.ou.nil
theorem gX:type_of% @Go.K.db.load:=@Go.K.db.load
theorem ix:type_of% @List.nil_append:=@List.nil_append
theorem iz:type_of% @Go.K.T.nM:=@Go.K.T.nM
theorem iE:type_of% @Decidable.byContradiction:=@Decidable.byContradiction
theorem iG:type_of% @List.take_append_drop:=@List.take_append_drop
theorem iH:type_of% @List.take_eq_take_iff:=@List.take_eq_take_iff
theorem iI:type_of% @List.getElem?_drop:=@List.getElem?_drop
theorem iJ:type_of% @List.filter_append:=@List.filter_append
theorem iQ:type_of% @Go.K.Rg.lD:=@Go.K.Rg.lD
theorem iW:type_of% @Go.Proofs.Tryz.underlying180:=@Go.Proofs.Tryz.underlying180
theorem iX:type_of% @Go.Proofs.Tryz.underlying274:=@Go.Proofs.Tryz.underlying274
theorem jd:type_of% @Go.K.Rg.not:=@Go.K.Rg.not
theorem je:type_of% @Go.K.Rg.tq:=@Go.K.Rg.tq
theorem jn:type_of% @List.ext_getElem?:=@List.ext_getElem?
theorem jo:type_of% @List.foldl_append:=@List.foldl_append
theorem jC:type_of% @Go.IntWalk.i64_in:=@Go.IntWalk.i64_in
theorem jD:type_of% @Go.K.Rg.ju:=@Go.K.Rg.ju
theorem jF:type_of% @List.drop_of_length_le:=@List.drop_of_length_le
theorem jG:type_of% @Go.Proofs.Tryz.underlying29:=@Go.Proofs.Tryz.underlying29
theorem jP:type_of% @List.any_eq_true:=@List.any_eq_true
theorem jQ:type_of% @Go.K.Rg.makeFunc:=@Go.K.Rg.makeFunc
theorem kg:type_of% @Go.K.Part.fst:=@Go.K.Part.fst
theorem kh:type_of% @Go.Proofs.Tryz.underlying183:=@Go.Proofs.Tryz.underlying183
theorem ko:type_of% @List.length_nil:=@List.length_nil
theorem kq:type_of% @Bool.eq_iff_iff:=@Bool.eq_iff_iff
theorem kr:type_of% @List.mem_filter:=@List.mem_filter
theorem kB:type_of% @List.mem_append_left:=@List.mem_append_left
theorem kE:type_of% @Go.K.db.field:=@Go.K.db.field
theorem kG:type_of% @Nat.lt_irrefl:=@Nat.lt_irrefl
theorem kH:type_of% @Go.K.Own.close:=@Go.K.Own.close
theorem kI:type_of% @Go.K.bO.nil:=@Go.K.bO.nil
theorem kV:type_of% @Go.K.jw.all:=@Go.K.jw.all
theorem mq:type_of% @Bool.and_true:=@Bool.and_true
theorem mE:type_of% @List.getElem?_toArray:=@List.getElem?_toArray
theorem mF:type_of% @Go.Proofs.Tryz.underlying238:=@Go.Proofs.Tryz.underlying238
theorem mG:type_of% @Go.Proofs.Tryz.underlying301:=@Go.Proofs.Tryz.underlying301
theorem nF:type_of% @Go.Sem.run_pure:=@Go.Sem.run_pure
theorem nG:type_of% @Go.DataW.weights_mem_each:=@Go.DataW.weights_mem_each
theorem nH:type_of% @Go.K.ga.refl:=@Go.K.ga.refl
theorem nI:type_of% @Go.K.Rg.kN:=@Go.K.Rg.kN
theorem oe:type_of% @List.getElem?_append_right:=@List.getElem?_append_right
theorem oh:type_of% @Int.le_refl:=@Int.le_refl
theorem oF:type_of% @Go.Proofs.Tryz.zeroValue9:=@Go.Proofs.Tryz.zeroValue9
theorem oH:type_of% @Nat.zero_add:=@Nat.zero_add
theorem pw:type_of% @List.pairwise_iff_getElem:=@List.pairwise_iff_getElem
theorem pz:type_of% @Go.K.Le.close:=@Go.K.Le.close
theorem qu:type_of% @Go.K.Rg.box:=@Go.K.Rg.box
theorem qO:type_of% @Option.map_none:=@Option.map_none
theorem qP:type_of% @List.foldl_cons:=@List.foldl_cons
theorem qV:type_of% @BitVec.toNat_ofInt:=@BitVec.toNat_ofInt
theorem qW:type_of% @Nat.eq_or_lt_of_le:=@Nat.eq_or_lt_of_le
theorem rO:type_of% @List.filter_cons_of_pos:=@List.filter_cons_of_pos
theorem sh:type_of% @Go.K.sq.none:=@Go.K.sq.none
theorem te:type_of% @Go.K.Rg.lR:=@Go.K.Rg.lR
theorem tf:type_of% @Go.K.wV.nil:=@Go.K.wV.nil
theorem tg:type_of% @Bool.not_eq_true':=@Bool.not_eq_true'
theorem th:type_of% @Go.Proofs.Tryz.underlying205:=@Go.Proofs.Tryz.underlying205
theorem ti:type_of% @Go.K.db.move:=@Go.K.db.move
theorem tj:type_of% @Go.Proofs.Tryz.underlying269:=@Go.Proofs.Tryz.underlying269
theorem tn:type_of% @Go.Proofs.Tryz.underlying267:=@Go.Proofs.Tryz.underlying267
theorem wG:type_of% @Array.getElem?_modify:=@Array.getElem?_modify
theorem wI:type_of% @List.map_toArray:=@List.map_toArray
theorem wJ:type_of% @Go.K.Rg.oJ:=@Go.K.Rg.oJ
theorem wK:type_of% @List.cons_append:=@List.cons_append
theorem wL:type_of% @Go.K.cz.nil:=@Go.K.cz.nil
theorem xS:type_of% @Go.K.Rg.conv:=@Go.K.Rg.conv
theorem xT:type_of% @Go.Proofs.Tryz.underlying32:=@Go.Proofs.Tryz.underlying32
theorem yt:type_of% @Nat.pow_le_pow_right:=@Nat.pow_le_pow_right
theorem yZ:type_of% @Nat.min_eq_left:=@Nat.min_eq_left
theorem y4:type_of% @List.cons.injEq:=@List.cons.injEq
theorem Bn:type_of% @Int.toNat_of_nonneg:=@Int.toNat_of_nonneg
theorem Bo:type_of% @List.getD_cons_zero:=@List.getD_cons_zero
theorem Bp:type_of% @List.getD_cons_succ:=@List.getD_cons_succ
theorem Bs:type_of% @List.map_nil:=@List.map_nil
theorem Bt:type_of% @Go.Proofs.Tryz.underlying0:=@Go.Proofs.Tryz.underlying0
theorem Bu:type_of% @Go.Proofs.Tryz.sizeOf9:=@Go.Proofs.Tryz.sizeOf9
theorem Bv:type_of% @Go.Proofs.Tryz.underlying4:=@Go.Proofs.Tryz.underlying4
theorem Bw:type_of% @Go.K.T.lT:=@Go.K.T.lT
namespace Go.K
abbrev Po:=Int×List Int
abbrev Bl:=Int×Int×Int×Int
abbrev Li:=List UInt8×List Bl×Int
abbrev RT.po:RT Po:=RT.pair (RT.int .i64) ((RT.int .i64).sl)
abbrev RT.bl:RT Bl:=RT.pair (RT.int .i64) (RT.pair (RT.int .i64) (RT.pair (RT.int .i64) (RT.int .i64)))
abbrev RT.li:RT Li:=RT.pair (RT.u8.sl) (RT.pair ((RT.bl).sl) (RT.int .i64))
theorem RA:Part RT.po (RT.int .i64) (λp=>p.1) 0:=kg _ _
theorem Ws:Part RT.po ((RT.int .i64).sl) (λp=>p.2) 1:=fj _ _
theorem bl0:Part RT.bl (RT.int .i64) (λb=>b.1) 0:=kg _ _
theorem bl1:Part RT.bl (RT.int .i64) (λb=>b.2.1) 1:=(fj _ _).trans (kg _ _)
theorem bl2:Part RT.bl (RT.int .i64) (λb=>b.2.2.1) 2:=(fj _ _).trans ((fj _ _).trans (kg _ _))
theorem bl3:Part RT.bl (RT.int .i64) (λb=>b.2.2.2) 3:=(fj _ _).trans ((fj _ _).trans (fj _ _))
theorem li0:Part RT.li (RT.u8.sl) (λx=>x.1) 0:=kg _ _
theorem li1:Part RT.li ((RT.bl).sl) (λx=>x.2.1) 1:=(fj _ _).trans (kg _ _)
def No (n:Nat) (k:Int):Bool:=decide (0<=k/\k<n)
def Ez (bs:List Bl) (k:Int):Int:=if No bs.length k then(bs.getD k.toNat (0,0,0,0)).2.2.1 else-1
def eB:Int->List Po->List UInt8
 |_,[]=>[]
 |last,(d,ps)::l=>put (d-last-1).toNat++eV ps++eB d l
def dd:Int->List Po->Int
 |last,[]=>last
 |_,(d,_)::l=>dd d l
def jI (l:List Po):Int:=(l.map λp=>(p.2.length:Int)).sum
theorem uK (l l':List Po) (last:Int):eB last (l++l')=eB last l++eB (dd last l) l':=by
 induction l generalizing last with
 |nil=>rfl
 |cons p l ih=>obtain⟨d,ps⟩:=p;simp[eB,dd,ih]
theorem BA (l l':List Po) (last:Int):dd last (l++l')=dd (dd last l) l':=by
 induction l generalizing last with
 |nil=>rfl
 |cons p l ih=>obtain⟨d,ps⟩:=p;simp[dd,ih]
theorem uL (l l':List Po):jI (l++l')=jI l+jI l':=by simp[jI]
def uM (l:List Po) (k:Nat):Bl:=((eB (-1) (l.take (8*k))).length,dd (-1) (l.take (8*k)),dd (-1) (l.take (8*k+8)),((l.drop (8*k)).take 8).length)
def qA (l:List Po) (m:Nat):List Bl:=(List.range m).map (uM l)
def lJ (l:List Po):Li:=(eB (-1) l,qA l ((l.length+7)/8),jI l)
def pH (l:List Int):Bool:=gw (-1) l&&l.all (λn=>decide (n<2147483648))
def eJ:Int->List Po->Bool
 |_,[]=>true
 |last,(d,ps)::l=>decide (last<d)&&decide (d<2147483648)&& !ps.isEmpty&&pH ps&&eJ d l
theorem ri:∀{l:List Po} {i:Nat} {last d:Int} {ps:List Int},eJ last l=true->l[i]? =some (d,ps)->
  dd last (l.take i)<d/\d<2147483648/\ps≠[]/\pH ps=true/\dd last (l.take (i+1))=d/\last<=dd last (l.take i)
 |[],i,_,_,_,_,h=>by simp at h
 |(d0,p0)::l,0,last,d,ps,hm,h=>by
  simp only[List.getElem?_cons_zero,Option.some.injEq,Prod.mk.injEq]at h;obtain⟨rfl,rfl⟩:=h;simp only[eJ,cC,decide_eq_true_eq]at hm;obtain⟨⟨⟨⟨h1,h2⟩,h3⟩,h4⟩,h5⟩:=hm;refine⟨h1,h2,?_,h4,by simp[dd],by simp[dd]⟩;rintro rfl;simp at h3
 |(d0,p0)::l,i+1,last,d,ps,hm,h=>by
  simp only[eJ,cC,decide_eq_true_eq]at hm;obtain⟨⟨⟨⟨h1,h2⟩,h3⟩,h4⟩,h5⟩:=hm;obtain⟨a1,a2,a3,a4,a5,a6⟩:=ri (i:=i) h5 a84;refine ⟨by simpa[dd]using a1,a2,a3,a4,by simpa[dd]using a5,?_⟩;simp only[List.take_succ_cons,dd];omega
theorem zu {l:List Po} {i:Nat} {d:Int} {ps:List Int} (last:Int) (h:l[i]? =some (d,ps)):
  eB last (l.take (i+1))=eB last (l.take i)++put (d-dd last (l.take i)-1).toNat++eV ps:=by
 obtain⟨h1,h2⟩:=ak.1 h;rw[eL h1,h2,uK];simp[eB]
theorem rn {l:List Po} {i:Nat} (last:Int):eB last l=eB last (l.take i)++eB (dd last (l.take i)) (l.drop i):=by
 conv=>lhs;rw[<-iG i l]
 exact uK _ _ _
theorem pI {l:List Int}:pH l=true↔gw (-1) l=true/\∀x∈l,x<2147483648:=by
 simp[pH]
def sO (b:List UInt8) (at_ ahead:Int):Po×Int×Int:=
 if(get b at_).2.2≠0 then((0,[]),0,(get b at_).2.2)
 else((IntKind.i64.wrap (IntKind.i64.wrap (ahead+1)+(get b at_).1),(gY b (get b at_).2.1).2.1),(gY b (get b at_).2.1).2.2,(gY b (get b at_).2.1).1)
theorem Np {l:List Po} {i:Nat} {d:Int} {ps:List Int} (hm:eJ (-1) l=true) (h:l[i]? =some (d,ps)) (hl:ps.length<=1099511627776):
  sO (eB (-1) l) (((eB (-1) (l.take i)).length:Nat):Int) (dd (-1) (l.take i))=((d,ps),(((eB (-1) (l.take (i+1))).length:Nat):Int),0):=by
 obtain⟨h1,h2,h3,h4,h5,h6⟩:=ri hm h;obtain⟨h7,h8⟩:=pI.1 h4;have e1:=rn (l:=l) (i:=i+1) (-1);have e2:=zu (-1) h;generalize hla:dd (-1) (l.take i)=last at h1 h6 e2 ⊢;generalize Kv:eB (-1) (l.take i)=pre at e2 ⊢;generalize eB (dd (-1) (l.take (i+1))) (l.drop (i+1))=post at e1;rw[e2]at e1 ⊢;have g1:=Db pre (eV ps++post) (n:=(d-last-1).toNat) hV;have g2:=Bz (pre++put (d-last-1).toNat) post h7 (λx hx=>by have:=h8 x hx;omega) hV;rw[show pre++put (d-last-1).toNat++(eV ps++post)=eB (-1) l from by rw[e1];simp]at g1;rw[<-e1]at g2;unfold sO;rw[g1];simp only[ne_eq,not_true_eq_false,if_false];have yN:((pre.length+(put (d-last-1).toNat).length:Nat):Int)=((pre++put (d-last-1).toNat).length:Int):=by simp
 rw[yN,g2];refine Prod.ext (Prod.ext ?_ G) (Prod.ext ?_ G)
 ·simp only;rw[jC (last+1) hV,jC _ hV];omega
 ·simp;omega
theorem rp {l:List Int} {k:Nat} {x:Int} (p:Int->Bool) (h:l[k]? =some x):(l.drop k).all p=(p x&&(l.drop (k+1)).all p):=by
 obtain⟨h1,h2⟩:=ak.1 h;rw[fe h1,h2,List.all_cons]
theorem mU {l:List Po} {k:Nat} {d:Int} {ps:List Int} (h:l[k]? =some (d,ps)) (last:Int):
  eJ last (l.drop k)=(decide (last<d)&&decide (d<2147483648)&& !ps.isEmpty&&pH ps&&eJ d (l.drop (k+1))):=by
 obtain⟨h1,h2⟩:=ak.1 h;rw[fe h1,h2,eJ]
theorem zw {l:List Po} {i:Nat} {d:Int} {ps:List Int} (h:l[i]? =some (d,ps)):jI (l.take (i+1))=jI (l.take i)+ps.length:=by
 obtain⟨h1,h2⟩:=ak.1 h;rw[eL h1,h2,uL];simp[jI]
theorem pJ (l:List Po):0<=jI l:=by
 induction l with
 |nil=>simp[jI]
 |cons p l ih=>simp only[jI,fx,List.sum_cons]at ih ⊢;omega
theorem EA (l:List Po) (i:Nat):0<=jI (l.take i)/\jI (l.take i)<=jI l:=by
 refine ⟨pJ _,?_⟩
 conv=>rhs;rw[<-iG i l,uL]
 have:=pJ (l.drop i);omega
theorem ov (l:List Po) (i:Nat):(eB (-1) (l.take i)).length<=(eB (-1) l).length:=by
 rw[rn (l:=l) (i:=i) (-1)];simp
theorem KF (l:List Po) (k:Nat):qA l (k+1)=qA l k++[uM l k]:=by simp[qA,List.range_succ]
theorem k9:∀(l:List Po) (last:Int),eJ last l=true->last<2147483648->∀n:Nat,last<=dd last (l.take n)/\dd last (l.take n)<2147483648
 |[],last,_,h,n=>by simp[dd];exact h
 |(d,ps)::l,last,hm,h,0=>by simp[dd];exact h
 |(d,ps)::l,last,hm,h,n+1=>by
  simp only[eJ,cC,decide_eq_true_eq]at hm;obtain⟨⟨⟨⟨h1,h2⟩,h3⟩,h4⟩,h5⟩:=hm;have:=k9 l d h5 h2 n;simp only[List.take_succ_cons,dd];omega
theorem agL {M:aP} {w:World} {a b c d:Int} (ha: -9223372036854775808<=a/\a<=9223372036854775807) (hb: -9223372036854775808<=b/\b<=9223372036854775807) (hc: -9223372036854775808<=c/\c<=9223372036854775807) (hd: -9223372036854775808<=d/\d<=9223372036854775807):
  RT.bl.V M w (a,b,c,d) (.agg [.int .i64 a,.int .i64 b,.int .i64 c,.int .i64 d].toArray):=
 ⟨_,⟨[.int .i64 a],[.int .i64 b,.int .i64 c,.int .i64 d],rfl,⟨rfl,ha⟩,[.int .i64 b],[.int .i64 c,.int .i64 d],rfl,⟨rfl,hb⟩,[.int .i64 c],[.int .i64 d],rfl,⟨rfl,hc⟩,⟨rfl,hd⟩⟩,rfl⟩
theorem aaM {M:aP} {w:World} {bx:Nat} {b:List UInt8} {ks:List Bl} {xd:Int} {vb vk:Value} {e:TypeId} {fr:Nat×Nat} (hx:w.heap[bx]? =some (.cells #[vb,vk,.int .i64 xd] e fr)) (hm: ¬M bx) (hb:(RT.u8.sl).V M w b vb) (hk:((RT.bl).sl).V M w ks vk) (ht: -9223372036854775808<=xd/\xd<=9223372036854775807):
  dp RT.li M w (.pointer (some ⟨bx,0,none⟩)) (b,ks,xd):=
 ⟨bx,0,[vb,vk,.int .i64 xd],rfl,hm,⟨[vb],[vk,.int .i64 xd],rfl,mT hb rfl rfl,[vk],[.int .i64 xd],rfl,mT hk rfl rfl,⟨rfl,ht⟩⟩,λj v hj=>jR hx a95⟩
theorem Nq {l:List Po} {i:Nat} (h8:i%8=0) (hi:i<l.length):qA l ((i+7)/8)++[(((eB (-1) (l.take i)).length:Int),dd (-1) (l.take i),dd (-1) (l.take (min (i+8) l.length)),(((l.drop i).take 8).length:Int))]=qA l ((min (i+8) l.length+7)/8):=by
 rw[show(min (i+8) l.length+7)/8=(i+7)/8+1 from by omega,KF];have e:8*((i+7)/8)=i:=by omega
 have e2:l.take (i+8)=l.take (min (i+8) l.length):=by rw[iH];omega
 simp only[uM,e,e2]
theorem rq:∀(l:List Po) (last:Int) (n m:Nat),eJ last l=true->last<2147483648->n<=m->dd last (l.take n)<=dd last (l.take m)
 |[],last,n,m,_,_,_=>by simp
 |(d,ps)::l,last,0,m,hm,h,_=>by
  have:=(k9 ((d,ps)::l) last hm h m).1;simpa[dd]using this
 |(d,ps)::l,last,n+1,0,_,_,h=>by omega
 |(d,ps)::l,last,n+1,m+1,hm,h,hnm=>by
  simp only[eJ,cC,decide_eq_true_eq]at hm;obtain⟨⟨⟨⟨h1,h2⟩,h3⟩,h4⟩,h5⟩:=hm;simpa[dd]using rq l d n m h5 h2 (by omega)
theorem EB {g:List Po} {k:Nat} (hk:k<(g.length+7)/8):Ez (lJ g).2.1 (k:Int)=dd (-1) (g.take (8*k+8)):=by
 have hl:(lJ g).2.1.length=(g.length+7)/8:=by simp[lJ,qA]
 have hb:(lJ g).2.1[k]? =some (uM g k):=by simp only[lJ,qA,eX];rw[List.getElem?_range hk];rfl
 unfold Ez No;rw[if_pos (by rw[hl];simp;omega),av,cL,hb];rfl
section
variable {P:Program} {r:Option Nat} {n:Nat} {L:Sl} {ds:List Deferred} {w:World} {K:Kt} {ops:Array Oper} {rest:List Oper} {d:Nat} {x y:Operand} {ty:TypeId} {pos:String} {af:Array Edge}
theorem Rg.Nr {t t' e:TypeId} {p:Option Addr} (ht:P.underlying t=some (.pointer e)) (hx:ev L x=some (.pointer p)) (hy:ev L y=some (.pointer none)) (hd:Nat.blt d n=true)
  (k:Rg P r n ops rest ((d,.bool (decide (p=none)))::L) ds w K):
  Rg P r n ops ({dst:=some d,op:= .binOp .eql t x y t',type:=ty,pos,after:=af,guard:=none}::rest) L ds w K:=
 .op a07 rfl rfl hd _ w (λρ h=>by
  have hpe:P.underlying t=some (.pointer (P.pointee t)):=by simp[Program.pointee,ht]
  have he:=run_equal_pointer_nil (P:=P) w t p hpe;simp only[execOp];rw[h x _ hx,h y _ hy]
  cases p<;>simp[eqGuard,binOp,run_underlying ht,he]) k
end
def idx:List Po->Int->Nat
 |[],_=>0
 |p::l,to=>if p.1<to then idx l to+1 else 0
theorem Nt:∀(l:List Po) (to:Int),idx l to<=l.length
 |[],_=>aK _
 |p::l,to=>by
  have:=Nt l to;simp only[idx,cR];split<;>omega
theorem zx:∀{l:List Po} {to:Int} {j:Nat} {p:Po},j<idx l to->l[j]? =some p->p.1<to
 |[],_,_,_,h,_=>by simp[idx]at h
 |q::l,to,j,p,h,hp=>by
  simp only[idx]at h
  split at h
  ·cases j with
   |zero=>simp at hp;subst hp;assumption
   |succ j=>exact zx (l:=l) (j:=j) hV (by simpa using hp)
  ·omega
theorem zy:∀{l:List Po} {to:Int} {p:Po},l[idx l to]? =some p->to<=p.1
 |[],_,_,h=>by simp[idx]at h
 |q::l,to,p,h=>by
  simp only[idx]at h
  split at h
  ·exact zy a84
  ·simp at h;subst h;omega
theorem Dd:∀{l:List Po} {to:Int} {e:Nat} {p:Po},l[e]? =some p->to<=p.1->idx l to<=e
 |[],_,_,_,h,_=>by simp at h
 |q::l,to,e,p,h,hp=>by
  simp only[idx]
  split
  ·cases e with
   |zero=>simp at h;subst h;omega
   |succ e=>have:=Dd (l:=l) (e:=e) a84 hp;omega
  ·omega
theorem idx_eq {l:List Po} {to:Int} {i:Nat} (h1:∀j,j<i->∀p,l[j]? =some p->p.1<to) (h2:∀p,l[i]? =some p->to<=p.1) (h3:i<=l.length):idx l to=i:=by
 rcases fF (idx l to) i with h|h|h
 ·have hx:l[idx l to]? =some l[idx l to]:=aq hV;have:=zy hx;have:=h1 _ h _ hx;omega
 ·exact h
 ·have:=Nt l to;have hx:l[i]? =some l[i]:=aq hV;have:=zx h hx;have:=h2 _ hx;omega
def eR (l:List Po) (i:Int):Int:=if i<0 then-1 else match l[i.toNat]? with|some p=>p.1|none=>2147483648
def gy (l:List Po) (i:Int):List Int:=if i<0 then[]else match l[i.toNat]? with|some p=>p.2|none=>[]
def lV (l:List Po) (i:Int):List Po:=if i<0 then[]else(l.drop i.toNat).take (8-i.toNat%8)
def tG (l:List Po) (i to:Int):Int:=if to<=eR l i then i else idx l to
theorem mc {l:List Po} {i:Nat} {d:Int} {ps:List Int} (hm:eJ (-1) l=true) (h:l[i]? =some (d,ps)):0<=d/\d<2147483648:=by
 obtain⟨f1,f2,f3,f4,f5,f6⟩:=ri hm h;omega
theorem jU {l:List Po} {i:Nat} {d:Int} {ps:List Int} (h:l[i]? =some (d,ps)):eR l (i:Int)=d:=by
 unfold eR;rw[if_neg hV,av,h]
theorem KG {l:List Po} {i:Int} (h:i<0):eR l i= -1:=by unfold eR;rw[if_pos h]
theorem rS {l:List Po} {i:Int} (h:(l.length:Int)<=i):eR l i=2147483648:=by
 unfold eR;rw[if_neg hV,dO hV]
theorem fa (l:List Po) (i:Int):(i<0/\eR l i= -1/\gy l i=[])\/(∃j:Nat,∃d ps,i=j/\l[j]? =some (d,ps)/\eR l i=d/\gy l i=ps)\/((l.length:Int)<=i/\eR l i=2147483648/\gy l i=[]):=by
 by_cases h0:i<0
 ·exact .inl ⟨h0,KG h0,by unfold gy;rw[if_pos h0]⟩
 ·by_cases h1:(l.length:Int)<=i
  ·exact .inr (.inr ⟨h1,rS h1,by unfold gy;rw[if_neg h0,dO hV]⟩)
  ·obtain⟨j,rfl⟩:∃j:Nat,i=j:=⟨i.toNat,by omega⟩;obtain⟨⟨d,ps⟩,hx⟩:∃x,l[j]? =some x:=⟨_,aq hV⟩;exact .inr (.inl ⟨j,d,ps,G,hx,jU hx,by unfold gy;rw[if_neg h0,av,hx]⟩)
theorem xe {l:List Po} (hm:eJ (-1) l=true) (i:Int): -1<=eR l i/\eR l i<=2147483648:=by
 rcases fa l i with⟨_,h,_⟩|⟨j,d,ps,rfl,hx,h,_⟩|⟨_,h,_⟩
 ·omega
 ·have:=mc hm hx;omega
 ·omega
theorem EC {l:List Po} (hm:eJ (-1) l=true) {i:Int}:(0<=eR l i/\eR l i<2147483648)↔0<=i/\i<l.length:=by
 rcases fa l i with⟨h0,h,_⟩|⟨j,d,ps,rfl,hx,h,_⟩|⟨h0,h,_⟩
 ·omega
 ·have:=mc hm hx;have:=(ak.1 hx).1;omega
 ·omega
theorem Cc {g:List Po} {i:Nat} {d:Int} {ps:List Int} (h:g[i]? =some (d,ps)) (last:Int):dd last (g.take (i+1))=d:=by
 obtain⟨h1,h2⟩:=ak.1 h;rw[eL h1,h2,BA];rfl
theorem De {l:List Po} (hm:eJ (-1) l=true) {t s:Nat} {p:Po} (hp:l[t]? =some p) (Nf:t<s):p.1<=dd (-1) (l.take s):=by
 obtain⟨d,ps⟩:=p;rw[<-Cc hp (-1)];exact rq l (-1) (t+1) s hm q0 Nf
theorem nU {l:List Po} (hm:eJ (-1) l=true) {t s:Nat} {p q:Po} (hp:l[t]? =some p) (hq:l[s]? =some q) (Nf:t<s):p.1<q.1:=by
 obtain⟨e,qs⟩:=q;have h1:=De hm hp Nf;have h2:=(ri hm hq).1;omega
theorem Cd {l lf:List Po} (hm:eJ (-1) l=true) {s k:Nat} {to:Int} (h1:8*k<=s) (h2:s<8*k+8) (hs:s<l.length) (ZX:dd (-1) (l.take s)<to) (hhi:to<=dd (-1) (l.take (8*k+8)))
  (Wt:lf=(l.drop s).take (8*k+8-s)):idx l to=s+idx lf to/\idx lf to<lf.length/\idx l to<l.length/\idx l to/8=k/\lf.drop (idx lf to)=lV l (idx l to:Nat):=by
 have ZY:s<=idx l to:=by
  rcases cT (idx l to) s with h|h
  ·have hx:l[idx l to]? =some l[idx l to]:=aq hV;have:=zy hx;have:=De hm hx h;omega
  ·exact h
 obtain⟨⟨d,ps⟩,he⟩:∃x,l[min (8*k+8) l.length-1]? =some x:=⟨_,aq hV⟩
 have hde:dd (-1) (l.take (8*k+8))=d:=by
  rw[<-Cc he (-1),show l.take (8*k+8)=l.take (min (8*k+8) l.length-1+1)from by rw[iH];omega]
 have xX:=Dd he (to:=to) an7;have Rz:lf.length=min (8*k+8-s) (l.length-s):=by rw[Wt,bI,dn]
 have jh:∀t,t<lf.length->lf[t]? =l[s+t]? :=λt ht=>by rw[Wt,dR,if_pos hV,iI]
 have hif:idx lf to=idx l to-s:=by
  refine idx_eq (λj hj p hp=>?_) (λp hp=>?_) hV
  ·have qw:=(ak.1 hp).1;rw[jh j qw]at hp;exact zx hV hp
  ·have qw:=(ak.1 hp).1;rw[jh _ qw,show s+(idx l to-s)=idx l to from by omega]at hp;exact zy hp
 refine ⟨by omega,by omega,by omega,by omega,?_⟩;unfold lV;rw[if_neg hV,av,hif,Wt,List.drop_take,List.drop_drop,show s+(idx l to-s)=idx l to from by omega,iH,dn];omega
theorem Sd {l:List Po} (hm:eJ (-1) l=true) {to:Int} {n:Nat} (hn:l.length<=n) (ZX:dd (-1) (l.take n)<to):idx l to=l.length:=by
 refine idx_eq (λj hj p hp=>?_) (λp hp=>?_) (aK _)
 ·have:=De hm hp (s:=n) hV;omega
 ·simp at hp
theorem KH {l:List Po} (hm:eJ (-1) l=true) {i k to:Int} (hi: -1<=i/\i<=l.length) (hk: -1<=k/\k<((l.length+7)/8:Nat)) (UE:i<0->k= -1) (fg:0<=i->i<l.length->k=i/8) (hto:eR l i<to):
  dd (-1) (l.take (8*(max k 0).toNat))<to:=by
 rcases fa l i with⟨h0,h,_⟩|⟨j,d,ps,rfl,hx,h,_⟩|⟨h0,h,_⟩
 ·rw[UE h0];simp only[show(max (-1:Int) 0).toNat=0 from by decide,Nat.mul_zero,List.take_zero,dd];omega
 ·have hj:=(ak.1 hx).1;have Et:=fg hV hV;have h2:=(ri hm hx).1;have h3:=rq l (-1) (8*(max k 0).toNat) j hm q0 hV;omega
 ·have:=(k9 l (-1) hm q0 (8*(max k 0).toNat)).2;omega
def Cu (T:TypeId) (l:List Po) (i:Int) (M:aP) (w:World) (bc:Nat):Prop:=
 ∃(p u:Value) (k fS:Int),M bc/\w.heap[bc]? =some (.cells #[p,.int .i64 k,u,.int .i64 (eR l i),.int .i64 fS] T (0,0))/\dp RT.li M w p (lJ l)/\((RT.po).sl).V M w (lV l i) u/\
  (-1<=i/\i<=l.length)/\(-1<=k/\k<((l.length+7)/8:Nat))/\(i<0->k= -1)/\(0<=i->i<l.length->k=i/8)
theorem Cu.step {T:TypeId} {l:List Po} {i:Int} {M M' N:aP} {w w':World} {bc:Nat} (h:Cu T l i M w bc) (s:Step M w M' w' N) (hn: ¬N bc):Cu T l i M' w' bc:=by
 obtain⟨p,u,k,fS,h1,h2,h3,h4,h5⟩:=h;exact⟨p,u,k,fS,(s.mem bc (ah h2)).2 h1,s.bY h2 hn,h3.le q0 s.le,h4.le s.le,h5⟩
theorem Cu.ED {T:TypeId} {l:List Po} {i:Int} {M:aP} {w:World} {bc:Nat} (h:Cu T l i M w bc): -1<=i/\i<=l.length:=by
 obtain⟨p,u,k,fS,_,_,_,_,h5,_⟩:=h;exact h5
theorem Wu {M:aP} {w:World} {d:Int} {ps:List Int} {v:Value} (h:RT.po.V M w (d,ps) v):∃u,v= .agg #[.int .i64 d,u]/\u.oneCell'=true/\(-9223372036854775808<=d/\d<=9223372036854775807):=by
 obtain⟨vs,⟨va,vb,rfl,⟨rfl,hd⟩,hb⟩,rfl⟩:=h;obtain⟨a,cap,rfl,_⟩:=hb;exact⟨_,G,G,hd⟩
section
variable {P:Program} {r:Option Nat} {n:Nat} {L:Sl} {ds:List Deferred} {w:World}
theorem kO {fn:Func} {Q:Value->World->Prop} {c t b:Nat} {vs:List Value} {fs:TypeDesc} {e:TypeId} {fr:Nat×Nat} {zv:Value} {size bytes:Nat} (hr:fn.results= #[.cell c t]) (hc:lk L c=some (.pointer (some ⟨b,0,none⟩))) (hu:P.underlying t=some fs) (hf:fs.isRow=true) (hi:TI P t zv size bytes) (hl:vs.length=size)
  (hb:w.heap[b]? =some (.cells vs.toArray e fr)) (h:Q (.agg vs.toArray) w):yu P fn Q .ret L [] w:=
 ⟨rfl,λa ha=>⟨_,by
  obtain⟨i,qQ,_,mu,_⟩:=hi.get;have Wq:w.rangeAt b 0 vs:=λj v hj=>jR hb a95
  have:=run_loadVar_mid (P:=P) w b 0 t vs fs Wq hu hf (by simp[qQ,mu,hl]);simp[results,hr,ha _ _ hc,asAddr,this,cw],h⟩⟩
end
section
variable {P:Program} {r:Option Nat} {n:Nat} {L:Sl} {ds:List Deferred} {w:World} {K:Kt} {ops:Array Oper} {rest:List Oper} {d:Nat} {ty:TypeId} {pos:String} {af:Array Edge} {x y i:Operand} {α:Type} {A:RT α}
theorem fX.set {M:aP} {x:α} {vs:List Value} (hx:A.R M w x vs):∀{xs:List α} {C:List Value},fX A M w xs C->∀{j:Nat},j<xs.length->fX A M w (xs.set j x) (C.take (j*A.n)++vs++C.drop (j*A.n+A.n))
 |[],_,_,j,hj=>by simp at hj
 |y::xs,_,⟨us,rest,h1,h2,h3⟩,0,_=>by
  subst h1;have hl:=A.len h2;refine⟨vs,rest,?_,hx,h3⟩;rw[Nat.zero_mul,List.take_zero,ix,oH,<-hl,List.drop_left]
 |y::xs,_,⟨us,rest,h1,h2,h3⟩,j+1,hj=>by
  subst h1;have hl:=A.len h2;refine⟨us,_,?_,h2,fX.set hx h3 (j:=j) a95⟩;have e1:(j+1)*A.n=us.length+j*A.n:=by rw[Nat.add_mul,hl];omega
  rw[e1,List.take_length_add_append,show us.length+j*A.n+A.n=us.length+(j*A.n+A.n)from by omega,List.drop_length_add_append];simp
theorem Sf {l vs:List Value} {o:Nat} (h:o+vs.length<=l.length) (t:Nat):(l.take o++vs++l.drop (o+vs.length))[t]? =if o<=t/\t<o+vs.length then vs[t-o]? else l[t]? :=by
 have h1:(l.take o).length=o:=by rw[bI];omega
 rcases cT t o with h2|h2
 ·rw[if_neg hV,List.append_assoc,List.getElem?_append_left hV,dR,if_pos h2]
 ·rcases cT t (o+vs.length)with h3|h3
  ·rw[if_pos ⟨h2,h3⟩,List.getElem?_append_left (by rw[bT];omega),oe hV,h1]
  ·rw[if_neg hV,oe (by rw[bT];omega),iI,bT,h1];congr 1;omega
theorem Own.setCells {e:TypeId} {M:aP} {base g len cap j:Nat} {xs:List α} {x:α} {vs:List Value} (h:Own A e M w base (.slice (some ⟨g,0,none⟩) len cap) xs) (hj:j<xs.length) (hx:A.R M w x vs):
  ∃w',w'=w.setCells g (j*A.n) vs/\Own A e M w' base (.slice (some ⟨g,0,none⟩) len cap) (xs.set j x)/\Step M w M w' (λk=>k=g):=by
 obtain⟨⟨C,hr,ha⟩,hm⟩:=h;have hmg:=hm g rfl;have hl:=A.len hx;rcases hr.2 with⟨h1,_⟩|⟨g',R0,cur,h1,h2,h3,h4,h5,h6,h7⟩
 ·cases h1
 ·simp only[Value.slice.injEq,Option.some.injEq,Addr.mk.injEq]at h1;obtain⟨⟨rfl,_⟩,rfl,rfl⟩:=h1;obtain⟨Nj,c1,c2,c3,c4⟩:=rh vs w g (j*A.n) cur e (0,0) h3;have hs:=c4 M hmg;have hjn:j*A.n+A.n<=xs.length*A.n:=by have:=Nat.mul_le_mul_right A.n (show j+1<=xs.length from hj);rw[Nat.add_mul]at this;omega
  have kW:xs.length*A.n<=cap*A.n:=Nat.mul_le_mul_right _ h4;have V6:C.length=xs.length*A.n:=hr.1;refine⟨_,rfl,⟨⟨C.take (j*A.n)++vs++C.drop (j*A.n+A.n),⟨?_,.inr ⟨g,cap,Nj,by rw[List.length_set],h2,c1,by rw[List.length_set];exact h4,h5,by rw[c2];exact h6,?_⟩⟩,fX.set (A.le hs.le hx) (ha.le hs.le) hj⟩,λb hb=>hm b hb⟩,hs⟩
  ·rw[bT,bT,bI,dn,V6,List.length_set];omega
  ·rw[List.length_set];refine jn λt=>?_
   have aaO:=Sf (l:=C) (vs:=vs) (o:=j*A.n) (by rw[hl,V6];exact hjn) t;rw[hl]at aaO;rw[aaO,dR];have hct:∀t,t<xs.length*A.n->C[t]? =cur[t]? :=λt ht=>by rw[<-h7,dR,if_pos ht];simp
   split
   ·rename_i ht
    have e0:Nj.toList[t]? =Nj[t]? :=by simp
    rw[e0,c3 t,hl];by_cases h8:j*A.n<=t/\t<j*A.n+A.n
    ·rw[if_pos ⟨h8.1,h8.2,by omega⟩,if_pos h8]
    ·rw[if_neg (λh=>h8 ⟨h.1,h.2.1⟩),if_neg h8,hct t ht]
   ·rename_i ht
    rw[if_neg hV,dO (by rw[V6];omega)]
end
section
variable {P:Program} {r:Option Nat} {n:Nat} {L:Sl} {ds:List Deferred} {w:World} {K:Kt} {ops:Array Oper} {rest:List Oper} {d:Nat} {x y i:Operand} {ty:TypeId} {pos:String} {af:Array Edge}
theorem Rg.Df {t e:TypeId} {κ:IntKind} {j:Int} {b len cap bytes:Nat} {zv:Value} (ht:P.underlying t=some (.slice e)) (hi:TI P e zv 1 bytes) (hx:ev L x=some (.slice (some ⟨b,0,none⟩) len cap)) (G7:ev L i=some (.int κ j)) (hd:Nat.blt d n=true) (hj:0<=j/\j<len)
  (k:Rg P r n ops rest ((d,.pointer (some ⟨b,j.toNat,none⟩))::L) ds w K):
  Rg P r n ops ({dst:=some d,op:= .indexAddr t x i,type:=ty,pos,after:=af,guard:=none}::rest) L ds w K:=
 .op a07 rfl rfl hd _ w (λρ h=>by
  simp only[execOp,h x _ hx,h i _ G7];simp[Instr.indexAt,run_underlying ht,asIntOf,hj,hi.sizeOf,Addr.add_mid]) k
theorem Rg.Wv {t e:TypeId} {κ:IntKind} {j:Int} {b len bytes:Nat} {zv:Value} (ht:P.underlying t=some (.array len e)) (hi:TI P e zv 1 bytes) (hx:ev L x=some (.pointer (some ⟨b,0,none⟩))) (G7:ev L i=some (.int κ j)) (hd:Nat.blt d n=true) (hj:0<=j/\j<len)
  (k:Rg P r n ops rest ((d,.pointer (some ⟨b,j.toNat,none⟩))::L) ds w K):
  Rg P r n ops ({dst:=some d,op:= .indexAddr t x i,type:=ty,pos,after:=af,guard:=none}::rest) L ds w K:=
 .op a07 rfl rfl hd _ w (λρ h=>by
  simp only[execOp,h x _ hx,h i _ G7];simp[Instr.indexAt,run_underlying ht,asIntOf,hj,hi.sizeOf,Addr.add_mid,Instr.sureAddr]) k
theorem Rg.mk0 {t e:TypeId} {len:Nat} {bytes:Nat} {zv:Value} (M:aP) (ht:P.underlying t=some (.slice e)) (hi:TI P e zv 1 bytes) (hz:zv.cells= #[zv]) (hx:ev L x=some (.int .i64 len)) (hy:ev L y=some (.int .i64 len)) (hd:Nat.blt d n=true) (hb:bytes*len<=140737488355328) (hl:len<=9223372036854775807)
  (k:∀b w',w.heap.size<=b->b<w'.heap.size->w'.heap[b]? =some (.cells (List.replicate len zv).toArray e (0,0))->Step M w (ins M b) w' aH->Rg P r n ops rest ((d,.slice (some ⟨b,0,none⟩) len len)::L) ds w' K):
  Rg P r n ops ({dst:=some d,op:= .makeSlice t x y,type:=ty,pos,after:=af,guard:=none}::rest) L ds w K:=by
 obtain⟨inf,i1,i2,i3,i4⟩:=hi.get
 have hm:madeCells zv.cells (len*1)=(List.replicate len zv).toArray:=by
  apply Array.ext
  ·simp[madeCells]
  ·intro j h1 h2;simp[madeCells,hz,Nat.mod_one]
 refine .op a07 G G hd (.slice (some ⟨w.heap.size,0,none⟩) len len) (w.alloc (.cells (List.replicate len zv).toArray e)) (λρ hρ=>?_) (k w.heap.size _ (aK _) (by simp) (dC w _) ((ef M w _).own (aK _) (by simp)))
 have hbc:(inf.bytes:Int)*(len:Int)<=281474976710656:=by
  rw[i4];have h1:((bytes*len:Nat):Int)<=281474976710656:=by omega
  rwa [Int.natCast_mul]at h1
 have hr:=run_make (P:=P) w t e inf zv ht i1 i2 .i64 .i64 (len:Int) (len:Int) hV (oh _) hbc hV;simp only[av,i3,hm]at hr;simp only[execOp,hρ x _ hx,hρ y _ hy];simp[cw,hr]
theorem Rg.aaP {xt:TypeId} {p:Nat} (hx:ev L x=some (.int .u64 p)) (hd:Nat.blt d n=true) (hp:p<2^64) (k:Rg P r n ops rest ((d,.int .u64 ((2^64-1-p:Nat):Int))::L) ds w K):
  Rg P r n ops ({dst:=some d,op:= .unOp .xor xt x,type:=ty,pos,after:=af,guard:=none}::rest) L ds w K:=by
 refine .op a07 G G hd _ w (λρ h=>?_) k
 have e:(2^64-1:Nat)^^^p=2^64-1-p:=by
  apply Nat.eq_of_testBit_eq;intro j;have h1:=Nat.testBit_two_pow_sub_succ (x:=p) (n:=64) hp j;rw[show 2^64-1-p=2^64-(p+1)from by omega,h1,Nat.testBit_xor,Nat.testBit_two_pow_sub_one];by_cases hj:j<64
  ·simp[hj]
  ·have:p.testBit j=false:=Nat.testBit_lt_two_pow (Nat.lt_of_lt_of_le hp (yt q0 hV));simp[hj,this]
 simp only[execOp,h x _ hx]
 have hb:(BitVec.ofInt IntKind.u64.bits IntKind.u64.max^^^BitVec.ofInt IntKind.u64.bits (p:Int)).toNat=2^64-1-p:=by
  rw[BitVec.toNat_xor,qV,qV];have h1:(IntKind.u64.max%((2^IntKind.u64.bits:Nat):Int)).toNat=2^64-1:=by decide
  have h2:((p:Int)%((2^IntKind.u64.bits:Nat):Int)).toNat=p:=by
   change((p:Int)%((18446744073709551616:Nat):Int)).toNat=p;omega
  rw[h1,h2,e]
 have hw:IntKind.u64.wrap ((2^64-1-p:Nat):Int)=((2^64-1-p:Nat):Int):=IntWalk.u64_in _ hV
 have hu:(Op.unary .xor (.int .u64 (p:Int))).run P w= .ok (.int .u64 ((2^64-1-p:Nat):Int)) w:=by
  change(Op.intBits .xor .u64 IntKind.u64.max (p:Int)).run P w=_;unfold Op.intBits;simp only[];rw[hb,hw];simp
 simp[hu]
theorem Rg.agN {xt:TypeId} {κ:IntKind} {p:Int} (hx:ev L x=some (.int κ p)) (hd:Nat.blt d n=true) (k:Rg P r n ops rest ((d,.int κ (κ.wrap (0-p)))::L) ds w K):
  Rg P r n ops ({dst:=some d,op:= .unOp .neg xt x,type:=ty,pos,after:=af,guard:=none}::rest) L ds w K:=by
 refine .op a07 G G hd _ w (λρ h=>?_) k;simp only[execOp,h x _ hx];simp[Op.unary,Op.intArith]
theorem Hk (p q:Nat) (hp:p<2^64) (hq:q<2^64):IntKind.u64.wrap (BitVec.ofInt IntKind.u64.bits (p:Int)&&&BitVec.ofInt IntKind.u64.bits (q:Int)).toNat=((p&&&q:Nat):Int):=by
 have h:∀z:Nat,z<2^64->((z:Int)%((2^IntKind.u64.bits:Nat):Int)).toNat=z:=λz hz=>by
  change((z:Int)%((18446744073709551616:Nat):Int)).toNat=z;omega
 rw[BitVec.toNat_and,qV,qV,h p hp,h q hq];exact IntWalk.u64_in _ (by have:=Nat.and_le_left (n:=p) (m:=q);omega)
theorem aaQ (p q:Nat) (hp:p<2^64) (hq:q<2^64):IntKind.u64.wrap (BitVec.ofInt IntKind.u64.bits (p:Int)^^^BitVec.ofInt IntKind.u64.bits (q:Int)).toNat=((p^^^q:Nat):Int):=by
 have h:∀z:Nat,z<2^64->((z:Int)%((2^IntKind.u64.bits:Nat):Int)).toNat=z:=λz hz=>by
  change((z:Int)%((18446744073709551616:Nat):Int)).toNat=z;omega
 rw[BitVec.toNat_xor,qV,qV,h p hp,h q hq];exact IntWalk.u64_in _ (by have:=Nat.xor_lt_two_pow hp hq;omega)
end
def bit (ws:List Nat) (i:Nat):Bool:=(ws.getD (i/64) 0).testBit (i%64)
def Words (ws:List Nat):Prop:=∀x∈ws,x<2^64
theorem Words.get {ws:List Nat} (h:Words ws) (k:Nat):ws.getD k 0<2^64:=by
 rw[cL]
 cases hx:ws[k]? with
 |none=>simp
 |some x=>exact h x (ao hx)
theorem EE (ws:List Nat) (k j x:Nat) (hk:k<ws.length):(ws.set k x).getD j 0=if j=k then x else ws.getD j 0:=by
 rw[cL,cL,eY];by_cases h:k=j
 ·subst h;simp[hk]
 ·rw[if_neg h,if_neg (λe=>h e.symm)]
theorem Words.set {ws:List Nat} (h:Words ws) {k x:Nat} (hx:x<2^64):Words (ws.set k x):=λy hy=>by
 rcases List.mem_or_eq_of_mem_set hy with h1|h1
 ·exact h y h1
 ·rw[h1];exact hx
theorem Nu {ws:List Nat} (hw:Words ws) {i:Nat} (hi:i/64<ws.length) (j:Nat):bit (ws.set (i/64) (ws.getD (i/64) 0^^^2^(i%64))) j=(bit ws j ^^ decide (j=i)):=by
 unfold bit;rw[EE _ _ _ _ hi];by_cases h:j/64=i/64
 ·rw[if_pos h,Nat.testBit_xor,Nat.testBit_two_pow,h];congr 1;exact decide_eq_decide.2 hV
 ·rw[if_neg h,decide_eq_false (by intro e;rw[e]at h;exact h G),Bool.xor_false]
theorem EF (x i t:Nat):(x/2^i).testBit t=x.testBit (t+i):=Nat.testBit_div_two_pow x t
theorem Nv:∀x:Nat,0<x->∃k m,x=2^k*(2*m+1):=by
 intro x
 induction x using Nat.strongRecOn with
 |_ x ih=>
  intro h;by_cases h2:x%2=1
  ·exact⟨0,x/2,by omega⟩
  ·obtain⟨k,m,e⟩:=ih (x/2) hV hV;refine ⟨k+1,m,?_⟩;rw[Nat.pow_succ,Nat.mul_right_comm,<-e];omega
theorem Nw (m:Nat):(2*m+1).testBit 0=true:=by rw[Nat.testBit_zero];exact decide_eq_true hV
theorem Sg (m:Nat):(2*m).testBit 0=false:=by rw[Nat.testBit_zero];exact decide_eq_false hV
theorem Dg {k m:Nat}:(2^k*(2*m+1)).testBit k=true/\∀t,t<k->(2^k*(2*m+1)).testBit t=false:=by
 have h:=λj=>Nat.testBit_two_pow_mul_add (2*m+1) (b:=0) (i:=k) (Nat.two_pow_pos k) j
 simp only[Nat.add_zero]at h;constructor
 ·rw[h k,if_neg hV,Nat.sub_self,Nw]
 ·intro t ht;rw[h t,if_pos ht,Nat.zero_testBit]
theorem Sh {k m:Nat} (hx:2^k*(2*m+1)<2^64):(2^k*(2*m+1))&&&(2^64-2^k*(2*m+1))=2^k:=by
 have hp:=Nat.two_pow_pos k;have y9:0<2^k*(2*m+1):=Nat.mul_pos hp hV
 have e1:2^64-2^k*(2*m+1)=2^64-((2^k*(2*m)+(2^k-1))+1):=by
  have:2^k*(2*m+1)=2^k*(2*m)+2^k:=by rw[Nat.mul_add,Nat.mul_one]
  omega
 apply Nat.eq_of_testBit_eq;intro j
 have e2:2^k*(2*m)+(2^k-1)<2^64:=by
  have:2^k*(2*m+1)=2^k*(2*m)+2^k:=by rw[Nat.mul_add,Nat.mul_one]
  omega
 rw[Nat.testBit_and,e1,Nat.testBit_two_pow_sub_succ e2,Nat.testBit_two_pow_mul_add _ hV,Nat.testBit_two_pow_sub_one,Nat.testBit_two_pow];have h:=Nat.testBit_two_pow_mul_add (2*m+1) (b:=0) (i:=k) hp j;simp only[Nat.add_zero]at h;rw[h];rcases fF j k with h1|h1|h1
 ·rw[if_pos h1,Nat.zero_testBit,eT,decide_eq_false hV]
 ·subst h1
  have hj:j<64:=by
   rcases cT j 64 with h2|h2
   ·exact h2
   ·have:=yt (n:=2) q0 h2;have:2^j*1<=2^j*(2*m+1):=Nat.mul_le_mul_left _ hV;omega
  rw[if_neg (kG _),if_neg (kG _),Nat.sub_self,Nw,Sg,decide_eq_true hj,decide_eq_true rfl];rfl
 ·rw[if_neg hV,if_neg hV,decide_eq_false (show¬k=j by omega)];obtain⟨t,rfl⟩:∃t,j=k+(t+1):=⟨j-k-1,by omega⟩;rw[show k+(t+1)-k=t+1 from by omega,Nat.testBit_succ,Nat.testBit_succ,show(2*m+1)/2=m from by omega,show 2*m/2=m from by omega]
  cases m.testBit t<;>simp
def Hl:List Nat:=[0,1,56,2,57,49,28,3,61,58,42,50,38,29,17,4,62,47,59,36,45,43,51,22,53,39,33,30,24,18,12,5,63,55,48,27,60,41,37,16,46,35,44,21,52,32,23,11,54,26,40,15,34,20,31,10,25,14,19,9,13,8,7,6]
theorem Ww:∀k,k<64->(2^k*285870213051353865)%2^64/2^58<64/\Hl[(2^k*285870213051353865)%2^64/2^58]? =some k:=by decide+kernel
theorem Dh (n:Nat):IntKind.u64.wrap (n:Int)=((n%2^64:Nat):Int):=by
 have:IntKind.u64.wrap (n:Int)=(n:Int)%18446744073709551616:=by simp[IntKind.wrap,IntKind.bits,IntKind.signed]
 rw[this];omega
theorem Wx (x t:Nat) (ht:t<64):((x:Int)).fdiv (2^min ((t:Int)).toNat IntKind.u64.bits)=((x/2^t:Nat):Int):=by
 rw[av,show min t IntKind.u64.bits=t from yZ (show t<=64 by omega),show(2:Int)^t=((2^t:Nat):Int)from by simp,Int.fdiv_eq_ediv_of_nonneg _ (Int.natCast_nonneg _)];rfl
theorem aaR (t:Nat) (ht:t<64):IntKind.u64.wrap (1*2^min ((t:Int)).toNat IntKind.u64.bits)=((2^t:Nat):Int):=by
 have h:(2:Nat)^t<2^64:=Nat.pow_lt_pow_right q0 ht;rw[av,show min t IntKind.u64.bits=t from yZ (show t<=64 by omega),Int.one_mul,show(2:Int)^t=((2^t:Nat):Int)from by simp,Dh,Nat.mod_eq_of_lt h]
def rr (ws:List Nat):Array Value:=(ws.map fun(x:Nat)=>Value.int .u64 (x:Int)).toArray
theorem jJ {ws:List Nat} {k:Nat} (hk:k<ws.length):(rr ws)[k]? =some (.int .u64 (ws.getD k 0:Nat)):=by
 simp[rr,cL,aq hk]
theorem tH (ws:List Nat) (k x:Nat):(rr ws).setIfInBounds k (.int .u64 (x:Int))=rr (ws.set k x):=by
 simp[rr,List.map_set]
structure jY (Ts Tw:TypeId) (n:Nat) (ws:List Nat) (M:aP) (w:World) (bs bw:Nat):Prop where
 ms:M bs
 mw:M bw
 ne:bs≠bw
 s:w.heap[bs]? =some (.cells #[.int .i64 n,.slice (some ⟨bw,0,none⟩) ws.length ws.length] Ts (0,0))
 w:w.heap[bw]? =some (.cells (rr ws) Tw (0,0))
 len:ws.length=(n+63)/64
 ok:Words ws
 nn:n<=1099511627776
theorem jY.step {Ts Tw:TypeId} {n:Nat} {ws:List Nat} {M M' N:aP} {w w':World} {bs bw:Nat} (h:jY Ts Tw n ws M w bs bw) (s:Step M w M' w' N) (h1: ¬N bs) (h2: ¬N bw):jY Ts Tw n ws M' w' bs bw:=
 ⟨(s.mem bs (ah h.s)).2 h.ms,(s.mem bw (ah h.w)).2 h.mw,h.ne,s.bY h.s h1,s.bY h.w h2,h.len,h.ok,h.nn⟩
theorem jY.put {Ts Tw:TypeId} {n:Nat} {ws yO:List Nat} {M:aP} {w w':World} {bs bw:Nat} (h:jY Ts Tw n ws M w bs bw) (s:Step M w M w' (λb=>b=bw)) (hl:yO.length=ws.length) (hw:w'.heap[bw]? =some (.cells (rr yO) Tw (0,0))) (ok:Words yO):jY Ts Tw n yO M w' bs bw:=
 ⟨h.ms,h.mw,h.ne,by rw[hl];exact s.bY h.s h.ne,hw,by rw[hl];exact h.len,ok,h.nn⟩
def UF (n:Nat) (ws:List Nat) (i:Int):Bool:=decide (0<=i/\i<n)&&bit ws i.toNat
section
variable {P:Program} {r:Option Nat} {n:Nat} {L:Sl} {ds:List Deferred} {w:World} {K:Kt} {ops:Array Oper} {rest:List Oper} {d:Nat} {x:Operand} {ty:TypeId} {pos:String} {af:Array Edge}
end
theorem Dj (ws:List Nat) {k x:Nat} (hk:k<ws.length) (j:Nat):bit (ws.set k x) j=if j/64=k then x.testBit (j%64)else bit ws j:=by
 unfold bit;rw[EE _ _ _ _ hk]
 split<;>rfl
theorem Nx {x t:Nat} (hx:x<2^64) (ht:t<64):(2^64-1-x).testBit t= !x.testBit t:=by
 rw[show 2^64-1-x=2^64-(x+1)from by omega,Nat.testBit_two_pow_sub_succ hx,decide_eq_true ht,dF]
theorem Si {ws:List Nat} {j:Nat} (h:ws.length<=j/64):bit ws j=false:=by
 unfold bit;rw[cL,dO h];simp
theorem EG (k j:Nat):bit (List.replicate k 0) j=false:=by
 unfold bit;rw[cL,List.getElem?_replicate]
 split<;>simp
def UG (ws:List Nat) (p:Nat) (r:Int):Prop:=(∃j:Nat,r=j/\p<=j/\bit ws j=true/\∀t,p<=t->t<j->bit ws t=false)\/(r= -1/\∀t,p<=t->bit ws t=false)
theorem zz {ws:List Nat} {i t:Nat} (h:i%64+t<64):bit ws (i+t)=(ws.getD (i/64) 0/2^(i%64)).testBit t:=by
 unfold bit;rw[EF,show(i+t)/64=i/64 from by omega,show(i+t)%64=t+i%64 from by omega]
theorem EH {x i:Nat} (hx:x<2^64) (hi:i<64) {k m:Nat} (h:x/2^i=2^k*(2*m+1)):i+k<64:=by
 rcases cT (i+k) 64 with h1|h1
 ·exact h1
 ·exfalso;have h2:(x/2^i).testBit k=true:=by rw[h];exact Dg.1
  rw[EF]at h2;have:=Nat.testBit_lt_two_pow (Nat.lt_of_lt_of_le hx (yt (n:=2) q0 (show 64<=k+i by omega)));rw[this]at h2;cases h2
abbrev Fo:=Int×Int
abbrev Tw:=Int×Int×Int
abbrev RT.fo:RT Fo:=RT.pair (RT.int .i64) (RT.int .i64)
theorem Sk:Part RT.fo (RT.int .i64) (λp=>p.1) 0:=kg _ _
theorem Jj:Part RT.fo (RT.int .i64) (λp=>p.2) 1:=fj _ _
def RT.Eg:RT Nat where
 n:=1
 agg:=false
 R:=λ_ _ b vs=>vs=[.pointer (some ⟨b,0,none⟩)]
 len:=by rintro _ _ x vs rfl;rfl
 one:=by rintro _ _ x vs rfl v hv;simp at hv;subst hv;rfl
 le:=λ_ h=>h
theorem oS {M:aP} {w:World} {b:Nat} {v:Value}:RT.Eg.V M w b v↔v= .pointer (some ⟨b,0,none⟩):=⟨fun⟨_,h1,h2⟩=>by cases h1;exact h2,λh=>⟨_,G,h⟩⟩
def mn (l:List Fo) (x:Int):Int:=match l with| []=>x|p::_=>min x p.1
def hit (l:List Fo) (x:Int):Bool:=match l with| []=>false|p::_=>decide (p.1=x)
def eW (l:List Fo) (x:Int):List Fo:=if hit l x then l.tail else l
def lW (l:List Fo) (x s:Int):Int:=if hit l x then IntKind.i64.wrap (s+(l.headD (0,0)).2)else s
def mV (l:List Fo) (x m:Int):Int:=if hit l x then m+1 else m
def iZ (a b:List Fo):Int:=mn b (mn a 2147483648)
def RB (a b:List Fo) (k:Nat):Int:=if k=0 then 2147483648 else if k=1 then mn a 2147483648 else iZ a b
def sw (a b:List Fo) (k:Nat):Int:=if k=0 then 0 else if k=1 then mV a (iZ a b) 0 else mV b (iZ a b) (mV a (iZ a b) 0)
def sx (a b:List Fo) (k:Nat):Int:=if k=0 then 0 else if k=1 then lW a (iZ a b) 0 else lW b (iZ a b) (lW a (iZ a b) 0)
def lK (l:List Fo) (x:Int) (c:Bool):List Fo:=if c then eW l x else l
def qR (l:List Fo):Prop:=∀p∈l,-9223372036854775808<=p.1/\p.1<2147483648
theorem lL {a b lk:List Fo} {k:Nat} (h: [a,b][k]? =some lk):RB a b (k+1)=mn lk (RB a b k):=by
 match k with
 |0=>simp at h;subst h;simp[RB]
 |1=>simp at h;subst h;simp[RB,iZ]
 |k+2=>simp at h
theorem ji {a b lk:List Fo} {k:Nat} (h: [a,b][k]? =some lk):sw a b (k+1)=mV lk (iZ a b) (sw a b k):=by
 match k with
 |0=>simp at h;subst h;simp[sw]
 |1=>simp at h;subst h;simp[sw]
 |k+2=>simp at h
theorem jj {a b lk:List Fo} {k:Nat} (h: [a,b][k]? =some lk):sx a b (k+1)=lW lk (iZ a b) (sx a b k):=by
 match k with
 |0=>simp at h;subst h;simp[sx]
 |1=>simp at h;subst h;simp[sx]
 |k+2=>simp at h
theorem Jk (a b:List Fo) (k:Nat):0<=sw a b k/\sw a b k<=2:=by
 unfold sw mV
 repeat' split
 all_goals omega
theorem Sm {a b:List Fo} (ha:qR a) (hb:qR b): -9223372036854775808<=iZ a b/\iZ a b<=2147483648:=by
 unfold iZ mn
 split
 ·split
  ·omega
  ·have:=ha _ (bE ..);omega
 ·have:=hb _ (bE ..)
  split
  ·omega
  ·have:=ha _ (bE ..);omega
theorem Sn (a b:List Fo) (k:Nat): -9223372036854775808<=sx a b k/\sx a b k<=9223372036854775807:=by
 have hw:=λx=>Ex (x:=x)
 unfold sx lW
 repeat' split
 all_goals first|exact hw _|omega
theorem EI (l:List Fo) (x:Int):(eW l x).length<=l.length:=by
 unfold eW;split
 ·simp
 ·exact aK _
theorem EJ {l:List Fo} {x:Int} (h:hit l x=true):(eW l x).length<l.length:=by
 unfold eW;rw[if_pos h]
 cases l with
 |nil=>simp[hit]at h
 |cons p l=>simp
theorem qR.rest {l:List Fo} (h:qR l) (x:Int):qR (eW l x):=by
 unfold eW;split
 ·exact λp hp=>h p (List.mem_of_mem_tail hp)
 ·exact h
theorem tI {p:Fo} {l:List Fo} {x:Int} (h:p.1=x):hit (p::l) x=true:=decide_eq_true h
theorem Ny {a b:List Fo} (ha:qR a) (hb:qR b) (h:a≠[]\/b≠[]):hit a (iZ a b)=true\/hit b (iZ a b)=true:=by
 cases a with
 |nil=>
  cases b with
  |nil=>simp at h
  |cons q b=>
   have:=hb q (bE ..);exact .inr (tI (show q.1=min 2147483648 q.1 by omega))
 |cons p a=>
  have h1:=ha p (bE ..)
  cases b with
  |nil=>exact .inl (tI (show p.1=min 2147483648 p.1 by omega))
  |cons q b=>
   have h2:=hb q (bE ..);rcases Int.lt_or_le q.1 p.1 with h3|h3
   ·exact .inr (tI (show q.1=min (min 2147483648 p.1) q.1 by omega))
   ·exact .inl (tI (show p.1=min (min 2147483648 p.1) q.1 by omega))
theorem rT {a b:List Fo} (ha:qR a) (hb:qR b) (h:a≠[]\/b≠[]):(eW a (iZ a b)).length+(eW b (iZ a b)).length<a.length+b.length:=by
 have h1:=EI a (iZ a b);have h2:=EI b (iZ a b);rcases Ny ha hb h with h3|h3
 ·have:=EJ h3;omega
 ·have:=EJ h3;omega
def Nz (least:Int):Nat->List Fo->List Fo->List Fo
 |0,_,_=>[]
 |n+1,a,b=>if a=[]/\b=[]then[]else(if least<=sw a b 2 then[(iZ a b,sx a b 2)]else[])++Nz least n (eW a (iZ a b)) (eW b (iZ a b))
theorem EK (least:Int):∀(n m:Nat) (a b:List Fo),qR a->qR b->a.length+b.length<=n->n<=m->Nz least m a b=Nz least n a b
 |0,m,a,b,_,_,h,_=>by
  have ha:a=[]:=cG.1 hV;have hb:b=[]:=cG.1 hV
  cases m with
  |zero=>rfl
  |succ m=>subst ha;subst hb;simp[Nz]
 |n+1,0,a,b,_,_,_,h=>by omega
 |n+1,m+1,a,b,ha,hb,h1,h2=>by
  rw[Nz,Nz]
  split
  ·rfl
  ·rename_i h3
   rw[EK least n m _ _ (ha.rest _) (hb.rest _) (by have:=rT ha hb (by by_cases h:a=[];right;exact λh'=>h3 ⟨h,h'⟩;left;exact h);omega) hV]
def BB (least:Int) (a b:List Fo):List Fo:=Nz least (a.length+b.length) a b
theorem Sq (least:Int):BB least [] []=[]:=rfl
theorem ru {least:Int} {a b:List Fo} (ha:qR a) (hb:qR b) (h:a≠[]\/b≠[]):BB least a b=(if least<=sw a b 2 then[(iZ a b,sx a b 2)]else[])++BB least (eW a (iZ a b)) (eW b (iZ a b)):=by
 have h1:=rT ha hb h;unfold BB;obtain⟨n,hn⟩:∃n,a.length+b.length=n+1:=⟨a.length+b.length-1,by omega⟩;rw[hn,Nz,if_neg (by rintro⟨h2,h3⟩;rcases h with h|h;exact h h2;exact h h3),EK least _ n _ _ (ha.rest _) (hb.rest _) (aK _) hV]
theorem yP:∀(least:Int) (n:Nat) (a b:List Fo),(Nz least n a b).length<=n
 |_,0,_,_=>by simp[Nz]
 |least,n+1,a,b=>by
  rw[Nz]
  split
  ·simp
  ·have:=yP least n (eW a (iZ a b)) (eW b (iZ a b));rw[bT]
   split<;>simp<;>omega
theorem kX {M:aP} {w:World} {a b:Int} (ha: -9223372036854775808<=a/\a<=9223372036854775807) (hb: -9223372036854775808<=b/\b<=9223372036854775807):RT.fo.V M w (a,b) (.agg [.int .i64 a,.int .i64 b].toArray):=
 fM (iF ha) (iF hb) rfl rfl rfl rfl
section
variable {P:Program} {r:Option Nat} {n:Nat} {L:Sl} {ds:List Deferred} {w:World} {K:Kt} {ops:Array Oper} {rest:List Oper} {d:Nat} {x y:Operand} {ty:TypeId} {pos:String} {af:Array Edge}
theorem me {t:TypeId} {k:IntKind} (ht:P.underlying t=some (.int k)) {cs:Array Value} {off:Nat} {v:Value} (hv:cs[off]? =some v):(part t cs off).run P w= .ok v w:=by
 have G6:(isAgg t).run P w= .ok false w:=by
  unfold isAgg;rw[cw,run_underlying ht w];simp
 unfold part;rw[cw,G6];simp[hv]
theorem BC {t:TypeId} {f g:Field} (ht:P.underlying t=some (.struct #[f,g])) (hp:P.stoodInHeld t=false) (hf:P.underlying f.type=some (.int .i64)) (hg:P.underlying g.type=some (.int .i64)) (hn:f.name≠ "_") (Mv:g.name≠ "_") (ho:f.offset=0) (iY:g.offset=1) (a b c e:Int):
  (Op.equal t (.agg #[.int .i64 a,.int .i64 b]) (.agg #[.int .i64 c,.int .i64 e])).run P w= .ok (decide ((a,b)=(c,e))) w:=by
 have Uy:P.fieldsOf t= #[f,g]:=by simp[Program.fieldsOf,ht]
 have hs:=run_equalIn_struct (P:=P) w 9999 t #[.int .i64 a,.int .i64 b] #[.int .i64 c,.int .i64 e] (by rw[Uy];exact ht) hp;have hi:∀(k:Nat) (t':TypeId),P.underlying t'=some (.int .i64)->∀p q:Int,(Op.equalIn (k+1) t' (.int .i64 p) (.int .i64 q)).run P w= .ok (p==q) w:=λk t' h p q=>by simp[Op.equalIn,run_underlying h]
 change(Op.equalIn (9999+1) t _ _).run P w=_;rw[hs,Uy];simp only[Op.eqFields,hn,Mv,ho,iY,ne_eq,not_false_eq_true,if_true,cw];rw[me hf (v:= .int .i64 a) rfl];simp only[cM];rw[me hf (v:= .int .i64 c) rfl];simp only[cM];rw[hi 9998 _ hf];simp only[cM];by_cases h1:a=c
 ·subst h1;simp only[beq_self_eq_true,Bool.not_true,Bool.false_eq_true,if_false,cw];rw[me hg (v:= .int .i64 b) rfl];simp only[cM];rw[me hg (v:= .int .i64 e) rfl];simp only[cM];rw[hi 9998 _ hg];simp only[cM];by_cases h2:b=e
  ·subst h2;simp
  ·simp[h2]
 ·simp[h1]
theorem Rg.aaS {t t':TypeId} {f g:Field} {a b c e:Int} (ht:P.underlying t=some (.struct #[f,g])) (hp:P.stoodInHeld t=false) (hq:P.eqGuardType P.depth t=false) (hf:P.underlying f.type=some (.int .i64)) (hg:P.underlying g.type=some (.int .i64)) (hn:f.name≠ "_") (Mv:g.name≠ "_") (ho:f.offset=0) (iY:g.offset=1)
  (hx:ev L x=some (.agg #[.int .i64 a,.int .i64 b])) (hy:ev L y=some (.agg #[.int .i64 c,.int .i64 e])) (hd:Nat.blt d n=true)
  (k:Rg P r n ops rest ((d,.bool (decide (¬((a,b)=(c,e)))))::L) ds w K):
  Rg P r n ops ({dst:=some d,op:= .binOp .neq t x y t',type:=ty,pos,after:=af,guard:=none}::rest) L ds w K:=
 .op a07 rfl rfl hd _ w (λρ h=>by
  have he:=BC (P:=P) (w:=w) ht hp hf hg hn Mv ho iY a b c e;simp only[execOp];rw[h x _ hx,h y _ hy];rw[cw,cw,run_eqGuard_agg (P:=P) w .neq t x y _ _ hq];simp[binOp,he]) k
end
def dY (l:List Fo) (d:Int):Bool:=l.any λp=>decide (p.1=d)
theorem EL {l:List Fo} {d:Int}:dY l d=true↔∃(t:Nat) (p:Fo),l[t]? =some p/\p.1=d:=by
 unfold dY;rw[jP];constructor
 ·rintro⟨p,hp,h⟩;obtain⟨t,ht⟩:=bQ.1 hp;exact⟨t,p,ht,of_decide_eq_true h⟩
 ·rintro⟨t,p,ht,h⟩;exact⟨p,ao ht,decide_eq_true h⟩
theorem KI {l:List Fo} {k:Nat} {p:Fo} (h:l[k]? =some p) (d:Int):dY (l.take (k+1)) d=(dY (l.take k) d||decide (p.1=d)):=by
 obtain⟨h1,h2⟩:=ak.1 h;unfold dY;rw[eL h1,h2,List.any_append];simp
def pK (a:List Fo) (p:Nat):List Fo:=((List.range p).filter fun(d:Nat)=> !dY a (d:Int)).map fun(d:Nat)=>((d:Int),0)
theorem mA (a:List Fo) (p:Nat):pK a (p+1)=pK a p++if dY a (p:Int)then[]else[((p:Int),0)]:=by
 unfold pK;rw[List.range_succ,iJ,eH];congr 1
 cases h:dY a (p:Int)<;>simp[List.filter,h]
theorem xg {a:List Fo} {p:Nat}:∀(j:Nat),p<=j->(∀t,p<=t->t<j->dY a (t:Int)=true)->pK a j=pK a p
 |j,h1,h2=>by
  rcases cT p j with h|h
  ·obtain⟨c,rfl⟩:∃c,j=c+1:=⟨j-1,by omega⟩;rw[mA,h2 c hV hV,if_pos rfl,bz];exact xg c hV (λt h3 h4=>h2 t h3 hV)
  ·rw[show j=p from by omega]
theorem uN (a:List Fo) (p:Nat):(pK a p).length<=p:=by
 unfold pK;rw[cg];exact ch (fA _ _) (by rw[List.length_range];exact aK _)
end Go.K
namespace Go.K
open Go.RowKit (Below)
open Go.Maps (Keyed)
open Go.ChangeMaps (putKey delKey notKey)
abbrev DU:=DataW Unit
structure aaT (P:Program) (k:TypeId) (R:Value->Option (DU×List MemPlace)) (M:aP) (w:World) (b:Nat) (m:List (Lit×DU)):Prop where
 mut_:M b
 own:w.ownsMap P k R b m.length (.map m)
section
variable {P:Program} {r:Option Nat} {n:Nat} {L:Sl} {ds:List Deferred} {w:World} {K:Kt} {ops:Array Oper} {rest:List Oper} {d:Nat} {x y z:Operand} {ty:TypeId} {pos:String} {af:Array Edge}
variable {kt:TypeId} {R:Value->Option (DU×List MemPlace)} {M:aP} {b:Nat} {m:List (Lit×DU)}
theorem Step.Dk {w w':World} (h:Below w.heap.size w w') (M:aP):Step M w M w' aH:=
 ⟨λh0 b hb=>Nat.lt_of_lt_of_le (h0 b hb) h.size,h.os,h.tape,h.output,h.size,λ_ _=>Iff.rfl,λb hb _=>h.block b hb,λ_ h=>h.elim⟩
end
end Go.K
namespace Go.K
def allM:aP:=λ_=>True
theorem Step.all {M M' N:aP} {w w':World} (s:Step M w M' w' N):Step allM w allM w' N:=⟨λh=>absurd (h w.heap.size trivial) (kG _),s.os,s.tape,s.output,s.size,λ_ _=>Iff.rfl,s.same,λ_ _=>trivial⟩
theorem Step.toAny {M M':aP} {w w':World} (s:Step M w M' w' aH) (M1:aP):Step M1 w M1 w' aH:=s.any M1
theorem fX.int {κ:IntKind} {M M':aP} {w w':World}:∀{xs:List Int} {C:List Value},fX (RT.int κ) M w xs C->fX (RT.int κ) M' w' xs C
 |[],_,h=>h
 |x::xs,C,h=>by
  obtain⟨vs,r,h1,h2,h3⟩:=h;exact⟨vs,r,h1,h2,fX.int h3⟩
theorem Own.Sr {κ:IntKind} {e:TypeId} {M:aP} {w:World} {base:Nat} {v:Value} {xs:List Int} (h:Own (RT.int κ) e M w base v xs) {M':aP} (hm:∀b,v.ownBlock=some b->M' b):Own (RT.int κ) e M' w base v xs:=by
 obtain⟨⟨C,h1,h2⟩,_⟩:=h;exact⟨⟨C,h1,fX.int h2⟩,hm⟩
theorem Own.aaU {κ:IntKind} {e:TypeId} {N:aP} {w w':World} {base:Nat} {v:Value} {xs:List Int} (h:Own (RT.int κ) e allM w base v xs) (s:Step allM w allM w' N) (hn:∀b,v.ownBlock=some b->¬N b):Own (RT.int κ) e allM w' base v xs:=by
 obtain⟨⟨C,h1,h2⟩,_⟩:=h;refine⟨⟨C,⟨h1.1,?_⟩,fX.int h2⟩,λ_ _=>trivial⟩;rcases h1.2 with h3|⟨g,cap,cur,h3,h4,h5,h6,h7,h8⟩
 ·exact .inl h3
 ·exact .inr ⟨g,cap,cur,h3,h4,by rw[s.same g (ah h5) (hn g (by rw[h3];rfl))];exact h5,h6,h7,h8⟩
def sy (v:Value):aP:=λb=>v.ownBlock=some b
theorem Own.lone {κ:IntKind} {e:TypeId} {M:aP} {w:World} {base:Nat} {v:Value} {xs:List Int} (h:Own (RT.int κ) e M w base v xs):Own (RT.int κ) e (sy v) w base v xs:=h.Sr λ_ h=>h
def Dl (at':Nat->Nat) (cont:Nat->Bool):Nat×Nat:=
 if at' 0<0x80 then(at' 0,1)
 else if at' 0/32==6&&cont 1 then
  if(at' 0%32)*64+at' 1%64>=0x80 then((at' 0%32)*64+at' 1%64,2)else(65533,1)
 else if at' 0/16==14&&cont 1&&cont 2 then
  if(at' 0%16)*4096+(at' 1%64)*64+at' 2%64>=0x800&&Utf8.valid ((at' 0%16)*4096+(at' 1%64)*64+at' 2%64:Nat)then((at' 0%16)*4096+(at' 1%64)*64+at' 2%64,3)else(65533,1)
 else if at' 0/8==30&&cont 1&&cont 2&&cont 3 then
  if(at' 0%8)*262144+(at' 1%64)*4096+(at' 2%64)*64+at' 3%64>=0x10000&&Utf8.valid ((at' 0%8)*262144+(at' 1%64)*4096+(at' 2%64)*64+at' 3%64:Nat)then((at' 0%8)*262144+(at' 1%64)*4096+(at' 2%64)*64+at' 3%64,4)else(65533,1)
 else(65533,1)
theorem KJ (s:ByteArray) (i:Nat):Utf8.decode s i=Dl (λk=>(s.get! (i+k)).toNat) (λk=>decide (i+k<s.size)&&(s.get! (i+k)).toNat/64==2):=rfl
def kC (l:List UInt8) (k:Nat):Nat:=(l.getD k 0).toNat
def kx (l:List UInt8) (k:Nat):Bool:=decide (k<l.length)&&kC l k/64==2
def dec (l:List UInt8):Nat×Nat:=Dl (kC l) (kx l)
theorem KK (l:List UInt8) (j:Nat):(⟨l.toArray⟩:ByteArray).get! j=l.getD j 0:=by
 show l.toArray[j]! =_;rw[cL,getElem!_def];simp only[mE]
 cases l[j]? <;>rfl
theorem Hm (l:List UInt8) (pos:Nat):Utf8.decode ⟨l.toArray⟩ pos=dec (l.drop pos):=by
 rw[KJ,dec]
 have h1:(λk=>((⟨l.toArray⟩:ByteArray).get! (pos+k)).toNat)=kC (l.drop pos):=by
  funext k;rw[KK,kC,cL,cL,iI]
 have h2:(λk=>decide (pos+k<(⟨l.toArray⟩:ByteArray).size)&&((⟨l.toArray⟩:ByteArray).get! (pos+k)).toNat/64==2)=kx (l.drop pos):=by
  funext k;have:=congrFun h1 k;rw[this,kx,dn];congr 1;have hs:(⟨l.toArray⟩:ByteArray).size=l.length:=by simp[ByteArray.size]
  rw[hs];exact decide_eq_decide.2 hV
 rw[h1,h2]
theorem zA {l:List UInt8} {k:Nat} (h:kx l k=true):k<l.length:=by
 simp only[kx,cC,decide_eq_true_eq]at h;exact h.1
theorem jV {l:List UInt8} (hl:l≠[]):1<=(dec l).2/\(dec l).2<=l.length:=by
 have h0:0<l.length:=eA.2 hl;unfold dec Dl
 split
 ·exact⟨aK _,h0⟩
 ·split
  ·rename_i h
   simp only[cC]at h;have:=zA h.2
   split<;>(simp only;omega)
  ·split
   ·rename_i h
    simp only[cC]at h;have:=zA h.2
    split<;>(simp only;omega)
   ·split
    ·rename_i h
     simp only[cC]at h;have:=zA h.2
     split<;>(simp only;omega)
    ·exact⟨aK _,h0⟩
theorem pL (l:List UInt8) (k:Nat):kC l k<256:=by unfold kC;exact UInt8.toNat_lt _
theorem rU (l:List UInt8):(dec l).1<=1114111:=by
 unfold dec Dl
 split
 ·simp only;omega
 ·split
  ·have:=pL l 0
   split<;>(simp only;omega)
  ·split
   ·have:=pL l 0
    split<;>(simp only;omega)
   ·split
    ·split
     ·rename_i h
      simp only[cC,Utf8.valid,Bool.or_eq_true,decide_eq_true_eq]at h;simp only;omega
     ·simp only;omega
    ·simp only;omega
def dM (l:List UInt8):List Int:=match l with
 |[]=>[]
 |c::r=>((dec (c::r)).1:Int)::dM ((c::r).drop (dec (c::r)).2)
termination_by l.length
decreasing_by
 have:=(jV (l:=c::r) (by simp)).1;simp only[dn,cR];omega
theorem mB:dM []=[]:=by unfold dM;rfl
theorem lg {l:List UInt8} (h:l≠[]):dM l=((dec l).1:Int)::dM (l.drop (dec l).2):=by
 cases l with
 |nil=>exact absurd rfl h
 |cons c r=>rw[dM]
theorem gZ (l:List UInt8):(dM l).length<=l.length:=by
 induction hn:l.length using Nat.strongRecOn generalizing l with
 |_ n ih=>
  by_cases h:l=[]
  ·subst h;rw[mB];simp
  ·rw[lg h,cR];have hw:=jV h;have:=ih _ (by rw[dn];omega) (l.drop (dec l).2) rfl;rw[dn]at this;omega
section
variable {P:Program} {r:Option Nat} {n:Nat} {L:Sl} {ds:List Deferred} {w:World} {K:Kt} {ops:Array Oper} {rest:List Oper} {d:Nat} {x:Operand} {ty:TypeId} {pos:String} {af:Array Edge}
theorem Rg.NA {t:TypeId} {l:List UInt8} (M:aP) (ht:P.underlying t=some .string) (hx:ev L x=some (.string ⟨l.toArray⟩)) (hd:Nat.blt d n=true)
  (k:∀b w',w.heap.size<=b->b<w'.heap.size->w'.heap[b]? =some (.stringIter ⟨l.toArray⟩ 0)->Step M w (ins M b) w' aH->Rg P r n ops rest ((d,.pointer (some ⟨b,0,none⟩))::L) ds w' K):
  Rg P r n ops ({dst:=some d,op:= .range t x,type:=ty,pos,after:=af,guard:=none}::rest) L ds w K:=by
 refine .op a07 G G hd (.pointer (some ⟨w.heap.size,0,none⟩)) (w.alloc (.stringIter ⟨l.toArray⟩ 0)) (λρ hρ=>?_) (k w.heap.size _ (aK _) (by simp) (dC w _) ((ef M w _).own (aK _) (by simp)));simp only[execOp,hρ x _ hx];simp[Instr.range,cw,run_underlying ht,newObj,Sem.run]
theorem iV (M:aP) {b:Nat} {o:Obj} (hm:M b):Step M w M {w with heap:=w.heap.setIfInBounds b o} (λk=>k=b):=
 ⟨λh b hb=>by simpa using h b hb,rfl,rfl,rfl,by simp,λ_ _=>Iff.rfl,λk _ hn=>by simp[dG,Ne.symm hn],λk hk=>by subst hk;exact hm⟩
theorem rv {b p:Nat} {s:ByteArray} (hb:w.heap[b]? =some (.stringIter s p)):(getObj b).run P w= .ok (.stringIter s p) w:=by simp[getObj,Sem.run,hb]
theorem Rg.Ss {l:List UInt8} {b p:Nat} {M:aP} (hx:ev L x=some (.pointer (some ⟨b,0,none⟩))) (hb:w.heap[b]? =some (.stringIter ⟨l.toArray⟩ p)) (hm:M b) (hd:Nat.blt d n=true)
  (k1:p<l.length->∀w',w'.heap[b]? =some (.stringIter ⟨l.toArray⟩ (p+(dec (l.drop p)).2))->Step M w M w' (λk=>k=b)->Rg P r n ops rest ((d,.tuple #[.bool true,.int .i64 p,.int .i32 ((dec (l.drop p)).1:Nat)])::L) ds w' K)
  (k2: ¬p<l.length->Rg P r n ops rest ((d,.tuple #[.bool false])::L) ds w K):
  Rg P r n ops ({dst:=some d,op:= .next x true,type:=ty,pos,after:=af,guard:=none}::rest) L ds w K:=by
 have hs:(⟨l.toArray⟩:ByteArray).size=l.length:=by simp[ByteArray.size]
 have eU:=ah hb;by_cases h:p<l.length
 ·have key:=k1 h {w with heap:=w.heap.setIfInBounds b (.stringIter ⟨l.toArray⟩ (p+(dec (l.drop p)).2))} (by simp[dG,eU]) (iV M hm);refine .op a07 G G hd _ _ (λρ hρ=>?_) key;simp only[execOp,hρ x _ hx,Instr.next,cw,rv hb,cM];rw[if_pos (by rw[hs];exact h)];simp[Hm,setObj,Sem.run,goInt,hb]
 ·refine .op a07 G G hd _ w (λρ hρ=>?_) (k2 h);simp only[execOp,hρ x _ hx,Instr.next,cw,rv hb,cM];rw[if_neg (by rw[hs];exact h)];simp
theorem Rg.Jl {t:TypeId} {i:Operand} {l:List UInt8} {κ:IntKind} {j:Int} {c:UInt8} (ht:P.underlying t=some .string) (hx:ev L x=some (.string ⟨l.toArray⟩)) (hi:ev L i=some (.int κ j)) (hd:Nat.blt d n=true) (hj:0<=j) (hc:l[j.toNat]? =some c)
  (k:Rg P r n ops rest ((d,.int .u8 (c.toNat:Int))::L) ds w K):
  Rg P r n ops ({dst:=some d,op:= .index t x i,type:=ty,pos,after:=af,guard:=none}::rest) L ds w K:=by
 have eU:=(ak.1 hc).1;have hs:(⟨l.toArray⟩:ByteArray).size=l.length:=by simp[ByteArray.size]
 have hg:(⟨l.toArray⟩:ByteArray)[j.toNat]? =some c:=by
  rw[getElem?_pos _ _ (by rw[hs];exact eU)];congr 1;have:=(ak.1 hc).2;rw[<-this];rfl
 refine .op a07 G G hd _ w (λρ hρ=>?_) k;simp only[execOp,hρ x _ hx,hρ i _ hi,Instr.index,cw,asIntOf,nF,cM,run_underlying ht];simp[hj,hg]
theorem sT (l:List UInt8) (a b:Nat):(⟨l.toArray⟩:ByteArray).extract a b=⟨((l.take b).drop a).toArray⟩:=by
 have:((⟨l.toArray⟩:ByteArray).extract a b).data=((l.take b).drop a).toArray:=by
  rw[ByteArray.data_extract];apply Array.toList_inj.1;rw[Array.toList_extract,List.extract_eq_take_drop,List.drop_take]
 exact congrArg ByteArray.mk this
theorem Rg.St {t:TypeId} {i:Operand} {l:List UInt8} {κ:IntKind} {j:Int} (ht:P.underlying t=some .string) (hx:ev L x=some (.string ⟨l.toArray⟩)) (hi:ev L i=some (.int κ j)) (hd:Nat.blt d n=true) (hj:0<=j/\j<=l.length)
  (k:Rg P r n ops rest ((d,.string ⟨(l.drop j.toNat).toArray⟩)::L) ds w K):
  Rg P r n ops ({dst:=some d,op:= .slice t x (some i) none none,type:=ty,pos,after:=af,guard:=none}::rest) L ds w K:=by
 have hs:(⟨l.toArray⟩:ByteArray).size=l.length:=by simp[ByteArray.size]
 refine .op a07 G G hd _ w (λρ hρ=>?_) k;simp only[execOp,hρ x _ hx,fP,qO,hρ i _ hi];rw[cw,run_sliceAt_string _ _ _ _ _ _ ht,run_slice_string_l _ _ _ ht _ _ hj.1 (by rw[hs];exact hj.2),sT,hs,List.take_length];simp
theorem Rg.UH {t:TypeId} {i:Operand} {l:List UInt8} {κ:IntKind} {j:Int} (ht:P.underlying t=some .string) (hx:ev L x=some (.string ⟨l.toArray⟩)) (hi:ev L i=some (.int κ j)) (hd:Nat.blt d n=true) (hj:0<=j/\j<=l.length)
  (k:Rg P r n ops rest ((d,.string ⟨(l.take j.toNat).toArray⟩)::L) ds w K):
  Rg P r n ops ({dst:=some d,op:= .slice t x none (some i) none,type:=ty,pos,after:=af,guard:=none}::rest) L ds w K:=by
 have hs:(⟨l.toArray⟩:ByteArray).size=l.length:=by simp[ByteArray.size]
 refine .op a07 G G hd _ w (λρ hρ=>?_) k;simp only[execOp,hρ x _ hx,fP,qO,hρ i _ hi];rw[cw,run_sliceAt_string _ _ _ _ _ _ ht,run_slice_string_h _ _ _ ht _ _ hj.1 (by rw[hs];exact hj.2),sT,List.drop_zero];simp
end
theorem Own.eN {α:Type} {A:RT α} {e:TypeId} {M:aP} {w:World} {base b p:Nat} {s:ByteArray} {v:Value} {xs:List α} (h:Own A e M w base v xs) (hb:w.heap[b]? =some (.stringIter s p)):v.ownBlock≠some b:=λhv=>by
 obtain⟨⟨C,h1,_⟩,_⟩:=h;rcases h1.2 with⟨h2,_⟩|⟨g,cap,cur,h2,_,h3,_⟩
 ·rw[h2]at hv;cases hv
 ·rw[h2]at hv;cases hv;rw[h3]at hb;cases hb
theorem Own.jK {α β:Type} {A:RT α} {B:RT β} {e e':TypeId} {M M':aP} {w:World} {base base':Nat} {v u:Value} {xs:List α} {ys:List β} (h:Own A e M w base v xs) (h':Own B e' M' w base' u ys) (ht:e≠e') {b:Nat} (hb:v.ownBlock=some b):u.ownBlock≠some b:=λhu=>by
 obtain⟨⟨C,h1,_⟩,_⟩:=h;obtain⟨⟨C',Sa,_⟩,_⟩:=h';rcases h1.2 with⟨h2,_⟩|⟨g,cap,cur,h2,_,h3,_⟩
 ·rw[h2]at hb;cases hb
 ·rcases Sa.2 with⟨GX,_⟩|⟨g',R0,aaq,GX,_,h3',_⟩
  ·rw[GX]at hu;cases hu
  ·rw[h2]at hb;rw[GX]at hu;cases hb;cases hu;rw[h3]at h3';cases h3';exact ht G
theorem Own.fN {α:Type} {A:RT α} {e t:TypeId} {M:aP} {w:World} {base b:Nat} {v:Value} {xs:List α} {cs:Array Value} {fr:Nat×Nat} (h:Own A e M w base v xs) (hb:w.heap[b]? =some (.cells cs t fr)) (ht:t≠e):v.ownBlock≠some b:=λhv=>by
 obtain⟨⟨C,h1,_⟩,_⟩:=h;rcases h1.2 with⟨h2,_⟩|⟨g,cap,cur,h2,_,h3,_⟩
 ·rw[h2]at hv;cases hv
 ·rw[h2]at hv;cases hv;rw[h3]at hb;cases hb;exact ht G
abbrev Fd:=List UInt8×List UInt8
abbrev Dc:=Int×List Fd
abbrev En:=Dc×Int
abbrev RT.fd:RT Fd:=RT.pair RT.str RT.str
abbrev RT.dc:RT Dc:=RT.pair (RT.int .i64) (RT.fd.sl)
abbrev RT.en:RT En:=RT.pair RT.dc (RT.int .i64)
theorem Mw:Part RT.fd RT.str (λp=>p.1) 0:=kg _ _
theorem UI:Part RT.fd RT.str (λp=>p.2) 1:=fj _ _
theorem dc0:Part RT.dc (RT.int .i64) (λp=>p.1) 0:=kg _ _
theorem KL:Part RT.dc (RT.fd.sl) (λp=>p.2) 1:=fj _ _
theorem en0:Part RT.en RT.dc (λp=>p.1) 0:=kg _ _
theorem en1:Part RT.en (RT.int .i64) (λp=>p.2) 2:=fj _ _
theorem NB {M:aP} {w:World} {p:Dc} {v:Value} (h:RT.dc.V M w p v):∃u,v= .agg #[.int .i64 p.1,u]:=by
 obtain⟨vs,⟨va,vb,rfl,⟨rfl,_⟩,hb⟩,rfl⟩:=h;have:=(RT.fd.sl q0).len hb
 match vb,this with
 |[u],_=>exact⟨u,rfl⟩
theorem UJ {M:aP} {w:World} {p:Dc} {u:Value} {s:Int} (h:RT.dc.V M w p (.agg #[.int .i64 p.1,u])) (hs: -9223372036854775808<=s/\s<=9223372036854775807):RT.en.V M w (p,s) (.agg [.int .i64 p.1,u,.int .i64 s].toArray):=by
 obtain⟨vs,h1,h2⟩:=h
 have h3:vs=[.int .i64 p.1,u]:=by
  have:Value.agg #[.int .i64 p.1,u]= .agg vs.toArray:=h2;injection this with this
  simpa using(congrArg Array.toList this).symm
 subst h3;exact⟨_,⟨[.int .i64 p.1,u],[.int .i64 s],G,h1,G,hs.1,hs.2⟩,G⟩
theorem Own.UK {α:Type} (A:RT α) (e:TypeId) (base:Nat) {M:aP} {w:World} (h:Lt M w):Own A e M w base (.slice none 0 0) []:=ep _ _ _ _ _
section
variable {P:Program} {r:Option Nat} {n:Nat} {L:Sl} {ds:List Deferred} {w:World} {K:Kt} {ops:Array Oper} {rest:List Oper} {d:Nat} {x:Operand} {ty:TypeId} {pos:String} {af:Array Edge}
theorem Rg.jL {α:Type} {A:RT α} {e:TypeId} {v:Value} {a:α} {M:aP} (hx:ev L x=some v) (hd:Nat.blt d n=true) (hM:Lt M w) (hv:A.V M w a v) (hg:A.agg=true)
  (k:∀u w',dp A M w' u a->Step M w M w' aH->w.heap.size<=w'.heap.size->Rg P r n ops rest ((d,u)::L) ds w' K):
  Rg P r n ops ({dst:=some d,op:= .box e x,type:=ty,pos,after:=af,guard:=none}::rest) L ds w K:=by
 refine qu M hx hd (λb w' h1 h2 hb s=>?_);obtain⟨vs,h3,h4⟩:=hv;have hc:v.cells=vs.toArray:=by subst h4;simp[RT.val,hg,Value.cells]
 rw[hc]at hb;refine k _ w' ⟨b,0,vs,G,λhm=>?_,A.le s.back.le h3,λj u hj=>?_⟩ s.back s.size
 ·have:=hM b hm;omega
 ·rw[oH];exact jR hb a95
end
end Go.K
namespace Go.K
open Go.Maps (Keyed)
structure gm (P:Program) (kt:TypeId) (w:World) (b:Nat) (es:List MapEntry) (clock:Nat):Prop where
 at_:w.heap[b]? =some (.map es.toArray clock)
 born:es.Pairwise λx y=>x.born≠y.born
 lt:∀e∈es,e.born<clock
 keys:es.Pairwise λx y=>x.key≠y.key
 ok:∀e∈es,∃l,keyOf P kt e.key=some l
def eO (zv:Value) (es:List MapEntry) (key v:Value):Prop:=(∃e∈es,e.key=key/\v=e.val)\/((∀e∈es,e.key≠key)/\v=zv)
section
variable {P:Program} {kt:TypeId} {w:World} {b clock:Nat} {es:List MapEntry}
theorem gm.step {M M' N:aP} {w':World} (h:gm P kt w b es clock) (s:Step M w M' w' N) (hn: ¬N b):gm P kt w' b es clock:=⟨s.bY h.at_ hn,h.born,h.lt,h.keys,h.ok⟩
theorem gm.br {M M':aP} {w':World} (h:gm P kt w b es clock) (s:Step M w M' w' aH):gm P kt w' b es clock:=h.step s λh=>h
theorem iK {α:Type} {R:α->α->Prop} {l:List α} (h:l.Pairwise R) {i j:Nat} {x y:α} (hi:l[i]? =some x) (hj:l[j]? =some y) (jS:i<j):R x y:=by
 obtain⟨h1,h2⟩:=ak.1 hi;obtain⟨h3,h4⟩:=ak.1 hj;have:=pw.1 h i j h1 h3 jS
 rwa [h2,h4]at this
theorem gm.Jm (h:gm P kt w b es clock) {x y:MapEntry} (hx:x∈es) (hy:y∈es) (e:x.key=y.key):x=y:=by
 obtain⟨i,hi⟩:=bQ.1 hx;obtain⟨j,hj⟩:=bQ.1 hy;rcases fF i j with h1|h1|h1
 ·exact absurd e (iK h.keys hi hj h1)
 ·subst h1;rw[hi]at hj;exact aG hj
 ·exact absurd e.symm (iK h.keys hj hi h1)
theorem gm.EM (h:gm P kt w b es clock) {i j:Nat} {x y:MapEntry} (hi:es[i]? =some x) (hj:es[j]? =some y) (e:x.born=y.born):i=j:=by
 rcases fF i j with h1|h1|h1
 ·exact absurd e (iK h.born hi hj h1)
 ·exact h1
 ·exact absurd e.symm (iK h.born hj hi h1)
theorem gm.val_one (h:gm P kt w b es clock) {zv key v v':Value} (h1:eO zv es key v) (h2:eO zv es key v'):v=v':=by
 rcases h1 with⟨e,he,hk,hv⟩|⟨hn,hv⟩
 ·rcases h2 with⟨e',rz,qx,sM⟩|⟨Mv,_⟩
  ·have:=h.Jm he rz (hk.trans qx.symm);rw[hv,sM,this]
  ·exact absurd hk (Mv e he)
 ·rcases h2 with⟨e',rz,qx,_⟩|⟨_,sM⟩
  ·exact absurd qx (hn e' rz)
  ·rw[hv,sM]
theorem dN {r:Nat} {a:Array MapEntry} {c:Nat} (hb:w.heap[r]? =some (.map a c)):(getObj r).run P w= .ok (.map a c) w:=by simp[getObj,Sem.run,hb]
theorem run_setObj_map {r:Nat} {a:Array MapEntry} {c:Nat} {o:Obj} (hb:w.heap[r]? =some (.map a c)):(setObj r o).run P w= .ok () {w with heap:=w.heap.setIfInBounds r o}:=by simp[setObj,Sem.run,hb]
theorem gm.push (h:gm P kt w b es clock) {key v:Value} {kl:Lit} (lX:keyOf P kt key=some kl) (hn:∀e∈es,e.key≠key) {w':World} (hw:w'.heap[b]? =some (.map (es++([⟨key,v,clock⟩]:List MapEntry)).toArray (clock+1))):gm P kt w' b (es++[⟨key,v,clock⟩]) (clock+1):=
 ⟨hw,List.pairwise_append.2 ⟨h.born,List.pairwise_singleton _ _,λx hx y hy=>by rw[cV.1 hy];have:=h.lt x hx;show x.born≠clock;omega⟩,(λe he=>by
  rcases dH.1 he with he|he
  ·have:=h.lt e he;omega
  ·rw[cV.1 he];exact Nat.lt_succ_self _),List.pairwise_append.2 ⟨h.keys,List.pairwise_singleton _ _,λx hx y hy=>by rw[cV.1 hy];exact hn x hx⟩,(λe he=>by
  rcases dH.1 he with he|he
  ·exact h.ok e he
  ·rw[cV.1 he];exact⟨kl,lX⟩)⟩
theorem eO.push {zv key:Value} {s:Nat} (hn:∀e∈es,e.key≠key) (jM v':Value):eO zv (es++[⟨key,zv,s⟩]) jM v'↔eO zv es jM v':=by
 constructor
 ·rintro(⟨e,he,hk,hv⟩|⟨h1,h2⟩)
  ·rcases dH.1 he with he|he
   ·exact .inl ⟨e,he,hk,hv⟩
   ·rw[cV.1 he]at hk hv;exact .inr ⟨λe he=>by rw[<-hk];exact hn e he,hv⟩
  ·exact .inr ⟨λe he=>h1 e (kB _ he),h2⟩
 ·rintro(⟨e,he,hk,hv⟩|⟨h1,h2⟩)
  ·exact .inl ⟨e,kB _ he,hk,hv⟩
  ·by_cases hk:key=jM
   ·exact .inl ⟨⟨key,zv,s⟩,by simp,hk,h2⟩
   ·exact .inr ⟨λe he=>by
     rcases dH.1 he with he|he
     ·exact h1 e he
     ·rw[cV.1 he];exact hk,h2⟩
end
section
variable {P:Program} {r:Option Nat} {n:Nat} {L:Sl} {ds:List Deferred} {w:World} {K:Kt} {ops:Array Oper} {rest:List Oper} {d:Nat} {x y z:Operand} {ty:TypeId} {pos:String} {af:Array Edge}
variable {kt:TypeId} {M:aP} {b clock:Nat} {es:List MapEntry}
theorem Rg.zB {t e:TypeId} (M:aP) (ht:P.underlying t=some (.map kt e)) (hd:Nat.blt d n=true)
  (k:∀b w',w.heap.size<=b->b<w'.heap.size->gm P kt w' b [] 0->Step M w (ins M b) w' aH->Rg P r n ops rest ((d,.map (some b))::L) ds w' K):
  Rg P r n ops ({dst:=some d,op:= .makeMap t none,type:=ty,pos,after:=af,guard:=none}::rest) L ds w K:=by
 refine .op a07 G G hd (.map (some w.heap.size)) (w.alloc (.map #[] 0)) (λρ hρ=>?_) (k w.heap.size _ (aK _) (by simp) ⟨dC w _,List.Pairwise.nil,(λe he=>by cases he),List.Pairwise.nil,(λe he=>by cases he)⟩ ((ef M w _).own (aK _) (by simp)));simp only[execOp];simp[Instr.makeMap,newObj,Sem.run,run_underlying ht]
theorem Rg.mapEntry {t e:TypeId} {zv key:Value} {size bytes:Nat} {kl:Lit} (ht:P.underlying t=some (.map kt e)) (Kk:Keyed P kt) (hi:TI P e zv size bytes) (hx:ev L x=some (.map (some b))) (hy:ev L y=some key) (hd:Nat.blt d n=true) (lX:keyOf P kt key=some kl) (h:gm P kt w b es clock) (hm:M b)
  (k:∀w' qm Hn v s,gm P kt w' b qm Hn->eO zv es key v->(⟨key,v,s⟩:MapEntry)∈qm->(∀jM v',eO zv qm jM v'↔eO zv es jM v')->((qm.map (·.key)=es.map (·.key)/\∃e∈es,e.key=key)\/(qm.map (·.key)=es.map (·.key)++[key]/\∀e∈es,e.key≠key))->Step M w M w' (λk=>k=b)->Rg P r n ops rest ((d,.tuple #[v,.int .i64 (s:Nat)])::L) ds w' K):
  Rg P r n ops ({dst:=some d,op:= .mapEntry t x y,type:=ty,pos,after:=af,guard:=none}::rest) L ds w K:=by
 have eU:=ah h.at_;rcases Kk.find w lX es h.ok with⟨h1,h2⟩|⟨j,e0,h1,h2,h3⟩
 ·obtain⟨inf,i1,i2,_,_⟩:=hi.get;have hz:(zeroValue e).run P w= .ok zv w:=by simp[zeroValue,typeInfo,i1,i2]
  have hw:({w with heap:=w.heap.setIfInBounds b (.map (es.toArray.push ⟨key,zv,clock⟩) (clock+1))}:World).heap[b]? =some (.map (es++([⟨key,zv,clock⟩]:List MapEntry)).toArray (clock+1)):=by
   simp[dG,eU]
  refine .op a07 G G hd _ _ (λρ hρ=>?_) (k _ _ _ zv clock (h.push lX h2 hw) (Or.inr ⟨h2,G⟩) (by simp) (eO.push h2) (Or.inr ⟨by simp,h2⟩) (iV M hm));simp only[execOp,hρ x _ hx,hρ y _ hy,Instr.mapEntry,cw,run_underlying ht,cM,dN h.at_,Kk.check w false lX,h1,hz,run_setObj_map h.at_];simp[goInt]
 ·have he:e0∈es:=ao h2
  have NC:es.toArray.modify j (λe=>{e with key:=key})=es.toArray:=by
   apply Array.ext_getElem?;intro i;rw[wG]
   split
   ·rename_i hji
    subst hji;simp only[mE,h2,fP];rw[<-h3]
   ·rfl
  have hw:({w with heap:=w.heap.setIfInBounds b (.map es.toArray clock)}:World).heap[b]? =some (.map es.toArray clock):=by simp[dG,eU]
  have hj:es.toArray[j]? =some e0:=by simpa using h2
  have lF:(Instr.keyThatStays ((Option.map (fun(e:MapEntry)=>e.key) es.toArray[j]?).getD key) key).run P w= .ok key w:=by
   rw[hj];simp only[fP,Option.getD_some,h3];exact Kk.stays w lX
  refine .op a07 G G hd _ _ (λρ hρ=>?_) (k _ es clock e0.val e0.born ⟨hw,h.born,h.lt,h.keys,h.ok⟩ (Or.inl ⟨e0,he,h3,rfl⟩) (by rw[<-h3];exact he) (λ_ _=>Iff.rfl) (Or.inl ⟨G,e0,he,h3⟩) (iV M hm));simp only[execOp,hρ x _ hx,hρ y _ hy,Instr.mapEntry,cw,run_underlying ht,cM,dN h.at_,Kk.check w false lX,h1,lF,NC,run_setObj_map h.at_];simp[goInt,hj]
theorem Rg.entryStore {t:TypeId} {key v0 val:Value} {s:Nat} (hx:ev L x=some (.map (some b))) (hy:ev L y=some (.int .i64 (s:Int))) (hz:ev L z=some val) (h:gm P kt w b es clock) (hm:M b) (lY:(⟨key,v0,s⟩:MapEntry)∈es)
  (k:∀w' qm,gm P kt w' b qm clock->qm.map (·.key)=es.map (·.key)->(∀zv jM v',eO zv qm jM v'↔(jM=key/\v'=val)\/(jM≠key/\eO zv es jM v'))->Step M w M w' (λk=>k=b)->Rg P r n ops rest L ds w' K):
  Rg P r n ops ({dst:=none,op:= .entryStore t x y z,type:=ty,pos,after:=af,guard:=none}::rest) L ds w K:=by
 have eU:=ah h.at_;obtain⟨i,hi⟩:=bQ.1 lY;have qz:=(ak.1 hi).1
 have agO:es.toArray.findIdx? (λe=>(e.born:Int)==(s:Int))=some i:=by
  rw[List.findIdx?_toArray,List.findIdx?_eq_some_iff_getElem];refine⟨qz,by rw[(ak.1 hi).2];simp,λj hj=>?_⟩;have qw:j<es.length:=by omega
  have:=λe=>h.EM (aq qw) hi e
  simp only[Bool.not_eq_true,beq_eq_false_iff_ne,ne_eq];intro e;have e2:((es[j]).born:Int)=(s:Int):=by simpa using e
  have:=this (by show(es[j]).born=s;omega);omega
 obtain⟨qm,xh⟩:∃qm,qm=es.set i ⟨key,val,s⟩:=⟨_,rfl⟩
 have NC:es.toArray.modify i (λe=>{e with val:=val})=qm.toArray:=by
  apply Array.ext_getElem?;intro j;rw[wG,xh];simp only[mE,eY]
  split
  ·rename_i hji
   subst hji;rw[hi];simp
  ·rfl
 have jh:∀j e',qm[j]? =some e'→(j=i/\e'=⟨key,val,s⟩)\/(j≠i/\es[j]? =some e'):=λj e' hj=>by
  rw[xh,eY]at hj
  split at hj
  ·rename_i jS
   left;exact⟨jS.symm,by simpa[qz]using hj.symm⟩
  ·rename_i jS
   exact .inr ⟨λe=>jS e.symm,hj⟩
 have qn:qm.map (·.key)=es.map (·.key):=by
  rw[xh,List.map_set];apply jn;intro j;rw[eY]
  split
  ·rename_i jS
   subst jS;have e:=(ak.1 hi).2;simp[qz,e]
  ·rfl
 have ND:qm.map (·.born)=es.map (·.born):=by
  rw[xh,List.map_set];apply jn;intro j;rw[eY]
  split
  ·rename_i jS
   subst jS;have e:=(ak.1 hi).2;simp[qz,e]
  ·rfl
 have hw:({w with heap:=w.heap.setIfInBounds b (.map qm.toArray clock)}:World).heap[b]? =some (.map qm.toArray clock):=by simp[dG,eU]
 have ig:∀e'∈qm,(e'=⟨key,val,s⟩)\/(e'∈es/\e'.key≠key):=λe' rz=>by
  obtain⟨j,hj⟩:=bQ.1 rz;rcases jh j e' hj with⟨_,e⟩|⟨fB,xX⟩
  ·exact .inl e
  ·refine .inr ⟨ao xX,λe=>fB ?_⟩;rcases fF j i with h1|h1|h1
   ·exact absurd e (iK h.keys xX hi h1)
   ·exact h1
   ·exact absurd e.symm (iK h.keys hi xX h1)
 have NF:(⟨key,val,s⟩:MapEntry)∈qm:=ao (i:=i) (by rw[xh,eY];simp[qz])
 have hold:∀e'∈es,e'.key≠key->e'∈qm:=λe' rz fB=>by
  obtain⟨j,hj⟩:=bQ.1 rz;refine ao (i:=j) ?_;rw[xh,eY,if_neg]
  ·exact hj
  ·rintro rfl;rw[hi]at hj;cases hj;exact fB G
 have hW:gm P kt {w with heap:=w.heap.setIfInBounds b (.map qm.toArray clock)} b qm clock:=by
  refine⟨hw,?_,λe' rz=>?_,?_,λe' rz=>?_⟩
  ·have:=eh.2 h.born;rw[<-ND]at this;exact eh.1 this
  ·rcases ig e' rz with e|⟨h1,_⟩
   ·rw[e];exact(h.lt _ lY:s<clock)
   ·exact h.lt _ h1
  ·have:=eh.2 h.keys;rw[<-qn]at this;exact eh.1 this
  ·rcases ig e' rz with e|⟨h1,_⟩
   ·rw[e];exact(h.ok _ lY:∃l,keyOf P kt key=some l)
   ·exact h.ok _ h1
 refine .VW a07 G G _ (λρ hρ=>?_) (k _ qm hW qn (λzv jM v'=>?_) (iV M hm))
 ·simp only[execOp,hρ x _ hx,hρ y _ hy,hρ z _ hz,Instr.entryStore,cw,dN h.at_,cM,asInt,asIntOf,nF,agO,NC,run_setObj_map h.at_]
 ·constructor
  ·rintro(⟨e',rz,hk,hv⟩|⟨h1,h2⟩)
   ·rcases ig e' rz with e|⟨h3,h4⟩
    ·subst e;exact .inl ⟨hk.symm,hv⟩
    ·exact .inr ⟨by rw[<-hk];exact h4,.inl ⟨e',h3,hk,hv⟩⟩
   ·have fB:jM≠key:=λe=>h1 _ NF e.symm
    exact .inr ⟨fB,.inr ⟨λe' rz=>λe=>by
     by_cases h5:e'.key=key
     ·exact fB (e.symm.trans h5)
     ·exact h1 e' (hold e' rz h5) e,h2⟩⟩
  ·rintro(⟨rfl,rfl⟩|⟨fB,⟨e',rz,hk,hv⟩|⟨h1,h2⟩⟩)
   ·exact .inl ⟨_,NF,G,G⟩
   ·exact .inl ⟨e',hold e' rz (by rw[hk];exact fB),hk,hv⟩
   ·exact .inr ⟨λe' rz=>by
     rcases ig e' rz with e|⟨h3,_⟩
     ·rw[e];exact λe=>fB e.symm
     ·exact h1 e' h3,h2⟩
theorem Rg.uO {t e:TypeId} {zv key:Value} {size bytes:Nat} {kl:Lit} (ht:P.underlying t=some (.map kt e)) (Kk:Keyed P kt) (hi:TI P e zv size bytes) (hx:ev L x=some (.map (some b))) (hy:ev L y=some key) (hd:Nat.blt d n=true) (lX:keyOf P kt key=some kl) (h:gm P kt w b es clock)
  (k:∀v,eO zv es key v->Rg P r n ops rest ((d,v)::L) ds w K):
  Rg P r n ops ({dst:=some d,op:= .lookup t x y false,type:=ty,pos,after:=af,guard:=none}::rest) L ds w K:=by
 rcases Kk.find w lX es h.ok with⟨h1,h2⟩|⟨j,e0,h1,h2,h3⟩
 ·obtain⟨inf,i1,i2,_,_⟩:=hi.get;have hz:(zeroValue e).run P w= .ok zv w:=by simp[zeroValue,typeInfo,i1,i2]
  refine .op a07 G G hd zv w (λρ hρ=>?_) (k zv (Or.inr ⟨h2,G⟩));simp only[execOp,hρ x _ hx,hρ y _ hy,Instr.lookup,cw,run_underlying ht,cM,dN h.at_,nF,Kk.check w _ lX,h1,hz];simp
 ·refine .op a07 G G hd e0.val w (λρ hρ=>?_) (k e0.val (Or.inl ⟨e0,ao h2,h3,G⟩));simp only[execOp,hρ x _ hx,hρ y _ hy,Instr.lookup,cw,run_underlying ht,cM,dN h.at_,nF,Kk.check w _ lX,h1];simp
end
end Go.K
namespace Go.K
inductive Qy where
 |mk (kind:Int) (term:Fd) (words:List (List UInt8)) (kids:List Qy)
noncomputable instance ano:DecidableEq Qy:=λa b=>Classical.propDecidable (a=b)
def Qy.kind:Qy->Int| .mk k _ _ _=>k
def Qy.term:Qy->Fd| .mk _ t _ _=>t
def Qy.words:Qy->List (List UInt8)| .mk _ _ ws _=>ws
def Qy.kids:Qy->List Qy| .mk _ _ _ ks=>ks
def Qy.parts (q:Qy):Int×Fd×List (List UInt8)×List Qy:=(q.kind,q.term,q.words,q.kids)
theorem iL {a b:Qy}:a=b↔a.kind=b.kind/\a.term=b.term/\a.words=b.words/\a.kids=b.kids:=by
 constructor
 ·rintro rfl;exact⟨G,G,G,G⟩
 ·obtain⟨k,t,ws,ks⟩:=a;obtain⟨k',t',yO,Wy⟩:=b;rintro⟨h1,h2,h3,h4⟩;have h1:k=k':=h1;have h2:t=t':=h2;have h3:ws=yO:=h3;have h4:ks=Wy:=h4;subst h1 h2 h3 h4;rfl
def RT.Wz:RT (List Qy) where
 n:=1
 agg:=false
 R:=λ_ _ xs vs=>xs=[]/\∃a c,vs=[.slice a 0 c]
 len:=by rintro _ _ x vs ⟨_,a,c,rfl⟩;rfl
 one:=by rintro _ _ x vs ⟨_,a,c,rfl⟩ v hv;simp at hv;subst hv;rfl
 le:=λ_ h=>h
abbrev RT.aaY (K:RT (List Qy)):RT Qy:=RT.VZ (RT.pair (RT.int .i64) (RT.pair RT.fd (RT.pair (RT.str.sl) K))) Qy.parts
def RT.WA:Nat->{A:RT Qy // A.n=5/\A.agg=true}
 |0=>⟨RT.aaY RT.Wz,rfl,rfl⟩
 |n+1=>⟨RT.aaY ((RT.WA n).1.sl (by rw[(RT.WA n).2.1];decide)),rfl,rfl⟩
def RT.qy (n:Nat):RT Qy:=(RT.WA n).1
theorem tJ (n:Nat):(RT.qy n).n=5:=(RT.WA n).2.1
theorem aO (n:Nat):0<(RT.qy n).n:=by rw[tJ];decide
theorem ec (n:Nat):(RT.qy n).agg=true:=(RT.WA n).2.2
theorem NG:∀{n:Nat} {M:aP} {w:World} {q:Qy} {vs:List Value},(RT.qy n).R M w q vs->(RT.qy (n+1)).R M w q vs
 |0,M,w,q,vs,h=>by
  obtain⟨va,vb,rfl,h1,vc,vd,rfl,h2,ve,vf,rfl,h3,hk,a,c,rfl⟩:=h;have hk:q.kids=[]:=hk;refine⟨va,_,G,h1,vc,_,G,h2,ve,_,G,h3,a,c,?_,?_,?_,.inl hk⟩
  ·show _=[Value.slice a q.kids.length c];rw[hk];rfl
  ·show q.kids.length<=c;rw[hk];exact bA _
  ·show q.kids.length<=_;rw[hk];exact bA _
 |n+1,M,w,q,vs,h=>by
  obtain⟨va,vb,rfl,h1,vc,vd,rfl,h2,ve,vf,rfl,h3,a,c,rfl,h4,h5,h6⟩:=h;refine⟨va,_,G,h1,vc,_,G,h2,ve,_,G,h3,a,c,G,h4,h5,h6.imp id fun⟨b,o,e,hb,hx⟩=>⟨b,o,e,hb,λi x hi=>?_⟩⟩;obtain⟨us,g1,g2⟩:=hx i x hi;exact⟨us,NG g1,by rw[(RT.WA n).2.1]at g2;rw[(RT.WA (n+1)).2.1];exact g2⟩
theorem mW {n:Nat} {M:aP} {w:World} {q:Qy} {v:Value} (h:(RT.qy n).V M w q v):(RT.qy (n+1)).V M w q v:=by
 obtain⟨vs,h1,h2⟩:=h;exact⟨vs,NG h1,by rw[h2];unfold RT.val;rw[ec,ec]⟩
theorem NH {n:Nat} {M:aP} {w:World} {q:Qy} {v:Value} (h:(RT.qy n).V M w q v):∀k,(RT.qy (n+k)).V M w q v
 |0=>h
 |k+1=>mW (NH h k)
theorem Su (n:Nat):Part (RT.qy (n+1)) (RT.int .i64) Qy.kind 0:=Part.VZ Qy.parts (kg _ _)
theorem KM (n:Nat):Part (RT.qy (n+1)) RT.fd Qy.term 1:=Part.VZ Qy.parts ((fj _ _).trans (kg _ _))
theorem RC (n:Nat):Part (RT.qy (n+1)) (RT.str.sl) Qy.words 3:=Part.VZ Qy.parts ((fj _ _).trans ((fj _ _).trans (kg _ _)))
theorem NI (n:Nat):Part (RT.qy (n+1)) ((RT.qy n).sl (aO n)) Qy.kids 4:=Part.VZ Qy.parts ((fj _ _).trans ((fj _ _).trans (fj _ _)))
theorem IQ {P:Program} {t:TypeId} {z:Value} {bytes:Nat} (h:TI P t z 5 bytes) (n:Nat):TI P t z (RT.qy n).n bytes:=by rw[tJ];exact h
theorem ox {n:Nat} {M:aP} {w:World} {q:Qy} {v:Value} (h:(RT.qy (n+1)).V M w q v):∃vw vk,v= .agg #[.int .i64 q.kind,.string ⟨q.term.1.toArray⟩,.string ⟨q.term.2.toArray⟩,vw,vk]/\(-9223372036854775808<=q.kind/\q.kind<=9223372036854775807)/\(q.term.1.length<=140737488355328/\q.term.2.length<=140737488355328)/\(RT.str.sl).V M w q.words vw/\((RT.qy n).sl (aO n)).V M w q.kids vk:=by
 obtain⟨vs,⟨va,vb,rfl,⟨rfl,h1⟩,vc,vd,rfl,⟨_,_,rfl,⟨rfl,h2⟩,⟨rfl,h3⟩⟩,ve,vf,rfl,h4,h5⟩,rfl⟩:=h;obtain⟨a,c,rfl,h6⟩:=h4;obtain⟨a',c',rfl,h7⟩:=h5;exact⟨_,_,G,h1,⟨h2,h3⟩,jE.2 ⟨a,c,G,h6⟩,jE.2 ⟨a',c',G,h7⟩⟩
theorem x7 {n:Nat} {M:aP} {w:World} {k:Int} {t:Fd} {ws:List (List UInt8)} {ks:List Qy} {vw vk:Value} (h1: -9223372036854775808<=k/\k<=9223372036854775807) (h2:t.1.length<=140737488355328/\t.2.length<=140737488355328) (h3:(RT.str.sl).V M w ws vw) (h4:((RT.qy n).sl (aO n)).V M w ks vk):
  (RT.qy (n+1)).V M w (.mk k t ws ks) (.agg #[.int .i64 k,.string ⟨t.1.toArray⟩,.string ⟨t.2.toArray⟩,vw,vk]):=by
 obtain⟨a,c,rfl,h5⟩:=jE.1 h3;obtain⟨a',c',rfl,h6⟩:=jE.1 h4;exact⟨_,⟨_,_,G,⟨G,h1⟩,_,_,G,⟨_,_,G,⟨G,h2.1⟩,⟨G,h2.2⟩⟩,_,_,G,⟨a,c,G,h5⟩,⟨a',c',G,h6⟩⟩,G⟩
theorem zC {M:aP} {w:World} {k:Int} {t:Fd} {ws:List (List UInt8)} {vw:Value} (h1: -9223372036854775808<=k/\k<=9223372036854775807) (h2:t.1.length<=140737488355328/\t.2.length<=140737488355328) (h3:(RT.str.sl).V M w ws vw):
  (RT.qy 0).V M w (.mk k t ws []) (.agg #[.int .i64 k,.string ⟨t.1.toArray⟩,.string ⟨t.2.toArray⟩,vw,.slice none 0 0]):=by
 obtain⟨a,c,rfl,h5⟩:=jE.1 h3;exact⟨_,⟨_,_,G,⟨G,h1⟩,_,_,G,⟨_,_,G,⟨G,h2.1⟩,⟨G,h2.2⟩⟩,_,_,G,⟨a,c,G,h5⟩,G,_,_,G⟩,G⟩
theorem Dm {n:Nat} {M M':aP} {w w':World} {k:Int} {a b:ByteArray} {ws:List (List UInt8)} {ks:List Qy} {vw vk:Value} (h:(RT.str.sl).V M w ws vw) (h':((RT.qy n).sl (aO n)).V M' w' ks vk):∀u∈[Value.int .i64 k,.string a,.string b,vw,vk],u.oneCell'=true:=by
 intro u hu;simp only[dg,List.not_mem_nil,or_false]at hu;rcases hu with rfl|rfl|rfl|rfl|rfl
 ·rfl
 ·rfl
 ·rfl
 ·exact jX h G G
 ·exact jX h' G G
section
variable {P:Program} {r:Option Nat} {n:Nat} {L:Sl} {ds:List Deferred} {w:World} {K:Kt} {ops:Array Oper} {rest:List Oper} {d:Nat} {x y z:Operand} {ty:TypeId} {pos:String} {af:Array Edge} {M:aP} {b clock:Nat} {es:List MapEntry} {kt:TypeId}
theorem pM {k:Int} (hk:P.underlying kt=some (.int .i64)) (e:Bool) (w:World):(Instr.checkKey e 10000 kt (.int .i64 k)).run P w= .ok () w:=by
 rw[show(10000:Nat)=9999+1 from rfl,Instr.checkKey,cw,run_underlying hk w];rfl
theorem rA {k:Int} (hk:P.underlying kt=some (.int .i64)) {o:Option (Nat×Value)} (h:Instr.findNow (.int .i64) (.int .i64 k) es 0=some o) (w:World):(Instr.findKey kt (.int .i64 k) es).run P w= .ok o w:=by
 unfold Instr.findKey;rw[cw,run_underlying hk w];simp only[cM,h,nF]
theorem Rg.uP {t e:TypeId} {k:Int} {v:Value} (ht:P.underlying t=some (.map kt e)) (hk:P.underlying kt=some (.int .i64)) (hx:ev L x=some (.map (some b))) (hy:ev L y=some (.int .i64 k)) (hz:ev L z=some v) (hb:w.heap[b]? =some (.map es.toArray clock)) (hf:Instr.findNow (.int .i64) (.int .i64 k) es 0=some none) (hm:M b)
  (c:∀w',w'.heap[b]? =some (.map (es++([⟨.int .i64 k,v,clock⟩]:List MapEntry)).toArray (clock+1))->Step M w M w' (λq=>q=b)->Rg P r n ops rest L ds w' K):
  Rg P r n ops ({dst:=none,op:= .insert t x y z,type:=ty,pos,after:=af,guard:=none}::rest) L ds w K:=by
 have eU:=ah hb;refine .VW a07 rfl rfl {w with heap:=w.heap.setIfInBounds b (.map (es.toArray.push ⟨.int .i64 k,v,clock⟩) (clock+1))} (λρ hρ=>?_) (c _ (by simp[dG,eU]) (iV M hm));simp only[execOp,hρ x _ hx,hρ y _ hy,hρ z _ hz,Instr.mapUpdate,cw,run_underlying ht,cM,dN hb,pM hk,rA hk hf,run_setObj_map hb];simp
theorem Rg.Sv {t e:TypeId} {k:Int} {zv v:Value} {size bytes:Nat} {o:Option (Nat×Value)} (ht:P.underlying t=some (.map kt e)) (hk:P.underlying kt=some (.int .i64)) (hi:TI P e zv size bytes) (hx:ev L x=some (.map (some b))) (hy:ev L y=some (.int .i64 k)) (hd:Nat.blt d n=true) (hb:w.heap[b]? =some (.map es.toArray clock)) (hf:Instr.findNow (.int .i64) (.int .i64 k) es 0=some o)
  (hv:v=(o.map Prod.snd).getD zv)
  (c:Rg P r n ops rest ((d,.tuple #[v,.bool o.isSome])::L) ds w K):
  Rg P r n ops ({dst:=some d,op:= .lookup t x y true,type:=ty,pos,after:=af,guard:=none}::rest) L ds w K:=by
 obtain⟨inf,i1,i2,_,_⟩:=hi.get;have hz:(zeroValue e).run P w= .ok zv w:=by simp[zeroValue,typeInfo,i1,i2]
 refine .op a07 G G hd _ w (λρ hρ=>?_) c
 cases o with
 |none=>
  simp only[execOp,hρ x _ hx,hρ y _ hy,Instr.lookup,cw,run_underlying ht,cM,dN hb,nF,pM hk,rA hk hf,hz];simp[hv]
 |some p=>
  simp only[execOp,hρ x _ hx,hρ y _ hy,Instr.lookup,cw,run_underlying ht,cM,dN hb,nF,pM hk,rA hk hf];simp[hv]
end
end Go.K
namespace Go.K
open Go.ChangeShapes Go.WideShapes Go.ChangeAt Go.RowKit
def RT.and {α:Type} (A:RT α) (S:α->Prop):RT α where
 n:=A.n
 agg:=A.agg
 R:=λM w x vs=>A.R M w x vs/\S x
 len:=λh=>A.len h.1
 one:=λh=>A.one h.1
 le:=λhl h=>⟨A.le hl h.1,h.2⟩
theorem NJ {α:Type} {A:RT α} {S:α->Prop} {hn:0<A.n} {M:aP} {w:World} {xs:List α} {vs:List Value} (h:((A.and S).sl (show 0<(A.and S).n from hn)).R M w xs vs):(A.sl hn).R M w xs vs/\∀x∈xs,S x:=by
 obtain⟨a,c,rfl,h1,h2,h3⟩:=h;rcases h3 with h3|⟨b,o,e,hb,hx⟩
 ·subst h3;exact⟨⟨a,c,rfl,h1,h2,.inl rfl⟩,λx hx=>by cases hx⟩
 ·refine⟨⟨a,c,G,h1,h2,.inr ⟨b,o,e,hb,λi x hi=>?_⟩⟩,λx hm=>?_⟩
  ·obtain⟨us,g1,g2⟩:=hx i x hi;exact⟨us,g1.1,g2⟩
  ·obtain⟨i,hi⟩:=bQ.1 hm;obtain⟨us,g1,g2⟩:=hx i x hi;exact g1.2
structure KN {H:Type} (b:DataW H->Nat):Prop where
 str:∀bytes,bytes.length<=b (.lit (.string bytes))
 sl:∀elems spare x,x∈elems->b x<=b (.slice elems spare)
 agg:∀parts x,x∈parts->b x<=b (.agg parts)
def ew {H:Type} (b:DataW H->Nat) (B F:Nat) {α:Type} (P:Program) (t:TypeId) (A:RT α):Prop:=
 ∀{enc:TypeId×Value->H} {w:World} {base fuel:Nat} {spare:Nat->Bool} {cs:List Value} {d:DataW H} {ps:List MemPlace},fuel<=F->
  DataW.trod enc P w base spare true fuel t cs=some (d,ps)->(∀n∈DataW.weights P t d,n<=reachBytes)->b d<=B->∃x,A.R aH w x cs
section
variable {H:Type} {b:DataW H->Nat} {B F:Nat} {P:Program}
theorem ew.of {α:Type} {A:RT α} {t:TypeId} (h:jH P t A):ew b B F P t A:=λ_ h1 h2 _=>h h1 h2
theorem ew.zero {α:Type} {A:RT α} {t:TypeId}:ew b B 0 P t A:=by
 intro enc w base fuel spare cs d ps hf h;obtain rfl:fuel=0:=by omega
 simp[DataW.trod]at h
theorem ew.str (hb:KN b) {t:TypeId} (ht:P.underlying t=some .string):ew b B F P t (RT.str.and λx=>x.length<=B):=by
 intro enc w base fuel spare cs d ps hf h hw hB
 cases fuel with
 |zero=>simp[DataW.trod]at h
 |succ n=>
  unfold DataW.trod at h;rw[ht]at h
  split at h<;>simp_all
  rename_i s
  obtain⟨h1,h2,h3⟩:=h;subst h2;have:=hw s.data.toList.length (by simp[DataW.weights]);have hr:reachBytes<=140737488355328:=by decide
  have h4:=hb.str s.data.toList;refine⟨s.data.toList,⟨?_,ch this hr⟩,ch h4 hB⟩;simp
theorem ew.sl (hb:KN b) {t e:TypeId} {α:Type} {A:RT α} {hn:0<A.n} (ht:P.underlying t=some (.slice e)) {nb:Nat} (hc:P.cellsOf e=A.n) (ZQ:P.bytesOf e=nb) (Mt:nb≠0) (hA:ew b B (F-1) P e A):ew b B F P t (A.sl hn):=by
 have R1:P.bytesOf e≠0:=by rw[ZQ];exact Mt
 intro enc w base fuel spare cs d ps ZS h hw hB;rcases DataW.trod_slice ht h with⟨h1,h2⟩|⟨a,len,cap,elems,rest,n,hfn,rfl,hx,NK,hl,hm,hlen,C1,V8,hns⟩
 ·exact⟨[],none,0,by rw[h1];rfl,aK _,bA _,.inl rfl⟩
 ·injection hx with hd tu
  have uC:DataW.weights P t d=(elems.length+rest.length)*P.bytesOf e::(DataW.weightsAll P e (elems.map (·.1))++DataW.weightsAll P e (rest.map (·.1))):=by
   rw[hd];simp[DataW.weights,ht]
  have h1:(elems.length+rest.length)*P.bytesOf e<=reachBytes:=hw _ (by rw[uC];exact bE ..)
  have h2:elems.length<=140737488355328:=by
   have hr:reachBytes<=140737488355328:=by decide
   have:=Nat.le_mul_of_pos_right (elems.length+rest.length) (Nat.pos_of_ne_zero R1);omega
  have uv:∀y∈elems,b y.1<=B:=λy hy=>ch (hb.sl (elems.map (·.1)) (rest.map (·.1)) y.1 (cO.2 ⟨y,hy,rfl⟩)) (by rw[<-hd];exact hB)
  have iR:∀y∈elems,∀n∈DataW.weights P e y.1,n<=reachBytes:=λy hy n hn=>by
   refine hw n ?_;rw[uC];refine cn _ (kB _ ?_);clear uC hw h1 h2 V8 hns C1 hlen hd h tu uv hB
   induction elems with
   |nil=>cases hy
   |cons z zs ih=>
    simp only[fx,DataW.weightsAll,dH];rcases dg.1 hy with rfl|hy
    ·exact .inl hn
    ·exact .inr (ih hy)
  have hex:∀i,i<len->∃x vs,A.R aH w x vs/\∀j:Nat,j<A.n->w.cell? (a.add (i*A.n+j))=vs[j]? :=λi hi=>by
   have h3:=C1 i hi;rw[aq hV,Option.bind_eq_some_iff]at h3;obtain⟨vs,h4,h5⟩:=h3;obtain⟨x,h6⟩:=hA (d:=elems[i].1) (ps:=elems[i].2) hV h5 (iR _ (List.getElem_mem ..)) (uv _ (List.getElem_mem ..));obtain⟨_,h7,h8⟩:=World.cells?_some h4;rw[hc]at h8 h7;refine ⟨x,vs,h6,λj hj=> ?_⟩;rw[<-h8 j hj];unfold Addr.add;by_cases V9:j=0
   ·subst V9;simp
   ·by_cases Wa:i*A.n=0
    ·simp[Wa,V9]
    ·rw[if_neg hV,if_neg Wa,if_neg V9];simp[Nat.add_assoc]
  rcases Nat.eq_zero_or_pos len with h0|y9
  ·subst h0;exact⟨[],some a,cap,G,bA _,bA _,.inl G⟩
  ·obtain⟨x0,v0,wT,hc0⟩:=hex 0 y9;have sk:0<v0.length:=by rw[A.len wT];exact hn
   have hs:=hc0 0 hn;rw[aq sk,Nat.zero_mul,oH]at hs
   have MV:a.spot=none:=by
    unfold Addr.add at hs;rw[if_pos rfl]at hs;unfold World.cell? at hs
    cases hh:a.spot with
    |none=>rfl
    |some s=>rw[hh]at hs;split at hs<;>simp_all
   let f:Nat->α:=λi=>if h:i<len then(hex i h).choose else x0
   have hf:∀i,i<len->∃vs,A.R aH w (f i) vs/\∀j:Nat,j<A.n->w.cell? (a.add (i*A.n+j))=vs[j]? :=λi hi=>by
    have:f i=(hex i hi).choose:=dif_pos hi;rw[this];exact(hex i hi).choose_spec
   refine⟨(List.range len).map f,some a,cap,by simp,by simpa using hl,by simp;omega,.inr ⟨a.block,a.off,by cases a;simp_all,λh=>h.elim,λi x G7=>?_⟩⟩;have hi:i<len:=by have:=(ak.1 G7).1;simpa using this
   obtain⟨vs,h3,h4⟩:=hf i hi;have hxe:x=f i:=by simp[hi]at G7;exact G7.symm
   subst hxe;refine ⟨vs,h3,λj v hj=> ?_⟩;have qw:j<A.n:=by rw[<-A.len h3];exact(ak.1 hj).1
   rw[<-hj,<-h4 j qw,MU _ _ MV,Nat.add_assoc]
theorem ew.pair (hb:KN b) {t:TypeId} {fs:Array Field} {f0 f1:Field} {α β:Type} {A:RT α} {A2:RT β} (ht:P.underlying t=some (.struct fs)) (Mu:fs[0]? =some f0) (sm:fs[1]? =some f1) (Wb:fs.size=2) (h0:f0.offset=0) (h1:f1.offset=A.n)
  (c0:P.cellsOf f0.type=A.n) (c1:P.cellsOf f1.type=A2.n) (ct:P.cellsOf t=A.n+A2.n) (hA:ew b B F P f0.type A) (hB2:ew b B F P f1.type A2):ew b B F P t (A.pair A2):=by
 intro enc w base fuel spare cs d ps ZS h hw hB;obtain⟨xs,n,hfn,hx,hl,hlen,hf⟩:=DataW.trod_struct ht h;injection hx with hd tu
 have yM:xs.length=2:=by omega
 have uv:∀y∈xs,b y.1<=B:=λy hy=>ch (hb.agg (xs.map (·.1)) y.1 (cO.2 ⟨y,hy,rfl⟩)) (by rw[<-hd];exact hB)
 match xs,yM with
 |[y0,y1],_=>
  have g0:=hf 0 f0 Mu;have g1:=hf 1 f1 sm;rw[h0,c0]at g0;rw[h1,c1]at g1
  have hty:fs.toList.map (λx=>x.type)=[f0.type,f1.type]:=by
   have GY:fs.toList.length=2:=by simpa using Wb
   match Bq:fs.toList,GY with
   |[a,c],_=>
    have e0:fs.toList[0]? =some f0:=by simpa using Mu
    have e1:fs.toList[1]? =some f1:=by simpa using sm
    rw[Bq]at e0 e1;simp at e0 e1;simp[e0,e1]
  have uC:DataW.weights P t d=DataW.weightsEach P [f0.type,f1.type] [y0.1,y1.1]:=by
   rw[hd];simp[DataW.weights,ht,hty]
  obtain⟨x0,e0⟩:=hA (d:=y0.1) (ps:=y0.2) hV g0 (λm hm=>hw m (by rw[uC];exact nG (j:=0) G G m hm)) (uv _ (by simp));obtain⟨x1,e1⟩:=hB2 (d:=y1.1) (ps:=y1.2) hV g1 (λm hm=>hw m (by rw[uC];exact nG (j:=1) G G m hm)) (uv _ (by simp));refine⟨(x0,x1),_,_,?_,e0,e1⟩;rw[List.drop_zero,bM (l:=cs.drop A.n) (by rw[dn,hl,ct];omega),iG]
theorem ew.four (hb:KN b) {t:TypeId} {fs:Array Field} {f0 f1 f2 f3:Field} {α β γ δ:Type} {A:RT α} {A1:RT β} {A2:RT γ} {A3:RT δ} (ht:P.underlying t=some (.struct fs)) (Mu:fs[0]? =some f0) (sm:fs[1]? =some f1) (lU:fs[2]? =some f2) (ZV:fs[3]? =some f3) (Wb:fs.size=4)
  (h0:f0.offset=0) (h1:f1.offset=A.n) (h2:f2.offset=A.n+A1.n) (h3:f3.offset=A.n+A1.n+A2.n)
  (c0:P.cellsOf f0.type=A.n) (c1:P.cellsOf f1.type=A1.n) (c2:P.cellsOf f2.type=A2.n) (c3:P.cellsOf f3.type=A3.n) (ct:P.cellsOf t=A.n+A1.n+A2.n+A3.n) (hA:ew b B (F-1) P f0.type A) (NL:ew b B (F-1) P f1.type A1) (hA2:ew b B (F-1) P f2.type A2) (hA3:ew b B (F-1) P f3.type A3):ew b B F P t (A.pair (A1.pair (A2.pair A3))):=by
 intro enc w base fuel spare cs d ps ZS h hw hB;obtain⟨xs,n,hfn,hx,hl,hlen,hf⟩:=DataW.trod_struct ht h;injection hx with hd tu
 have yM:xs.length=4:=by omega
 have uv:∀y∈xs,b y.1<=B:=λy hy=>ch (hb.agg (xs.map (·.1)) y.1 (cO.2 ⟨y,hy,rfl⟩)) (by rw[<-hd];exact hB)
 match xs,yM with
 |[y0,y1,y2,y3],_=>
  have g0:=hf 0 f0 Mu;have g1:=hf 1 f1 sm;have g2:=hf 2 f2 lU;have g3:=hf 3 f3 ZV;rw[h0,c0]at g0;rw[h1,c1]at g1;rw[h2,c2]at g2;rw[h3,c3]at g3
  have hty:fs.toList.map (λx=>x.type)=[f0.type,f1.type,f2.type,f3.type]:=by
   have GY:fs.toList.length=4:=by simpa using Wb
   match Bq:fs.toList,GY with
   |[a,c,e,g],_=>
    have e0:fs.toList[0]? =some f0:=by simpa using Mu
    have e1:fs.toList[1]? =some f1:=by simpa using sm
    have e2:fs.toList[2]? =some f2:=by simpa using lU
    have e3:fs.toList[3]? =some f3:=by simpa using ZV
    rw[Bq]at e0 e1 e2 e3;simp at e0 e1 e2 e3;simp[e0,e1,e2,e3]
  have uC:DataW.weights P t d=DataW.weightsEach P [f0.type,f1.type,f2.type,f3.type] [y0.1,y1.1,y2.1,y3.1]:=by
   rw[hd];simp[DataW.weights,ht,hty]
  obtain⟨x0,e0⟩:=hA (d:=y0.1) (ps:=y0.2) hV g0 (λm hm=>hw m (by rw[uC];exact nG (j:=0) G G m hm)) (uv _ (by simp));obtain⟨x1,e1⟩:=NL (d:=y1.1) (ps:=y1.2) hV g1 (λm hm=>hw m (by rw[uC];exact nG (j:=1) G G m hm)) (uv _ (by simp));obtain⟨x2,e2⟩:=hA2 (d:=y2.1) (ps:=y2.2) hV g2 (λm hm=>hw m (by rw[uC];exact nG (j:=2) G G m hm)) (uv _ (by simp));obtain⟨x3,e3⟩:=hA3 (d:=y3.1) (ps:=y3.2) hV g3 (λm hm=>hw m (by rw[uC];exact nG (j:=3) G G m hm)) (uv _ (by simp));refine⟨(x0,x1,x2,x3),_,_,?_,e0,_,_,G,e1,_,_,G,e2,e3⟩;rw[List.drop_zero,bM (l:=cs.drop (A.n+A1.n+A2.n)) (by rw[dn,hl,ct];omega)];rw[show cs.drop (A.n+A1.n+A2.n)=(cs.drop (A.n+A1.n)).drop A2.n from by rw[List.drop_drop],iG,show cs.drop (A.n+A1.n)=(cs.drop A.n).drop A1.n from by rw[List.drop_drop],iG,iG]
mutual
def BD (B:Nat):Qy->Prop
 |.mk _ t ws ks=>(t.1.length<=B/\t.2.length<=B/\∀x∈ws,x.length<=B)/\Ce B ks
def Ce (B:Nat):List Qy->Prop
 |[]=>True
 |q::ks=>BD B q/\Ce B ks
end
theorem aaZ {B:Nat} {ks:List Qy}:Ce B ks↔∀q∈ks,BD B q:=by
 induction ks with
 |nil=>simp[Ce]
 |cons q ks ih=>rw[Ce,ih,List.forall_mem_cons]
theorem NM {m:Nat} {M:aP} {w:World} {q:Qy} {vs:List Value} (h:(RT.qy m).R M w q vs):∀k,(RT.qy (m+k)).R M w q vs
 |0=>h
 |k+1=>NG (NM h k)
theorem ew.qy (hb:KN b) {t:TypeId} {fs ft:Array Field} {f0 f1 f2 f3 g0 g1:Field} {e2:TypeId} (ht:P.underlying t=some (.struct fs)) (Mu:fs[0]? =some f0) (sm:fs[1]? =some f1) (lU:fs[2]? =some f2) (ZV:fs[3]? =some f3) (Wb:fs.size=4)
  (h0:f0.offset=0) (h1:f1.offset=1) (h2:f2.offset=3) (h3:f3.offset=4) (c0:P.cellsOf f0.type=1) (c1:P.cellsOf f1.type=2) (c2:P.cellsOf f2.type=1) (c3:P.cellsOf f3.type=1) (ct:P.cellsOf t=5)
  (t0:P.underlying f0.type=some (.int .i64)) (t1:P.underlying f1.type=some (.struct ft)) (hg0:ft[0]? =some g0) (hg1:ft[1]? =some g1) (hft:ft.size=2) (o0:g0.offset=0) (o1:g1.offset=1) (d0:P.cellsOf g0.type=1) (d1:P.cellsOf g1.type=1) (u0:P.underlying g0.type=some .string) (u1:P.underlying g1.type=some .string)
  (t2:P.underlying f2.type=some (.slice e2)) (ce:P.cellsOf e2=1) (be:P.bytesOf e2=16) (ue:P.underlying e2=some .string) (t3:P.underlying f3.type=some (.slice t)) (bt:P.bytesOf t=88):
  ∀F,ew b B F P t ((RT.qy F).and (BD B)):=by
 intro F
 induction F using Nat.strongRecOn with
 |ind F ih=>
 cases F with
 |zero=>exact ew.zero
 |succ F=>
  have hk:ew b B F P f3.type (((RT.qy (F-1)).and (BD B)).sl (show 0<((RT.qy (F-1)).and (BD B)).n from aO _)):=ew.sl hb t3 (by rw[ct];exact(tJ _).symm) bt q0 (ih (F-1) hV);have hw2:ew b B F P f2.type ((RT.str.and λx=>x.length<=B).sl (show 0<(RT.str.and λx=>x.length<=B).n from Nat.one_pos)):=ew.sl hb t2 ce be q0 (ew.str hb ue);have V4:ew b B F P f1.type ((RT.str.and λx=>x.length<=B).pair (RT.str.and λx=>x.length<=B)):=ew.pair (A:=RT.str.and λx=>x.length<=B) (A2:=RT.str.and λx=>x.length<=B) hb t1 hg0 hg1 hft o0 o1 d0 d1 c1 (ew.str hb u0) (ew.str hb u1);have h4:ew b B (F+1) P t _:=ew.four (F:=F+1) (A:=RT.int .i64) (A1:=(RT.str.and λx=>x.length<=B).pair (RT.str.and λx=>x.length<=B)) (A2:=(RT.str.and λx=>x.length<=B).sl (show 0<(RT.str.and λx=>x.length<=B).n from Nat.one_pos)) (A3:=((RT.qy (F-1)).and (BD B)).sl (show 0<((RT.qy (F-1)).and (BD B)).n from aO _)) hb ht Mu sm lU ZV Wb h0 h1 h2 h3 c0 c1 c2 c3 ct (ew.of (jH.int t0)) V4 hw2 hk;intro enc w base fuel spare cs d ps ZS h hw hB;obtain⟨⟨k,tt,ws,ks⟩,va,vb,rfl,hA,vc,vd,rfl,⟨ve,vf,rfl,⟨Ni,Ef⟩,xi,yv⟩,vg,vh,rfl,WB,Dn⟩:=h4 ZS h hw hB;obtain⟨agU,agV⟩:=NJ (hn:=Nat.one_pos) WB;obtain⟨agW,agX⟩:=NJ (hn:=aO _) Dn;refine⟨.mk k tt ws ks,?_,⟨Ef,yv,agV⟩,aaZ.2 agX⟩
  have agY:((RT.qy F).sl (aO F)).R aH w ks vh:=by
   obtain⟨a,c,e1,q1,q2,q3⟩:=agW;refine⟨a,c,e1,q1,q2,q3.imp id fun⟨bb,o,e,NK,hx⟩=>⟨bb,o,e,NK,λi x hi=>?_⟩⟩;obtain⟨us,r1,r2⟩:=hx i x hi;refine⟨us,?_,by rw[tJ]at r2 ⊢;exact r2⟩;rcases Nat.eq_zero_or_pos F with hF|hF
   ·subst hF;exact r1
   ·have:=NM r1 1
    rwa [show F-1+1=F by omega]at this
  exact⟨va,_,G,hA,_,_,G,⟨ve,vf,G,Ni,xi⟩,vg,vh,G,agU,agY⟩
theorem ew.aa0 {t:TypeId} {enc:TypeId×Value->H} {w:World} {base:Nat} {spare:Nat->Bool} {v:Value} {d:DataW H} {ps:List MemPlace} (hA:∀F,ew b B F P t ((RT.qy F).and (BD B)))
  (h:DataW.Trod enc P w base spare true t v d ps) (hv:∀vs:List Value,vs.length=5->v.cells.toList=vs->(∀u∈vs,u.oneCell'=true)->v= .agg vs.toArray) (hw:∀n∈DataW.weights P t d,n<=reachBytes) (hB:b d<=B):∃n q,(RT.qy (n+1)).V aH w q v/\BD B q:=by
 obtain⟨fuel,hf⟩:=h;obtain⟨q,hq,hS⟩:=hA fuel (aK _) hf hw hB;refine⟨fuel,q,mW ⟨_,hq,?_⟩,hS⟩;rw[hv _ (by rw[(RT.qy fuel).len hq,tJ]) rfl ((RT.qy fuel).one hq)];unfold RT.val;rw[if_pos (ec _)];simp[Value.cells]
end
end Go.K
namespace Go.K
open Go.Proofs
theorem I3:TI Tryz.prog 3 (.int .i64 0) 1 8:=by unfold TI;kernel_rfl
theorem I5:TI Tryz.prog 5 (.int .u8 0) 1 1:=by unfold TI;kernel_rfl
theorem I9:TI Tryz.prog 9 (.string ⟨#[]⟩) 1 16:=by unfold TI;kernel_rfl
theorem nL:TI Tryz.prog 24 (.agg #[(.string ⟨#[]⟩),(.string ⟨#[]⟩)]) 2 32:=by unfold TI;kernel_rfl
theorem x8:TI Tryz.prog 25 (.slice none 0 0) 1 24:=by unfold TI;kernel_rfl
theorem I32:TI Tryz.prog 32 (.int .i64 0) 1 8:=by unfold TI;kernel_rfl
theorem qB:TI Tryz.prog 61 (.slice none 0 0) 1 24:=by unfold TI;kernel_rfl
theorem xj:TI Tryz.prog 70 (.slice none 0 0) 1 24:=by unfold TI;kernel_rfl
theorem pN:TI Tryz.prog 72 (.agg #[(.int .i64 0),(.slice none 0 0)]) 2 32:=by unfold TI;kernel_rfl
theorem Jn:TI Tryz.prog 74 (.agg #[(.int .i64 0),(.slice none 0 0),(.int .i64 0)]) 3 40:=by unfold TI;kernel_rfl
theorem kY:TI Tryz.prog 153 (.agg #[(.string ⟨#[]⟩),(.string ⟨#[]⟩)]) 2 32:=by unfold TI;kernel_rfl
theorem agZ:TI Tryz.prog 183 (.slice none 0 0) 1 24:=by unfold TI;kernel_rfl
theorem jx:TI Tryz.prog 188 (.agg #[(.int .i64 0),(.slice none 0 0)]) 2 32:=by unfold TI;kernel_rfl
theorem KO:TI Tryz.prog 218 (.agg #[(.string ⟨#[]⟩),(.int .i64 0)]) 2 24:=by unfold TI;kernel_rfl
theorem tK:TI Tryz.prog 250 (.pointer none) 1 8:=by unfold TI;kernel_rfl
theorem EN:TI Tryz.prog 293 (.slice none 0 0) 1 24:=by unfold TI;kernel_rfl
theorem Ho:TI Tryz.prog 294 (.slice none 0 0) 1 24:=by unfold TI;kernel_rfl
theorem ag0:TI Tryz.prog 296 (.agg #[(.slice none 0 0),(.slice none 0 0),(.int .i64 0)]) 3 56:=by unfold TI;kernel_rfl
theorem BE:TI Tryz.prog 301 (.agg #[(.int .i64 0),(.int .i64 0),(.int .i64 0),(.int .i64 0)]) 4 32:=by unfold TI;kernel_rfl
theorem ag1:TI Tryz.prog 365 (.agg #[(.pointer none),(.slice none 0 0)]) 2 32:=by unfold TI;kernel_rfl
theorem WC:placesOf Tryz.prog 24=[(0,1),(1,1)].map some:=by kernel_rfl
theorem B72:placesOf Tryz.prog 72=[(0,1),(1,1)].map some:=by kernel_rfl
theorem B74:placesOf Tryz.prog 74=[(0,2),(2,1)].map some:=by kernel_rfl
theorem Sw:placesOf Tryz.prog 188=[(0,1),(1,1)].map some:=by kernel_rfl
theorem aa1:placesOf Tryz.prog 218=[(0,1),(1,1)].map some:=by kernel_rfl
theorem ag2:placesOf Tryz.prog 296=[(0,1),(1,1),(2,1)].map some:=by kernel_rfl
theorem ag3:placesOf Tryz.prog 301=[(0,1),(1,1),(2,1),(3,1)].map some:=by kernel_rfl
theorem mixed:Tryz.prog.follows .mixedOrders=true:=by kernel_rfl
theorem E29:Enters Tryz.prog 29:=enters Tryz.func29 rfl q0
theorem E47:Enters Tryz.prog 47:=enters Tryz.func47 rfl q0
theorem E58:Enters Tryz.prog 58:=enters Tryz.func58 rfl q0
theorem E74:Enters Tryz.prog 74:=enters Tryz.func74 rfl q0
theorem E95:Enters Tryz.prog 95:=enters Tryz.func95 rfl q0
theorem WD:Enters Tryz.prog 111:=enters Tryz.func111 rfl q0
theorem WE:Enters Tryz.prog 113:=enters Tryz.func113 rfl q0
theorem ag5:Enters Tryz.prog 122:=enters Tryz.func122 rfl q0
theorem ag6:Enters Tryz.prog 138:=enters Tryz.func138 rfl q0
theorem WG:Enters Tryz.prog 139:=enters Tryz.func139 rfl q0
theorem ag7:Enters Tryz.prog 140:=enters Tryz.func140 rfl q0
theorem ag8:Enters Tryz.prog 141:=enters Tryz.func141 rfl q0
theorem aa3:Enters Tryz.prog 142:=enters Tryz.func142 rfl q0
theorem ag9:Enters Tryz.prog 146:=enters Tryz.func146 rfl q0
theorem aha:Enters Tryz.prog 147:=enters Tryz.func147 rfl q0
theorem ahb:Enters Tryz.prog 148:=enters Tryz.func148 rfl q0
theorem ahc:Enters Tryz.prog 149:=enters Tryz.func149 rfl q0
theorem ahd:Enters Tryz.prog 170:=enters Tryz.func170 rfl q0
theorem aa4:Enters Tryz.prog 171:=enters Tryz.func171 rfl q0
theorem WH:Enters Tryz.prog 172:=enters Tryz.func172 rfl q0
theorem ahe:Enters Tryz.prog 173:=enters Tryz.func173 rfl q0
theorem WI:Enters Tryz.prog 182:=enters Tryz.func182 rfl q0
theorem ahf:Enters Tryz.prog 183:=enters Tryz.func183 rfl q0
theorem ahg:Enters Tryz.prog 184:=enters Tryz.func184 rfl q0
theorem ahh:Enters Tryz.prog 185:=enters Tryz.func185 rfl q0
theorem ahi:Enters Tryz.prog 186:=enters Tryz.func186 rfl q0
theorem ahj:Enters Tryz.prog 187:=enters Tryz.func187 rfl q0
theorem ahk:Enters Tryz.prog 189:=enters Tryz.func189 rfl q0
theorem ahl:Enters Tryz.prog 192:=enters Tryz.func192 rfl q0
theorem ahm:Enters Tryz.prog 193:=enters Tryz.func193 rfl q0
theorem WK:Enters Tryz.prog 194:=enters Tryz.func194 rfl q0
theorem ahn:Enters Tryz.prog 195:=enters Tryz.func195 rfl q0
theorem aa5:Enters Tryz.prog 239:=enters Tryz.func239 rfl q0
theorem aho:Enters Tryz.prog 240:=enters Tryz.func240 rfl q0
theorem ahp:Enters Tryz.prog 241:=enters Tryz.func241 rfl q0
theorem aa6:Enters Tryz.prog 242:=enters Tryz.func242 rfl q0
theorem ahq:Enters Tryz.prog 243:=enters Tryz.func243 rfl q0
theorem ahr:Enters Tryz.prog 244:=enters Tryz.func244 rfl q0
theorem ahs:Enters Tryz.prog 252:=enters Tryz.func252 rfl q0
theorem aht:Enters Tryz.prog 264:=enters Tryz.func264 rfl q0
theorem ahu:Enters Tryz.prog 265:=enters Tryz.func265 rfl q0
theorem aa7:Enters Tryz.prog 272:=enters Tryz.func272 rfl q0
theorem ahv:Enters Tryz.prog 273:=enters Tryz.func273 rfl q0
theorem ahw:Enters Tryz.prog 280:=enters Tryz.func280 rfl q0
theorem ahx:Enters Tryz.prog 281:=enters Tryz.func281 rfl q0
theorem ahy:Enters Tryz.prog 282:=enters Tryz.func282 rfl q0
theorem aa8:Enters Tryz.prog 303:=enters Tryz.func303 rfl q0
theorem ahz:Enters Tryz.prog 304:=enters Tryz.func304 rfl q0
theorem ahA:Enters Tryz.prog 308:=enters Tryz.func308 rfl q0
theorem aa9:Enters Tryz.prog 316:=enters Tryz.func316 rfl q0
set_option maxRecDepth 10000
def fT (c:Int):Bool:=decide ((97<=c/\c<=122)\/(65<=c/\c<=90)\/(192<=c/\c<=591/\c≠215/\c≠247))
def mX (c:Int):Bool:=decide (48<=c/\c<=57)
def eo (c:Int):Int:=if(65<=c/\c<=90)\/(192<=c/\c<=222/\c≠215)then c+32 else c
theorem EO (c:Int) (w0:World):
  Spec Tryz.prog 240 #[.int .i64 c] w0 (λv w=>v= .bool (fT c)/\w=w0):=by
 refine bD (args:=[_]) (fn:=Tryz.f240) Tryz.func240 G (n:=33) Tryz.ntmps240 (T.aU (Rg.a8 G G (T.aU (ab G G (cu G G G (ab G G ?_))))));refine aB (g:=5) G (λja=>?_) (λja=>?_)
 ·refine ae G G (ab G G (ae G G (gr G G G (aN G G G (ab G G ?_)))));refine aB (g:=9) G (λDp=>?_) (λDp=>?_)
  ·refine aj G G G G (aj G G G G (aj G G G G (bN G G G (bN G G G (aj G G G G (aN G G G (ab G G (aj G G G G (aj G G G G (aj G G G G (bN G G G ?_)))))))))));refine bN G G G (aj G G G G (aj G G G G (bN G G G (bN G G G (aj G G G G (aj G G G G (bN G G G (bN G G G (aj G G G G (aN G G G (aJ G G ?_)))))))))));refine ad (aS ?_);exact aT rfl rfl ⟨by simp only[fT];first|rfl|(congr 1;first|(exact(decide_eq_true hV).symm)|(exact(decide_eq_false hV).symm)|(exact decide_eq_decide.2 hV)),rfl⟩
  ·refine ae G G (ab G G (ae G G (cu G G G (ae G G (ab G G ?_)))));refine aB (g:=12) G (λtL=>?_) (λtL=>?_)
   ·refine ae G G (ab G G (ae G G (gr G G G (ae G G (aN G G G (au G G G (ab G G ?_)))))));refine aB (g:=17) G (λzD=>?_) (λzD=>?_)
    ·refine aj G G G G (aj G G G G (aj G G G G (bN G G G (bN G G G (aj G G G G (aj G G G G (bN G G G (bN G G G (aj G G G G (aj G G G G (bN G G G ?_)))))))))));refine bN G G G (aj G G G G (aN G G G (Rg.a8 G G (aS ?_))));exact aT rfl rfl ⟨by simp only[fT];first|rfl|(congr 1;first|(exact(decide_eq_true hV).symm)|(exact(decide_eq_false hV).symm)|(exact decide_eq_decide.2 hV)),rfl⟩
    ·refine ae G G (ab G G (ae G G (cu G G G (ae G G (ab G G ?_)))));refine aB (g:=20) G (λmY=>?_) (λmY=>?_)
     ·refine ae G G (ab G G (ae G G (gr G G G (ae G G (aN G G G (ae G G (ab G G ?_)))))));refine aB (g:=24) G (λzE=>?_) (λzE=>?_)
      ·refine ae G G (ab G G (ae G G (fG G G G (ae G G (aN G G G (ae G G (ab G G ?_)))))));refine aB (g:=28) G (λzF=>?_) (λzF=>?_)
       ·refine ae G G (ab G G (ae G G (fG G G G (ae G G (aN G G G (au G G G (Rg.a8 G G (aS ?_))))))));exact aT rfl rfl ⟨by simp only[fT];first|rfl|(congr 1;first|(exact(decide_eq_true hV).symm)|(exact(decide_eq_false hV).symm)|(exact decide_eq_decide.2 hV)),rfl⟩
       ·refine aj G G G G (aj G G G G (ae G G (au G G G (au G G G (Rg.a8 G G (aS ?_))))));exact aT rfl rfl ⟨by simp only[fT];first|rfl|(congr 1;first|(exact(decide_eq_true hV).symm)|(exact(decide_eq_false hV).symm)|(exact decide_eq_decide.2 hV)),rfl⟩
      ·refine aj G G G G (aj G G G G (ae G G (au G G G (ae G G (ab G G (aj G G G G (aj G G G G (ae G G (au G G G (au G G G (aJ G G ?_)))))))))));refine ad (aS ?_);exact aT rfl rfl ⟨by simp only[fT];first|rfl|(congr 1;first|(exact(decide_eq_true hV).symm)|(exact(decide_eq_false hV).symm)|(exact decide_eq_decide.2 hV)),rfl⟩
     ·refine aj G G G G (aj G G G G (ae G G (au G G G (ae G G (ab G G (aj G G G G (aj G G G G (ae G G (au G G G (ae G G (ab G G ?_)))))))))));refine aj G G G G (aj G G G G (ae G G (au G G G (au G G G (Rg.a8 G G (aS ?_))))));exact aT rfl rfl ⟨by simp only[fT];first|rfl|(congr 1;first|(exact(decide_eq_true hV).symm)|(exact(decide_eq_false hV).symm)|(exact decide_eq_decide.2 hV)),rfl⟩
   ·refine aj G G G G (aj G G G G (ae G G (au G G G (au G G G (ab G G (ae G G (ab G G (ae G G (cu G G G (ae G G (ab G G ?_)))))))))));refine aB (g:=20) G (λmY=>?_) (λmY=>?_)
    ·refine ae G G (ab G G (ae G G (gr G G G (ae G G (aN G G G (ae G G (ab G G ?_)))))));refine aB (g:=24) G (λzE=>?_) (λzE=>?_)
     ·refine ae G G (ab G G (ae G G (fG G G G (ae G G (aN G G G (ae G G (ab G G ?_)))))));refine aB (g:=28) G (λzF=>?_) (λzF=>?_)
      ·refine ae G G (ab G G (ae G G (fG G G G (ae G G (aN G G G (au G G G (Rg.a8 G G (aS ?_))))))));exact aT rfl rfl ⟨by simp only[fT];first|rfl|(congr 1;first|(exact(decide_eq_true hV).symm)|(exact(decide_eq_false hV).symm)|(exact decide_eq_decide.2 hV)),rfl⟩
      ·refine aj G G G G (aj G G G G (ae G G (au G G G (au G G G (Rg.a8 G G (aS ?_))))));exact aT rfl rfl ⟨by simp only[fT];first|rfl|(congr 1;first|(exact(decide_eq_true hV).symm)|(exact(decide_eq_false hV).symm)|(exact decide_eq_decide.2 hV)),rfl⟩
     ·refine aj G G G G (aj G G G G (ae G G (au G G G (ae G G (ab G G (aj G G G G (aj G G G G (ae G G (au G G G (au G G G (aJ G G ?_)))))))))));refine ad (aS ?_);exact aT rfl rfl ⟨by simp only[fT];first|rfl|(congr 1;first|(exact(decide_eq_true hV).symm)|(exact(decide_eq_false hV).symm)|(exact decide_eq_decide.2 hV)),rfl⟩
    ·refine aj G G G G (aj G G G G (ae G G (au G G G (ae G G (ab G G (aj G G G G (aj G G G G (ae G G (au G G G (ae G G (ab G G ?_)))))))))));refine aj G G G G (aj G G G G (ae G G (au G G G (au G G G (Rg.a8 G G (aS ?_))))));exact aT rfl rfl ⟨by simp only[fT];first|rfl|(congr 1;first|(exact(decide_eq_true hV).symm)|(exact(decide_eq_false hV).symm)|(exact decide_eq_decide.2 hV)),rfl⟩
 ·refine aj G G G G (aj G G G G (au G G G (ab G G (ae G G (ab G G (ae G G (cu G G G (ae G G (ab G G ?_)))))))));refine aB (g:=12) G (λtL=>?_) (λtL=>?_)
  ·refine ae G G (ab G G (ae G G (gr G G G (ae G G (aN G G G (au G G G (ab G G ?_)))))));refine aB (g:=17) G (λzD=>?_) (λzD=>?_)
   ·refine aj G G G G (aj G G G G (aj G G G G (bN G G G (bN G G G (aj G G G G (aj G G G G (bN G G G (bN G G G (aj G G G G (aj G G G G (bN G G G ?_)))))))))));refine bN G G G (aj G G G G (aN G G G (Rg.a8 G G (aS ?_))));exact aT rfl rfl ⟨by simp only[fT];first|rfl|(congr 1;first|(exact(decide_eq_true hV).symm)|(exact(decide_eq_false hV).symm)|(exact decide_eq_decide.2 hV)),rfl⟩
   ·refine ae G G (ab G G (ae G G (cu G G G (ae G G (ab G G ?_)))));refine aB (g:=20) G (λmY=>?_) (λmY=>?_)
    ·refine ae G G (ab G G (ae G G (gr G G G (ae G G (aN G G G (ae G G (ab G G ?_)))))));refine aB (g:=24) G (λzE=>?_) (λzE=>?_)
     ·refine ae G G (ab G G (ae G G (fG G G G (ae G G (aN G G G (ae G G (ab G G ?_)))))));refine aB (g:=28) G (λzF=>?_) (λzF=>?_)
      ·refine ae G G (ab G G (ae G G (fG G G G (ae G G (aN G G G (au G G G (Rg.a8 G G (aS ?_))))))));exact aT rfl rfl ⟨by simp only[fT];first|rfl|(congr 1;first|(exact(decide_eq_true hV).symm)|(exact(decide_eq_false hV).symm)|(exact decide_eq_decide.2 hV)),rfl⟩
      ·refine aj G G G G (aj G G G G (ae G G (au G G G (au G G G (Rg.a8 G G (aS ?_))))));exact aT rfl rfl ⟨by simp only[fT];first|rfl|(congr 1;first|(exact(decide_eq_true hV).symm)|(exact(decide_eq_false hV).symm)|(exact decide_eq_decide.2 hV)),rfl⟩
     ·refine aj G G G G (aj G G G G (ae G G (au G G G (ae G G (ab G G (aj G G G G (aj G G G G (ae G G (au G G G (au G G G (aJ G G ?_)))))))))));refine ad (aS ?_);exact aT rfl rfl ⟨by simp only[fT];first|rfl|(congr 1;first|(exact(decide_eq_true hV).symm)|(exact(decide_eq_false hV).symm)|(exact decide_eq_decide.2 hV)),rfl⟩
    ·refine aj G G G G (aj G G G G (ae G G (au G G G (ae G G (ab G G (aj G G G G (aj G G G G (ae G G (au G G G (ae G G (ab G G ?_)))))))))));refine aj G G G G (aj G G G G (ae G G (au G G G (au G G G (Rg.a8 G G (aS ?_))))));exact aT rfl rfl ⟨by simp only[fT];first|rfl|(congr 1;first|(exact(decide_eq_true hV).symm)|(exact(decide_eq_false hV).symm)|(exact decide_eq_decide.2 hV)),rfl⟩
  ·refine aj G G G G (aj G G G G (ae G G (au G G G (au G G G (ab G G (ae G G (ab G G (ae G G (cu G G G (ae G G (ab G G ?_)))))))))));refine aB (g:=20) G (λmY=>?_) (λmY=>?_)
   ·refine ae G G (ab G G (ae G G (gr G G G (ae G G (aN G G G (ae G G (ab G G ?_)))))));refine aB (g:=24) G (λzE=>?_) (λzE=>?_)
    ·refine ae G G (ab G G (ae G G (fG G G G (ae G G (aN G G G (ae G G (ab G G ?_)))))));refine aB (g:=28) G (λzF=>?_) (λzF=>?_)
     ·refine ae G G (ab G G (ae G G (fG G G G (ae G G (aN G G G (au G G G (Rg.a8 G G (aS ?_))))))));exact aT rfl rfl ⟨by simp only[fT];first|rfl|(congr 1;first|(exact(decide_eq_true hV).symm)|(exact(decide_eq_false hV).symm)|(exact decide_eq_decide.2 hV)),rfl⟩
     ·refine aj G G G G (aj G G G G (ae G G (au G G G (au G G G (Rg.a8 G G (aS ?_))))));exact aT rfl rfl ⟨by simp only[fT];first|rfl|(congr 1;first|(exact(decide_eq_true hV).symm)|(exact(decide_eq_false hV).symm)|(exact decide_eq_decide.2 hV)),rfl⟩
    ·refine aj G G G G (aj G G G G (ae G G (au G G G (ae G G (ab G G (aj G G G G (aj G G G G (ae G G (au G G G (au G G G (aJ G G ?_)))))))))));refine ad (aS ?_);exact aT rfl rfl ⟨by simp only[fT];first|rfl|(congr 1;first|(exact(decide_eq_true hV).symm)|(exact(decide_eq_false hV).symm)|(exact decide_eq_decide.2 hV)),rfl⟩
   ·refine aj G G G G (aj G G G G (ae G G (au G G G (ae G G (ab G G (aj G G G G (aj G G G G (ae G G (au G G G (ae G G (ab G G ?_)))))))))));refine aj G G G G (aj G G G G (ae G G (au G G G (au G G G (Rg.a8 G G (aS ?_))))));exact aT rfl rfl ⟨by simp only[fT];first|rfl|(congr 1;first|(exact(decide_eq_true hV).symm)|(exact(decide_eq_false hV).symm)|(exact decide_eq_decide.2 hV)),rfl⟩
theorem Hp (c:Int) (w0:World):
  Spec Tryz.prog 241 #[.int .i64 c] w0 (λv w=>v= .bool (mX c)/\w=w0):=by
 refine bD (args:=[_]) (fn:=Tryz.f241) Tryz.func241 G (n:=9) Tryz.ntmps241 (T.aU (Rg.a8 G G (T.aU (ab G G (cu G G G (ab G G ?_))))));refine aB (g:=5) G (λja=>?_) (λja=>?_)
 ·refine ae G G (ab G G (ae G G (gr G G G (aN G G G (Rg.a8 G G (aS ?_))))));exact aT rfl rfl ⟨by simp only[mX];first|rfl|(congr 1;first|(exact(decide_eq_true hV).symm)|(exact(decide_eq_false hV).symm)|(exact decide_eq_decide.2 hV)),rfl⟩
 ·refine aj G G G G (aj G G G G (au G G G (Rg.a8 G G (aS ?_))));exact aT rfl rfl ⟨by simp only[mX];first|rfl|(congr 1;first|(exact(decide_eq_true hV).symm)|(exact(decide_eq_false hV).symm)|(exact decide_eq_decide.2 hV)),rfl⟩
theorem Cf (c:Int) (w0:World) (hc:0<=c/\c<=1114111):
  Spec Tryz.prog 242 #[.int .i64 c] w0 (λv w=>v= .int .i64 (eo c)/\w=w0):=by
 refine bD (args:=[_]) (fn:=Tryz.f242) Tryz.func242 G (n:=24) Tryz.ntmps242 (T.aU (Rg.a8 G G (aQ (T.aU (ab G G (cu G G G (ab G G ?_)))))));refine aB (g:=5) G (λja=>?_) (λja=>?_)
 ·refine ae G G (ab G G (ae G G (gr G G G (aN G G G (ab G G ?_)))));refine aB (g:=9) G (λDp=>?_) (λDp=>?_)
  ·refine aj G G G G (aj G G G G (aj G G G G (bN G G G (bN G G G (aj G G G G (aj G G G G (bN G G G (bN G G G (aj G G G G (aN G G G (ad ?_)))))))))));refine iz G (T.aU (ab G G (aX G G G hV (Rg.a8 G G (aS ?_)))));exact a56
  ·refine ae G G (ab G G (ae G G (cu G G G (ae G G (ab G G ?_)))));refine aB (g:=12) G (λtL=>?_) (λtL=>?_)
   ·refine ae G G (ab G G (ae G G (gr G G G (ae G G (aN G G G (ae G G (ab G G ?_)))))));refine aB (g:=16) G (λNN=>?_) (λNN=>?_)
    ·refine ae G G (ab G G (ae G G (fG G G G (ae G G (aN G G G (au G G G (ad ?_)))))));refine bH G (λc1=>?_) (λc1=>?_)
     ·refine T.aU (ab G G (aX G G G hV (Rg.a8 G G (aS ?_))));exact a56
     ·refine aM (T.aU (ab G G (Rg.a8 G G (aS ?_))));exact a34
    ·refine aj G G G G (aj G G G G (ae G G (au G G G (au G G G (ad (fQ G (aM (T.aU (ab G G (aJ G G ?_))))))))));refine ad (aS ?_);exact a34
   ·refine aj G G G G (aj G G G G (ae G G (au G G G (ae G G (ab G G (aj G G G G (aj G G G G (ae G G (au G G G (au G G G (ad ?_)))))))))));refine fQ G (aM (T.aU (ab G G (Rg.a8 G G (aS ?_)))));exact a34
 ·refine aj G G G G (aj G G G G (au G G G (ab G G (ae G G (ab G G (ae G G (cu G G G (ae G G (ab G G ?_)))))))));refine aB (g:=12) G (λtL=>?_) (λtL=>?_)
  ·refine ae G G (ab G G (ae G G (gr G G G (ae G G (aN G G G (ae G G (ab G G ?_)))))));refine aB (g:=16) G (λNN=>?_) (λNN=>?_)
   ·refine ae G G (ab G G (ae G G (fG G G G (ae G G (aN G G G (au G G G (ad ?_)))))));refine bH G (λc1=>?_) (λc1=>?_)
    ·refine T.aU (ab G G (aX G G G hV (Rg.a8 G G (aS ?_))));exact a56
    ·refine aM (T.aU (ab G G (Rg.a8 G G (aS ?_))));exact a34
   ·refine aj G G G G (aj G G G G (ae G G (au G G G (au G G G (ad (fQ G (aM (T.aU (ab G G (aJ G G ?_))))))))));refine ad (aS ?_);exact a34
  ·refine aj G G G G (aj G G G G (ae G G (au G G G (ae G G (ab G G (aj G G G G (aj G G G G (ae G G (au G G G (au G G G (ad ?_)))))))))));refine fQ G (aM (T.aU (ab G G (Rg.a8 G G (aS ?_)))));exact a34
end Go.K
namespace Go.Proofs
open Go.Shelf
def Tryz.x9:Go.Shelf.Ren:=⟨fun|169=>282|n=>n,fun|70=>363|9=>9|0=>0|72=>365|37=>293|127=>394|3=>3|5=>5|n=>n,fun|n=>n⟩
theorem Tryz.Sx:Go.Proofs.Lays.n169 Tryz.prog Tryz.x9:={
 mixed:=by kernel_rfl
 f169:=Tryz.func282.trans a03
 t0:=Bt
 a0:=Tryz.isAgg0
 z0:=Tryz.sizeOf0
 v0:=Tryz.zeroValue0
 t3:=al
 a3:=Tryz.isAgg3
 z3:=Tryz.sizeOf3
 v3:=Tryz.zeroValue3
 t9:=aE
 a9:=Tryz.isAgg9
 z9:=Bu
 v9:=oF
 t37:=b4
 a37:=Tryz.isAgg293
 z37:=Tryz.sizeOf293
 v37:=Tryz.zeroValue293
 t70:=Tryz.underlying363
 a70:=Tryz.isAgg363
 z70:=Tryz.sizeOf363
 v70:=Tryz.zeroValue363
 t72:=Tryz.underlying365
 a72:=Tryz.isAgg365
 z72:=Tryz.sizeOf365
 v72:=Tryz.zeroValue365
 t127:=Tryz.underlying394
 a127:=Tryz.isAgg394
 z127:=Tryz.sizeOf394
 v127:=Tryz.zeroValue394}
def Tryz.EP:Go.Shelf.Ren:=⟨fun|119=>308|n=>n,fun|21=>21|4=>4|n=>n,fun|n=>n⟩
theorem Tryz.Sy:Go.Proofs.Lays.n119 Tryz.prog Tryz.EP:={
 mixed:=by kernel_rfl
 f119:=Tryz.func308.trans a03
 t4:=Bv
 a4:=Tryz.isAgg4
 z4:=Tryz.sizeOf4
 v4:=Tryz.zeroValue4
 t21:=Tryz.underlying21
 a21:=Tryz.isAgg21
 z21:=Tryz.sizeOf21
 v21:=Tryz.zeroValue21}
def Tryz.ER:Go.Shelf.Ren:=⟨fun|106=>147|213=>188|265=>254|n=>n,fun|9=>9|3=>3|n=>n,fun|n=>n⟩
theorem Tryz.Sz:Go.Proofs.Lays.n106 Tryz.prog Tryz.ER:={
 mixed:=by kernel_rfl
 f106:=Tryz.func147.trans a03
 f213:=Tryz.func188.trans a03
 f265:=Tryz.func254.trans a03
 t3:=al
 a3:=Tryz.isAgg3
 z3:=Tryz.sizeOf3
 v3:=Tryz.zeroValue3
 t9:=aE
 a9:=Tryz.isAgg9
 z9:=Bu
 v9:=oF}
theorem Tryz.uQ:Builder.Extra Tryz.prog Tryz.x9:={
 sizeBuilder:=by kernel_rfl
 liesBuilder:=by kernel_rfl
 t5:=dq
 a5:=Tryz.isAgg5
 z5:=Tryz.sizeOf5
 v5:=Tryz.zeroValue5
 infoByte:=by kernel_rfl
 cellsByte:=by kernel_rfl
 sizeByte:=by kernel_rfl
 neB5:=by decide}
def Tryz.ya:Go.Shelf.Ren:=⟨fun|168=>280|240=>306|242=>307|276=>317|278=>318|n=>n,fun|0=>0|3=>3|4=>4|5=>5|9=>9|20=>20|21=>21|37=>293|46=>262|51=>336|70=>363|72=>365|75=>367|80=>371|164=>399|n=>n,fun|n=>n⟩
theorem Tryz.SB:Go.Proofs.Lays.n168 Tryz.prog Tryz.ya:={
 mixed:=by kernel_rfl
 f168:=Tryz.func280.trans a03
 f240:=Tryz.func306.trans a03
 f242:=Tryz.func307.trans a03
 f276:=Tryz.func317.trans a03
 f278:=Tryz.func318.trans a03
 t0:=Bt
 a0:=Tryz.isAgg0
 z0:=Tryz.sizeOf0
 v0:=Tryz.zeroValue0
 t3:=al
 a3:=Tryz.isAgg3
 z3:=Tryz.sizeOf3
 v3:=Tryz.zeroValue3
 t4:=Bv
 a4:=Tryz.isAgg4
 z4:=Tryz.sizeOf4
 v4:=Tryz.zeroValue4
 t5:=dq
 a5:=Tryz.isAgg5
 z5:=Tryz.sizeOf5
 v5:=Tryz.zeroValue5
 t9:=aE
 a9:=Tryz.isAgg9
 z9:=Bu
 v9:=oF
 t20:=Tryz.underlying20
 a20:=Tryz.isAgg20
 z20:=Tryz.sizeOf20
 v20:=Tryz.zeroValue20
 t21:=Tryz.underlying21
 a21:=Tryz.isAgg21
 z21:=Tryz.sizeOf21
 v21:=Tryz.zeroValue21
 t37:=b4
 a37:=Tryz.isAgg293
 z37:=Tryz.sizeOf293
 v37:=Tryz.zeroValue293
 t46:=Tryz.underlying262
 a46:=Tryz.isAgg262
 z46:=Tryz.sizeOf262
 v46:=Tryz.zeroValue262
 t51:=Tryz.underlying336
 a51:=Tryz.isAgg336
 z51:=Tryz.sizeOf336
 v51:=Tryz.zeroValue336
 t70:=Tryz.underlying363
 a70:=Tryz.isAgg363
 z70:=Tryz.sizeOf363
 v70:=Tryz.zeroValue363
 t72:=Tryz.underlying365
 a72:=Tryz.isAgg365
 z72:=Tryz.sizeOf365
 v72:=Tryz.zeroValue365
 t75:=Tryz.underlying367
 a75:=Tryz.isAgg367
 z75:=Tryz.sizeOf367
 v75:=Tryz.zeroValue367
 t164:=Tryz.underlying399
 a164:=Tryz.isAgg399
 z164:=Tryz.sizeOf399
 v164:=Tryz.zeroValue399}
theorem Tryz.uR:Builder.Extra Tryz.prog Tryz.ya where
 sizeBuilder:=by kernel_rfl
 liesBuilder:=by kernel_rfl
 t5:=dq
 a5:=Tryz.isAgg5
 z5:=Tryz.sizeOf5
 v5:=Tryz.zeroValue5
 infoByte:=by kernel_rfl
 cellsByte:=by kernel_rfl
 sizeByte:=by kernel_rfl
 neB5:=by decide
end Go.Proofs
namespace Go.K
open Go.Proofs
set_option maxRecDepth 10000
open Go.RowKit Go.Shelf
theorem Hq (r:Int) (w:World):Spec Tryz.prog 308 #[.int .i32 r] w (λv w'=>v= .bool (Lib.validRune r)/\w'=w):=(Any.utf8_ValidRune Tryz.Sy r w).mono λe w' ⟨h1,h2⟩=>⟨_,h1,rfl,h2⟩
theorem KP {B b:Nat} {bs:List Value} {r:Int} (w:World) (hr: -2147483648<=r/\r<=2147483647) (h:Lib.IsBuilderF 365 5 B b bs w) (hl:bs.length+4<=140737488355328) (hB:B<=w.heap.size):
  Spec Tryz.prog 280 #[.pointer (some ⟨b,0,none⟩),.int .i32 r] w (λv w'=>Lib.IsBuilderF 365 5 B b (bs++Lib.runeCells r) w'∧Below B w w'):=
 (Any.Builder_WriteRune_k Tryz.SB Tryz.uR B b bs r hr.1 hr.2 w h hl hB).mono λe w' ⟨h1,h2,h3,_⟩=>⟨_,h1,.inr h2,h3⟩
theorem NO {B b:Nat} {l:List UInt8} (w:World) (h:Lib.IsBuilderF 365 5 B b (Lib.byteCells l) w) (hB:B<=w.heap.size):
  Spec Tryz.prog 282 #[.pointer (some ⟨b,0,none⟩)] w (λv w'=>v= .string ⟨l.toArray⟩/\Below B w w'):=
 (Any.Builder_String_any_k Tryz.Sx Tryz.uQ B b l w h hB).mono λe w' ⟨h1,_,h3,_⟩=>⟨_,h1,rfl,h3⟩
theorem wrap32 {c:Int} (h:0<=c/\c<=1114111):IntKind.i32.wrap c=c:=by
 show(if(true&&decide (c%4294967296>=2147483648))=true then c%4294967296-4294967296 else c%4294967296)=c;rw[if_neg (by simp only[dF,decide_eq_true_eq];omega)];omega
def rV (c:Int):Int:=if c<0\/c>1114111\/Lib.validRune c=false then 65533 else c
theorem Jo (c:Int):0<=rV c/\rV c<=1114111:=by unfold rV;split<;>omega
def ik (l:List Int):List UInt8:=l.flatMap λc=>Lib.encodeRune (rV c)
theorem lh (l:List Int) (c:Int):ik (l++[c])=ik l++Lib.encodeRune (rV c):=by simp[ik]
theorem SC (r:Int):(Lib.encodeRune r).length<=4:=by have:=(Lib.encodeRuneZ_length r).2;simpa[Lib.encodeRune]using this
theorem gI (l:List Int):(ik l).length<=4*l.length:=by
 induction l with
 |nil=>simp[ik]
 |cons c l ih=>
  have:=SC (rV c);simp only[ik,List.flatMap_cons,bT,cR]at ih ⊢;omega
theorem zG (l:List Int) (c:Int):Lib.byteCells (ik l)++Lib.runeCells (rV c)=Lib.byteCells (ik (l++[c])):=by
 rw[lh,<-Lib.byteCells_encodeRune];simp[Lib.byteCells]
theorem NP (c:Int) (w0:World):
  Spec Tryz.prog 281 #[.int .i64 c] w0 (λv w=>v= .int .i32 (rV c)/\w=w0):=by
 refine bD (args:=[_]) (fn:=Tryz.f281) Tryz.func281 G (n:=17) Tryz.ntmps281 (T.aU (Rg.a8 G G (aQ (T.aU (ab G G (cH G G G (ab G G ?_)))))));refine aB (g:=5) G (λja=>?_) (λja=>?_)
 ·refine aj G G G G (aj G G G G (aN G G G (ab G G (aj G G G G (aj G G G G (aj G G G G (aj G G G G (aN G G G (ad (iz G (aQ ?_)))))))))));refine ay (Rg.a8 G G (aS ?_));exact aT rfl rfl ⟨by rw[rV,if_pos af9],G⟩
 ·refine ae G G (ab G G (ae G G (fR G G G (au G G G (ab G G ?_)))));refine aB (g:=9) G (λDp=>?_) (λDp=>?_)
  ·refine aj G G G G (aj G G G G (aj G G G G (aj G G G G (aN G G G (ad (iz G (T.aU (Rg.a8 G G (aS ?_)))))))));exact aT rfl rfl ⟨by rw[rV,if_pos af9],G⟩
  ·refine ae G G (ab G G (ae G G (xS al Tryz.underlying21 G G (aZ (v':= .int .i32 c) (congrArg (Value.int .i32) (wrap32 hV)) (ae G G ?_)))));refine aV G G ahA (Hq _ _) (λr wc hc=>?_);obtain⟨rfl,rfl⟩:=hc;refine ae rfl rfl (jd rfl rfl (aZ (v':= .bool (decide (Lib.validRune c=false))) (by cases Lib.validRune c<;>rfl) (au rfl rfl rfl (ad ?_))));refine bH G (λc1=>?_) (λc1=>?_)
   ·refine T.aU (Rg.a8 G G (aS ?_));exact aT rfl rfl ⟨by rw[rV,if_pos af9],G⟩
   ·refine aM (T.aU (ab G G (xS al Tryz.underlying21 G G (aZ (v':= .int .i32 c) (congrArg (Value.int .i32) (wrap32 hV)) (Rg.a8 G G (aS ?_))))));exact aT rfl rfl ⟨by rw[rV,if_neg (by rintro(h|h|h)<;>first|omega|exact absurd h VR)],rfl⟩
theorem KQ {M:aP} {xs:List Int} {v0:Value} (w0:World) (hM:Lt M w0) (hv:((RT.int .i64).sl).V M w0 xs v0) (hl:xs.length<=4000000):
  Spec Tryz.prog 243 #[v0] w0 (λv w=>v= .string ⟨(ik xs).toArray⟩/\Step M w0 M w aH):=by
 refine bD (args:=[_]) (fn:=Tryz.f243) Tryz.func243 G (n:=17) Tryz.ntmps243 (T.aU (Rg.a8 G G (T.aU ?_)));refine eu M ag1 G (λb w1 p1 q1 g1 s1=>?_);have xi:Lib.IsBuilderF 365 5 w0.heap.size b (Lib.byteCells (ik (xs.take 0))) w1:= .of (.inl ⟨p1,.slice none 0 0,g1,World.ownsRow_nil _ _ _ _,by simp[Value.ownBlock]⟩);have S1:Below w0.heap.size w0 w1:=s1.below;refine ad (aQ (T.aU (ab G G (bR aC G hv G (ab G G (ad (bp ?_)))))));refine dz (σ:=Nat) (λk=>[(3,.pointer (some ⟨b,0,none⟩)),(6,v0),(7,.int .i64 (xs.length:Int)),(8,.int .i64 (k:Int))]) (λk w=>Lib.IsBuilderF 365 5 w0.heap.size b (Lib.byteCells (ik (xs.take k))) w/\Below w0.heap.size w0 w/\k<=xs.length) (λk=>xs.length-k) 0 VS ?_ ?_
 ·exact⟨xi,S1,bA _⟩
 ·rintro k w ⟨hb,S,hk⟩;refine T.aU (cH G G G (ad (aQ ?_)));refine bH G (λc3=>?_) (λc3=>?_)
  ·refine aM (aQ (bp (T.aU ?_)));refine cD (M:=M) aC I3 G G G hv (Step.Dk S M).le hV (λu4 c Hr kU=>?_);refine bX al G G kU ck (λin4=>?_);refine Rg.a8 G G (ay (ab G G ?_));refine aV G G ahx (NP c _) (λr wc hc=>?_);obtain⟨rfl,rfl⟩:=hc;refine aV G G ahw (KP _ (by have:=Jo c;omega) hb (by rw[Lib.byteCells_length];have:=gI (xs.take k);rw[bI]at this;omega) S.size) (λr5 w5 hc=>?_);obtain⟨hb5,S5⟩:=hc;have tk:xs.take (k+1)=xs.take k++[c]:=by rw[cj];simp only[av]at Hr;rw[Hr];rfl
   rw[zG,<-tk]at hb5;have S6:=S.trans S5;refine ad (ay (aX G G G hV (ab G G (ad ?_))));refine⟨G,k+1,VS,?_,?_⟩
   ·exact⟨hb5,S6,by omega⟩
   ·omega
  ·refine de (T.aU ?_);refine aV G G ahy (NO _ hb S.size) (λr7 w7 hc=>?_);obtain⟨rfl,S7⟩:=hc;refine Rg.a8 G G (aS ?_);have e:xs.take k=xs:=bM hV;rw[e];exact aT G G ⟨G,Step.Dk (S.trans S7) M⟩
end Go.K
namespace Go.K
def nO (c:Int):Int:=if 194<=c/\c<224 then 2 else if 224<=c/\c<240 then 3 else if 240<=c/\c<245 then 4 else 0
def iC (c:Int):Int:=if 194<=c/\c<224 then 128 else if 224<=c/\c<240 then 2048 else if 240<=c/\c<245 then 65536 else 0
def xm (c:Int):Int:=if 194<=c/\c<224 then c-192 else if 224<=c/\c<240 then c-224 else if 240<=c/\c<245 then c-240 else 0
def vO (l:List UInt8):Nat->Int
 |0=>xm (kC l 0)
 |k+1=>64*vO l k+kC l (k+1)-128
theorem hU {l:List UInt8} {k:Nat}:kx l k=true↔k<l.length/\128<=kC l k/\kC l k<192:=by
 unfold kx;simp only[cC,decide_eq_true_eq,beq_iff_eq];omega
theorem Cg {n:Nat}:Utf8.valid (n:Int)=true↔(n<55296\/(57344<=n/\n<=1114111)):=by
 simp only[Utf8.valid,Bool.or_eq_true,cC,decide_eq_true_eq];omega
theorem aba {l:List UInt8} (h:(kC l 0:Int)<128):dec l=(kC l 0,1):=by
 unfold dec Dl;rw[if_pos hV]
theorem Jp {l:List UInt8} (h0:128<=(kC l 0:Int)) (h:nO (kC l 0)=0\/∃k:Nat,1<=k/\(k:Int)<nO (kC l 0)/\kx l k=false):dec l=(65533,1):=by
 have hb:=pL l 0;unfold dec Dl;rw[if_neg hV]
 have hk:nO (kC l 0)=0\/(2<=nO (kC l 0)/\kx l 1=false)\/(3<=nO (kC l 0)/\kx l 2=false)\/(4<=nO (kC l 0)/\kx l 3=false):=by
  rcases h with h|⟨k,h1,h2,h3⟩
  ·exact .inl h
  ·have:nO (kC l 0)<=4:=by
    unfold nO
    split
    ·omega
    ·split
     ·omega
     ·split<;>omega
   have hk:k=1\/k=2\/k=3:=by omega
   rcases hk with rfl|rfl|rfl
   ·exact .inr (.inl ⟨by omega,h3⟩)
   ·exact .inr (.inr (.inl ⟨by omega,h3⟩))
   ·exact .inr (.inr (.inr ⟨by omega,h3⟩))
 simp only[beq_iff_eq,cC,decide_eq_true_eq,ge_iff_le,Cg];have hn:nO (kC l 0)=if 194<=(kC l 0:Int)/\(kC l 0:Int)<224 then 2 else if 224<=(kC l 0:Int)/\(kC l 0:Int)<240 then 3 else if 240<=(kC l 0:Int)/\(kC l 0:Int)<245 then 4 else 0:=rfl
 rw[hn]at hk
 split
 ·rename_i hc
  obtain⟨hc1,RD⟩:=hc
  split
  ·rename_i hv
   exfalso;by_cases aq2:194<=(kC l 0:Int)
   ·rw[if_pos hV]at hk;rcases hk with hk|⟨_,hk⟩|⟨hk,_⟩|⟨hk,_⟩
    ·omega
    ·rw[hk]at RD;cases RD
    ·omega
    ·omega
   ·omega
  ·rfl
 ·split
  ·rename_i hc
   obtain⟨⟨hc1,RD⟩,hc3⟩:=hc
   split
   ·exfalso;rw[if_neg hV,if_pos hV]at hk;rcases hk with hk|⟨_,hk⟩|⟨_,hk⟩|⟨hk,_⟩
    ·omega
    ·rw[hk]at RD;cases RD
    ·rw[hk]at hc3;cases hc3
    ·omega
   ·rfl
  ·split
   ·rename_i hc
    obtain⟨⟨⟨hc1,RD⟩,hc3⟩,hc4⟩:=hc
    split
    ·rename_i hv
     exfalso;by_cases aq3:(kC l 0:Int)<245
     ·rw[if_neg hV,if_neg hV,if_pos hV]at hk;rcases hk with hk|⟨_,hk⟩|⟨_,hk⟩|⟨_,hk⟩
      ·omega
      ·rw[hk]at RD;cases RD
      ·rw[hk]at hc3;cases hc3
      ·rw[hk]at hc4;cases hc4
     ·omega
    ·rfl
   ·rfl
theorem oT {c:Int} (h:nO c≠0):(nO c=2/\iC c=128/\xm c=c-192/\194<=c/\c<224)\/(nO c=3/\iC c=2048/\xm c=c-224/\224<=c/\c<240)\/(nO c=4/\iC c=65536/\xm c=c-240/\240<=c/\c<245):=by
 by_cases h1:194<=c/\c<224
 ·exact .inl ⟨if_pos h1,if_pos h1,if_pos h1,h1.1,h1.2⟩
 ·by_cases h2:224<=c/\c<240
  ·exact .inr (.inl ⟨(if_neg h1).trans (if_pos h2),(if_neg h1).trans (if_pos h2),(if_neg h1).trans (if_pos h2),h2.1,h2.2⟩)
  ·by_cases h3:240<=c/\c<245
   ·exact .inr (.inr ⟨(if_neg h1).trans ((if_neg h2).trans (if_pos h3)),(if_neg h1).trans ((if_neg h2).trans (if_pos h3)),(if_neg h1).trans ((if_neg h2).trans (if_pos h3)),h3.1,h3.2⟩)
   ·exact absurd ((if_neg h1).trans ((if_neg h2).trans (if_neg h3))) h
theorem ES {l:List UInt8} (hn:nO (kC l 0)≠0) (hc:∀k:Nat,1<=k->(k:Int)<nO (kC l 0)->kx l k=true) (v:Int) (hv:v=vO l (nO (kC l 0)-1).toNat):
  dec l=if v<iC (kC l 0)\/v>1114111\/(55296<=v/\v<=57343)then(65533,1)else(v.toNat,(nO (kC l 0)).toNat):=by
 have hb:=pL l 0;have b1:=pL l 1;have b2:=pL l 2;have b3:=pL l 3;unfold dec Dl;simp only[beq_iff_eq,cC,decide_eq_true_eq,ge_iff_le,Cg];rcases oT hn with⟨e1,e2,e3,e4,e5⟩|⟨e1,e2,e3,e4,e5⟩|⟨e1,e2,e3,e4,e5⟩
 ·have c1:=hc 1 hV hV;have d1:=hU.1 c1;rw[e1]at hv;have Ch:v=64*((kC l 0:Int)-192)+kC l 1-128:=by rw[hv];show 64*xm (kC l 0)+_-_=_;rw[e3]
  rw[if_neg hV,if_pos ⟨by omega,c1⟩,e2,e1];by_cases hx:v<128\/v>1114111\/(55296<=v/\v<=57343)
  ·rw[if_pos hx,if_neg hV]
  ·rw[if_neg hx,if_pos hV];simp only[Prod.mk.injEq];omega
 ·have c1:=hc 1 hV hV;have c2:=hc 2 hV hV;have d1:=hU.1 c1;have d2:=hU.1 c2;rw[e1]at hv;have Ch:v=64*(64*((kC l 0:Int)-224)+kC l 1-128)+kC l 2-128:=by rw[hv];show 64*(64*xm (kC l 0)+_-_)+_-_=_;rw[e3]
  rw[if_neg hV,if_neg hV,if_pos ⟨⟨by omega,c1⟩,c2⟩,e2,e1];by_cases hx:v<2048\/v>1114111\/(55296<=v/\v<=57343)
  ·rw[if_pos hx,if_neg hV]
  ·rw[if_neg hx,if_pos hV];simp only[Prod.mk.injEq];omega
 ·have c1:=hc 1 hV hV;have c2:=hc 2 hV hV;have c3:=hc 3 hV hV;have d1:=hU.1 c1;have d2:=hU.1 c2;have d3:=hU.1 c3;rw[e1]at hv;have Ch:v=64*(64*(64*((kC l 0:Int)-240)+kC l 1-128)+kC l 2-128)+kC l 3-128:=by rw[hv];show 64*(64*(64*xm (kC l 0)+_-_)+_-_)+_-_=_;rw[e3]
  rw[if_neg hV,if_neg hV,if_neg hV,if_pos ⟨⟨⟨by omega,c1⟩,c2⟩,c3⟩,e2,e1];by_cases hx:v<65536\/v>1114111\/(55296<=v/\v<=57343)
  ·rw[if_pos hx,if_neg hV]
  ·rw[if_neg hx,if_pos hV];simp only[Prod.mk.injEq];omega
open Go.Proofs
set_option maxRecDepth 10000
theorem Dq (c:Int) (w0:World):
  Spec Tryz.prog 173 #[.int .i64 c] w0 (λv w=>v= .bool (fT c)/\w=w0):=by
 refine bD (args:=[_]) (fn:=Tryz.f173) Tryz.func173 G (n:=31) Tryz.ntmps173 (T.aU (Rg.a8 G G (aQ (T.aU (ab G G (cu G G G (ab G G ?_)))))));refine aB (g:=5) G (λja=>?_) (λja=>?_)
 ·refine ae G G (ab G G (ae G G (gr G G G (aN G G G (ab G G ?_)))));refine aB (g:=9) G (λDp=>?_) (λDp=>?_)
  ·refine aj G G G G (aj G G G G (aj G G G G (bN G G G (bN G G G (aj G G G G (aN G G G (ad (iz G (T.aU (aJ G G ?_))))))))));refine ad (aS ?_);exact aT rfl rfl ⟨by simp only[fT];first|rfl|(congr 1;first|(exact(decide_eq_true hV).symm)|(exact(decide_eq_false hV).symm)|(exact decide_eq_decide.2 hV)),rfl⟩
  ·refine ae G G (ab G G (ae G G (cu G G G (ae G G (ab G G ?_)))));refine aB (g:=12) G (λtL=>?_) (λtL=>?_)
   ·refine ae G G (ab G G (ae G G (gr G G G (ae G G (aN G G G (au G G G (ad ?_)))))));refine bH G (λc1=>?_) (λc1=>?_)
    ·refine T.aU (Rg.a8 G G (aS ?_));exact aT rfl rfl ⟨by simp only[fT];first|rfl|(congr 1;first|(exact(decide_eq_true hV).symm)|(exact(decide_eq_false hV).symm)|(exact decide_eq_decide.2 hV)),rfl⟩
    ·refine aM (T.aU (ab G G (cu G G G (ab G G ?_))));refine aB (g:=19) G (λHs=>?_) (λHs=>?_)
     ·refine ae G G (ab G G (ae G G (gr G G G (aN G G G (ab G G ?_)))));refine aB (g:=23) G (λHt=>?_) (λHt=>?_)
      ·refine ae G G (ab G G (ae G G (fG G G G (aN G G G (ab G G ?_)))));refine aB (g:=27) G (λzH=>?_) (λzH=>?_)
       ·refine ae G G (ab G G (ae G G (fG G G G (aN G G G (Rg.a8 G G (aS ?_))))));exact aT rfl rfl ⟨by simp only[fT];first|rfl|(congr 1;first|(exact(decide_eq_true hV).symm)|(exact(decide_eq_false hV).symm)|(exact decide_eq_decide.2 hV)),rfl⟩
       ·refine aj G G G G (aj G G G G (au G G G (Rg.a8 G G (aS ?_))));exact aT rfl rfl ⟨by simp only[fT];first|rfl|(congr 1;first|(exact(decide_eq_true hV).symm)|(exact(decide_eq_false hV).symm)|(exact decide_eq_decide.2 hV)),rfl⟩
      ·refine aj G G G G (aj G G G G (au G G G (ab G G (aj G G G G (aj G G G G (au G G G (Rg.a8 G G (aS ?_))))))));exact aT rfl rfl ⟨by simp only[fT];first|rfl|(congr 1;first|(exact(decide_eq_true hV).symm)|(exact(decide_eq_false hV).symm)|(exact decide_eq_decide.2 hV)),rfl⟩
     ·refine aj G G G G (aj G G G G (au G G G (ab G G (aj G G G G (aj G G G G (au G G G (ab G G (aj G G G G (aj G G G G (au G G G (aJ G G ?_)))))))))));refine ad (aS ?_);exact aT rfl rfl ⟨by simp only[fT];first|rfl|(congr 1;first|(exact(decide_eq_true hV).symm)|(exact(decide_eq_false hV).symm)|(exact decide_eq_decide.2 hV)),rfl⟩
   ·refine aj G G G G (aj G G G G (ae G G (au G G G (au G G G (ad (fQ G (aM (T.aU (ab G G (cu G G G ?_))))))))));refine ab G G ?_;refine aB (g:=19) G (λHs=>?_) (λHs=>?_)
    ·refine ae G G (ab G G (ae G G (gr G G G (aN G G G (ab G G ?_)))));refine aB (g:=23) G (λHt=>?_) (λHt=>?_)
     ·refine ae G G (ab G G (ae G G (fG G G G (aN G G G (ab G G ?_)))));refine aB (g:=27) G (λzH=>?_) (λzH=>?_)
      ·refine ae G G (ab G G (ae G G (fG G G G (aN G G G (Rg.a8 G G (aS ?_))))));exact aT rfl rfl ⟨by simp only[fT];first|rfl|(congr 1;first|(exact(decide_eq_true hV).symm)|(exact(decide_eq_false hV).symm)|(exact decide_eq_decide.2 hV)),rfl⟩
      ·refine aj G G G G (aj G G G G (au G G G (Rg.a8 G G (aS ?_))));exact aT rfl rfl ⟨by simp only[fT];first|rfl|(congr 1;first|(exact(decide_eq_true hV).symm)|(exact(decide_eq_false hV).symm)|(exact decide_eq_decide.2 hV)),rfl⟩
     ·refine aj G G G G (aj G G G G (au G G G (ab G G (aj G G G G (aj G G G G (au G G G (Rg.a8 G G (aS ?_))))))));exact aT rfl rfl ⟨by simp only[fT];first|rfl|(congr 1;first|(exact(decide_eq_true hV).symm)|(exact(decide_eq_false hV).symm)|(exact decide_eq_decide.2 hV)),rfl⟩
    ·refine aj G G G G (aj G G G G (au G G G (ab G G (aj G G G G (aj G G G G (au G G G (ab G G (aj G G G G (aj G G G G (au G G G (aJ G G ?_)))))))))));refine ad (aS ?_);exact aT rfl rfl ⟨by simp only[fT];first|rfl|(congr 1;first|(exact(decide_eq_true hV).symm)|(exact(decide_eq_false hV).symm)|(exact decide_eq_decide.2 hV)),rfl⟩
 ·refine aj G G G G (aj G G G G (au G G G (ab G G (ae G G (ab G G (ae G G (cu G G G (ae G G (ab G G ?_)))))))));refine aB (g:=12) G (λtL=>?_) (λtL=>?_)
  ·refine ae G G (ab G G (ae G G (gr G G G (ae G G (aN G G G (au G G G (ad ?_)))))));refine bH G (λc1=>?_) (λc1=>?_)
   ·refine T.aU (Rg.a8 G G (aS ?_));exact aT rfl rfl ⟨by simp only[fT];first|rfl|(congr 1;first|(exact(decide_eq_true hV).symm)|(exact(decide_eq_false hV).symm)|(exact decide_eq_decide.2 hV)),rfl⟩
   ·refine aM (T.aU (ab G G (cu G G G (ab G G ?_))));refine aB (g:=19) G (λHs=>?_) (λHs=>?_)
    ·refine ae G G (ab G G (ae G G (gr G G G (aN G G G (ab G G ?_)))));refine aB (g:=23) G (λHt=>?_) (λHt=>?_)
     ·refine ae G G (ab G G (ae G G (fG G G G (aN G G G (ab G G ?_)))));refine aB (g:=27) G (λzH=>?_) (λzH=>?_)
      ·refine ae G G (ab G G (ae G G (fG G G G (aN G G G (Rg.a8 G G (aS ?_))))));exact aT rfl rfl ⟨by simp only[fT];first|rfl|(congr 1;first|(exact(decide_eq_true hV).symm)|(exact(decide_eq_false hV).symm)|(exact decide_eq_decide.2 hV)),rfl⟩
      ·refine aj G G G G (aj G G G G (au G G G (Rg.a8 G G (aS ?_))));exact aT rfl rfl ⟨by simp only[fT];first|rfl|(congr 1;first|(exact(decide_eq_true hV).symm)|(exact(decide_eq_false hV).symm)|(exact decide_eq_decide.2 hV)),rfl⟩
     ·refine aj G G G G (aj G G G G (au G G G (ab G G (aj G G G G (aj G G G G (au G G G (Rg.a8 G G (aS ?_))))))));exact aT rfl rfl ⟨by simp only[fT];first|rfl|(congr 1;first|(exact(decide_eq_true hV).symm)|(exact(decide_eq_false hV).symm)|(exact decide_eq_decide.2 hV)),rfl⟩
    ·refine aj G G G G (aj G G G G (au G G G (ab G G (aj G G G G (aj G G G G (au G G G (ab G G (aj G G G G (aj G G G G (au G G G (aJ G G ?_)))))))))));refine ad (aS ?_);exact aT rfl rfl ⟨by simp only[fT];first|rfl|(congr 1;first|(exact(decide_eq_true hV).symm)|(exact(decide_eq_false hV).symm)|(exact decide_eq_decide.2 hV)),rfl⟩
  ·refine aj G G G G (aj G G G G (ae G G (au G G G (au G G G (ad (fQ G (aM (T.aU (ab G G (cu G G G ?_))))))))));refine ab G G ?_;refine aB (g:=19) G (λHs=>?_) (λHs=>?_)
   ·refine ae G G (ab G G (ae G G (gr G G G (aN G G G (ab G G ?_)))));refine aB (g:=23) G (λHt=>?_) (λHt=>?_)
    ·refine ae G G (ab G G (ae G G (fG G G G (aN G G G (ab G G ?_)))));refine aB (g:=27) G (λzH=>?_) (λzH=>?_)
     ·refine ae G G (ab G G (ae G G (fG G G G (aN G G G (Rg.a8 G G (aS ?_))))));exact aT rfl rfl ⟨by simp only[fT];first|rfl|(congr 1;first|(exact(decide_eq_true hV).symm)|(exact(decide_eq_false hV).symm)|(exact decide_eq_decide.2 hV)),rfl⟩
     ·refine aj G G G G (aj G G G G (au G G G (Rg.a8 G G (aS ?_))));exact aT rfl rfl ⟨by simp only[fT];first|rfl|(congr 1;first|(exact(decide_eq_true hV).symm)|(exact(decide_eq_false hV).symm)|(exact decide_eq_decide.2 hV)),rfl⟩
    ·refine aj G G G G (aj G G G G (au G G G (ab G G (aj G G G G (aj G G G G (au G G G (Rg.a8 G G (aS ?_))))))));exact aT rfl rfl ⟨by simp only[fT];first|rfl|(congr 1;first|(exact(decide_eq_true hV).symm)|(exact(decide_eq_false hV).symm)|(exact decide_eq_decide.2 hV)),rfl⟩
   ·refine aj G G G G (aj G G G G (au G G G (ab G G (aj G G G G (aj G G G G (au G G G (ab G G (aj G G G G (aj G G G G (au G G G (aJ G G ?_)))))))))));refine ad (aS ?_);exact aT rfl rfl ⟨by simp only[fT];first|rfl|(congr 1;first|(exact(decide_eq_true hV).symm)|(exact(decide_eq_false hV).symm)|(exact decide_eq_decide.2 hV)),rfl⟩
theorem zI (c:Int) (w0:World) (hc:0<=c/\c<=1114111):
  Spec Tryz.prog 171 #[.int .i64 c] w0 (λv w=>v= .int .i64 (eo c)/\w=w0):=by
 refine bD (args:=[_]) (fn:=Tryz.f171) Tryz.func171 G (n:=28) Tryz.ntmps171 (T.aU (Rg.a8 G G (aQ (T.aU (ab G G (cu G G G (ab G G ?_)))))));refine aB (g:=5) G (λja=>?_) (λja=>?_)
 ·refine ae G G (ab G G (ae G G (gr G G G (aN G G G (ab G G ?_)))));refine aB (g:=9) G (λDp=>?_) (λDp=>?_)
  ·refine aj G G G G (aj G G G G (aj G G G G (bN G G G (bN G G G (aj G G G G (aN G G G (ab G G (aj G G G G (aj G G G G (aj G G G G (bN G G G ?_)))))))))));refine bN G G G (aj G G G G (aN G G G (ad (iz G (T.aU (ab G G (aX G G G hV (Rg.a8 G G (aS ?_)))))))));exact a56
  ·refine ae G G (ab G G (ae G G (cu G G G (ae G G (ab G G ?_)))));refine aB (g:=12) G (λtL=>?_) (λtL=>?_)
   ·refine ae G G (ab G G (ae G G (gr G G G (ae G G (aN G G G (au G G G (ab G G ?_)))))));refine aB (g:=17) G (λzD=>?_) (λzD=>?_)
    ·refine aj G G G G (aj G G G G (aj G G G G (bN G G G (bN G G G (aj G G G G (aN G G G (ad (iz G (T.aU (ab G G ?_))))))))));refine aX G G G hV (Rg.a8 G G (aS ?_));exact a56
    ·refine ae G G (ab G G (ae G G (cu G G G (ae G G (ab G G ?_)))));refine aB (g:=20) G (λmY=>?_) (λmY=>?_)
     ·refine ae G G (ab G G (ae G G (gr G G G (ae G G (aN G G G (au G G G (ad ?_)))))));refine bH G (λc1=>?_) (λc1=>?_)
      ·refine T.aU (ab G G (aX G G G hV (Rg.a8 G G (aS ?_))));exact a56
      ·refine aM (T.aU (ab G G (Rg.a8 G G (aS ?_))));exact a34
     ·refine aj G G G G (aj G G G G (ae G G (au G G G (au G G G (ad (fQ G (aM (T.aU (ab G G (aJ G G ?_))))))))));refine ad (aS ?_);exact a34
   ·refine aj G G G G (aj G G G G (ae G G (au G G G (au G G G (ab G G (ae G G (ab G G (ae G G (cu G G G (ae G G (ab G G ?_)))))))))));refine aB (g:=20) G (λmY=>?_) (λmY=>?_)
    ·refine ae G G (ab G G (ae G G (gr G G G (ae G G (aN G G G (au G G G (ad ?_)))))));refine bH G (λc1=>?_) (λc1=>?_)
     ·refine T.aU (ab G G (aX G G G hV (Rg.a8 G G (aS ?_))));exact a56
     ·refine aM (T.aU (ab G G (Rg.a8 G G (aS ?_))));exact a34
    ·refine aj G G G G (aj G G G G (ae G G (au G G G (au G G G (ad (fQ G (aM (T.aU (ab G G (aJ G G ?_))))))))));refine ad (aS ?_);exact a34
 ·refine aj G G G G (aj G G G G (au G G G (ab G G (ae G G (ab G G (ae G G (cu G G G (ae G G (ab G G ?_)))))))));refine aB (g:=12) G (λtL=>?_) (λtL=>?_)
  ·refine ae G G (ab G G (ae G G (gr G G G (ae G G (aN G G G (au G G G (ab G G ?_)))))));refine aB (g:=17) G (λzD=>?_) (λzD=>?_)
   ·refine aj G G G G (aj G G G G (aj G G G G (bN G G G (bN G G G (aj G G G G (aN G G G (ad (iz G (T.aU (ab G G ?_))))))))));refine aX G G G hV (Rg.a8 G G (aS ?_));exact a56
   ·refine ae G G (ab G G (ae G G (cu G G G (ae G G (ab G G ?_)))));refine aB (g:=20) G (λmY=>?_) (λmY=>?_)
    ·refine ae G G (ab G G (ae G G (gr G G G (ae G G (aN G G G (au G G G (ad ?_)))))));refine bH G (λc1=>?_) (λc1=>?_)
     ·refine T.aU (ab G G (aX G G G hV (Rg.a8 G G (aS ?_))));exact a56
     ·refine aM (T.aU (ab G G (Rg.a8 G G (aS ?_))));exact a34
    ·refine aj G G G G (aj G G G G (ae G G (au G G G (au G G G (ad (fQ G (aM (T.aU (ab G G (aJ G G ?_))))))))));refine ad (aS ?_);exact a34
  ·refine aj G G G G (aj G G G G (ae G G (au G G G (au G G G (ab G G (ae G G (ab G G (ae G G (cu G G G (ae G G (ab G G ?_)))))))))));refine aB (g:=20) G (λmY=>?_) (λmY=>?_)
   ·refine ae G G (ab G G (ae G G (gr G G G (ae G G (aN G G G (au G G G (ad ?_)))))));refine bH G (λc1=>?_) (λc1=>?_)
    ·refine T.aU (ab G G (aX G G G hV (Rg.a8 G G (aS ?_))));exact a56
    ·refine aM (T.aU (ab G G (Rg.a8 G G (aS ?_))));exact a34
   ·refine aj G G G G (aj G G G G (ae G G (au G G G (au G G G (ad (fQ G (aM (T.aU (ab G G (aJ G G ?_))))))))));refine ad (aS ?_);exact a34
def pO (c:Int):Bool:=decide (fT c=true\/mX c=true)
theorem zJ (c:Int) (w0:World):
  Spec Tryz.prog 113 #[.int .i64 c] w0 (λv w=>v= .bool (pO c)/\w=w0):=by
 refine bD (args:=[_]) (fn:=Tryz.f113) Tryz.func113 G (n:=13) Tryz.ntmps113 (T.aU (Rg.a8 G G (T.aU (ab G G ?_))));refine aV G G ahe (Dq _ _) (λr wc hc=>?_);obtain⟨rfl,rfl⟩:=hc;refine aZ (v':= .bool (decide (fT c=true))) (by cases fT c<;>rfl) (ab rfl rfl ?_);refine aB (g:=5) G (λja=>?_) (λja=>?_)
 ·refine aj G G G G (aj G G G G (aj G G G G (bN G G G (bN G G G (aj G G G G (aN G G G (Rg.a8 G G (aS ?_))))))));have e:(mX c=true)=(48<=c/\c<=57):=by simp[mX]
  exact aT rfl rfl ⟨by simp only[pO,e];first|(congr 1;first|(exact(decide_eq_true (.inl VR)).symm)|(exact(decide_eq_true (.inr hV)).symm)|(exact(decide_eq_false am4).symm)|(exact decide_eq_decide.2 ⟨λh=> .inr hV,λh=>h.elim (λh=>absurd h VR) (λh=>by omega)⟩)),rfl⟩
 ·refine ae G G (ab G G (ae G G (cu G G G (ae G G (ab G G ?_)))));refine aB (g:=8) G (λlZ=>?_) (λlZ=>?_)
  ·refine ae G G (ab G G (ae G G (gr G G G (ae G G (aN G G G (au G G G (Rg.a8 G G (aS ?_))))))));have e:(mX c=true)=(48<=c/\c<=57):=by simp[mX]
   exact aT rfl rfl ⟨by simp only[pO,e];first|(congr 1;first|(exact(decide_eq_true (.inl VR)).symm)|(exact(decide_eq_true (.inr hV)).symm)|(exact(decide_eq_false am4).symm)|(exact decide_eq_decide.2 ⟨λh=> .inr hV,λh=>h.elim (λh=>absurd h VR) (λh=>by omega)⟩)),rfl⟩
  ·refine aj G G G G (aj G G G G (ae G G (au G G G (au G G G (Rg.a8 G G (aS ?_))))));have e:(mX c=true)=(48<=c/\c<=57):=by simp[mX]
   exact aT rfl rfl ⟨by simp only[pO,e];first|(congr 1;first|(exact(decide_eq_true (.inl VR)).symm)|(exact(decide_eq_true (.inr hV)).symm)|(exact(decide_eq_false am4).symm)|(exact decide_eq_decide.2 ⟨λh=> .inr hV,λh=>h.elim (λh=>absurd h VR) (λh=>by omega)⟩)),rfl⟩
theorem WL {l:List UInt8} {c:Int} (hc:c=(kC l 0:Int)) (hn:nO c≠0):∀{k:Nat},(∀j:Nat,1<=j->j<k+1->kx l j=true)->k<=3->0<=vO l k/\vO l k<=100000000:=by
 have key:∀k:Nat,(∀j:Nat,1<=j->j<k+1->kx l j=true)->0<=vO l k/\vO l k<=33*64^k-1:=by
  intro k
  induction k with
  |zero=>
   intro _;have:=oT hn;show 0<=xm (kC l 0:Int)/\xm (kC l 0:Int)<=33*64^0-1;rw[<-hc];simp only[Int.pow_zero];omega
  |succ k ih=>
   intro h;have h1:=ih λj h2 h3=>h j h2 hV
   have h2:=hU.1 (h (k+1) hV hV);show 0<=64*vO l k+_-128/\64*vO l k+_-128<=_;rw[Int.pow_succ];omega
 intro k h hk;have:=key k h
 have h3:(64:Int)^k<=262144:=by
  rcases(show k=0\/k=1\/k=2\/k=3 by omega)with rfl|rfl|rfl|rfl<;>decide
 omega
theorem NQ {l:List UInt8} (w0:World) (hl:l≠[]) (hlen:l.length<=4000000):
  Spec Tryz.prog 170 #[.string ⟨l.toArray⟩] w0 (λv w=>v= .tuple #[.int .i64 ((dec l).1:Int),.int .i64 ((dec l).2:Int)]/\w=w0):=by
 have y9:0<l.length:=eA.2 hl;have zK:=pL l 0;obtain⟨c,hc⟩:∃c:Int,c=(kC l 0:Int):=⟨_,rfl⟩;have hcr:0<=c/\c<256:=by omega
 refine bD (args:=[_]) (fn:=Tryz.f170) Tryz.func170 G (n:=85) Tryz.ntmps170 (T.aU (aJ G G (Rg.a8 G G (T.aU (ab G G ?_)))));refine Rg.Jl (c:=l.getD 0 0) aE G G G q0 (by rw[cL];show l[0]? =_;rw[aq y9];rfl) ?_;refine aZ (v':= .int .u8 c) (by rw[hc];rfl) (Rg.wO dq al rfl rfl hV (Rg.a8 rfl rfl (aQ (T.aU (ab rfl rfl (cH rfl rfl rfl (ad ?_)))))));refine bH G (λc2=>?_) (λc2=>?_)
 ·refine T.aU (ab G G (aJ G G (Rg.a8 G G (aS ?_))));exact fk rfl rfl rfl ⟨by rw[aba hV,hc];rfl,rfl⟩
 ·refine aM (T.aU (Rg.a8 G G (T.aU (Rg.a8 G G (T.aU (aJ G G ?_))))));refine ad ?_;refine T.l8 [(0,.string ⟨l.toArray⟩),(4,.int .i64 c),(5,.int .i64 (nO c)),(6,.int .i64 (iC c)),(7,.int .i64 (xm c))] ?_ ?_
  ·refine T.aU (ab G G (cu G G G (ab G G ?_)));refine aB (g:=18) G (λahC=>?_) (λahC=>?_)
   ·refine ae G G (ab G G (ae G G (cH G G G (aN G G G (ad ?_)))));refine bH G (λc7=>?_) (λc7=>?_)
    ·refine T.aU (Rg.a8 G G (T.aU (Rg.a8 G G (ay (ab G G (iQ G G G hV (aJ G G ?_)))))));refine ad ?_;exact⟨G,G,G,.cons G (.cons G (.cons (congrArg (λz=>some (Value.int .i64 z)) a08) (.cons (congrArg (λz=>some (Value.int .i64 z)) a09) (.cons (congrArg (λz=>some (Value.int .i64 z)) a10) (.nil)))))⟩
    ·refine T.aU (ab G G (cu G G G (ab G G ?_)));refine aB (g:=26) G (λjA=>?_) (λjA=>?_)
     ·refine ae G G (ab G G (ae G G (cH G G G (aN G G G (ad ?_)))));refine bH G (λKR=>?_) (λKR=>?_)
      ·refine T.aU (Rg.a8 G G (T.aU (Rg.a8 G G (ay (ab G G (iQ G G G hV (aJ G G ?_)))))));refine ad ?_;exact⟨G,G,G,.cons G (.cons G (.cons (congrArg (λz=>some (Value.int .i64 z)) a08) (.cons (congrArg (λz=>some (Value.int .i64 z)) a09) (.cons (congrArg (λz=>some (Value.int .i64 z)) a10) (.nil)))))⟩
      ·refine T.aU (ab G G (cu G G G (ab G G ?_)));refine aB (g:=34) G (λzL=>?_) (λzL=>?_)
       ·refine ae G G (ab G G (ae G G (cH G G G (aN G G G (ad ?_)))));refine bH G (λyz=>?_) (λyz=>?_)
        ·refine T.aU (Rg.a8 G G (T.aU (Rg.a8 G G (ay (ab G G (iQ G G G hV (aJ G G ?_)))))));refine ad ?_;exact⟨G,G,G,.cons G (.cons G (.cons (congrArg (λz=>some (Value.int .i64 z)) a08) (.cons (congrArg (λz=>some (Value.int .i64 z)) a09) (.cons (congrArg (λz=>some (Value.int .i64 z)) a10) (.nil)))))⟩
        ·refine aM ?_;exact⟨G,G,G,.cons G (.cons G (.cons (congrArg (λz=>some (Value.int .i64 z)) a08) (.cons (congrArg (λz=>some (Value.int .i64 z)) a09) (.cons (congrArg (λz=>some (Value.int .i64 z)) a10) (.nil)))))⟩
       ·refine aj G G G G (aj G G G G (au G G G (ad (fQ G (aM ?_)))));exact⟨G,G,G,.cons G (.cons G (.cons (congrArg (λz=>some (Value.int .i64 z)) a08) (.cons (congrArg (λz=>some (Value.int .i64 z)) a09) (.cons (congrArg (λz=>some (Value.int .i64 z)) a10) (.nil)))))⟩
     ·refine aj G G G G (aj G G G G (au G G G (ad (fQ G (T.aU (ab G G (cu G G G (ab G G ?_))))))));refine aB (g:=34) G (λzL=>?_) (λzL=>?_)
      ·refine ae G G (ab G G (ae G G (cH G G G (aN G G G (ad ?_)))));refine bH G (λyz=>?_) (λyz=>?_)
       ·refine T.aU (Rg.a8 G G (T.aU (Rg.a8 G G (ay (ab G G (iQ G G G hV (aJ G G ?_)))))));refine ad ?_;exact⟨G,G,G,.cons G (.cons G (.cons (congrArg (λz=>some (Value.int .i64 z)) a08) (.cons (congrArg (λz=>some (Value.int .i64 z)) a09) (.cons (congrArg (λz=>some (Value.int .i64 z)) a10) (.nil)))))⟩
       ·refine aM ?_;exact⟨G,G,G,.cons G (.cons G (.cons (congrArg (λz=>some (Value.int .i64 z)) a08) (.cons (congrArg (λz=>some (Value.int .i64 z)) a09) (.cons (congrArg (λz=>some (Value.int .i64 z)) a10) (.nil)))))⟩
      ·refine aj G G G G (aj G G G G (au G G G (ad (fQ G (aM ?_)))));exact⟨G,G,G,.cons G (.cons G (.cons (congrArg (λz=>some (Value.int .i64 z)) a08) (.cons (congrArg (λz=>some (Value.int .i64 z)) a09) (.cons (congrArg (λz=>some (Value.int .i64 z)) a10) (.nil)))))⟩
   ·refine aj G G G G (aj G G G G (au G G G (ad (fQ G (T.aU (ab G G (cu G G G (ab G G ?_))))))));refine aB (g:=26) G (λjA=>?_) (λjA=>?_)
    ·refine ae G G (ab G G (ae G G (cH G G G (aN G G G (ad ?_)))));refine bH G (λKR=>?_) (λKR=>?_)
     ·refine T.aU (Rg.a8 G G (T.aU (Rg.a8 G G (ay (ab G G (iQ G G G hV (aJ G G ?_)))))));refine ad ?_;exact⟨G,G,G,.cons G (.cons G (.cons (congrArg (λz=>some (Value.int .i64 z)) a08) (.cons (congrArg (λz=>some (Value.int .i64 z)) a09) (.cons (congrArg (λz=>some (Value.int .i64 z)) a10) (.nil)))))⟩
     ·refine T.aU (ab G G (cu G G G (ab G G ?_)));refine aB (g:=34) G (λzL=>?_) (λzL=>?_)
      ·refine ae G G (ab G G (ae G G (cH G G G (aN G G G (ad ?_)))));refine bH G (λyz=>?_) (λyz=>?_)
       ·refine T.aU (Rg.a8 G G (T.aU (Rg.a8 G G (ay (ab G G (iQ G G G hV (aJ G G ?_)))))));refine ad ?_;exact⟨G,G,G,.cons G (.cons G (.cons (congrArg (λz=>some (Value.int .i64 z)) a08) (.cons (congrArg (λz=>some (Value.int .i64 z)) a09) (.cons (congrArg (λz=>some (Value.int .i64 z)) a10) (.nil)))))⟩
       ·refine aM ?_;exact⟨G,G,G,.cons G (.cons G (.cons (congrArg (λz=>some (Value.int .i64 z)) a08) (.cons (congrArg (λz=>some (Value.int .i64 z)) a09) (.cons (congrArg (λz=>some (Value.int .i64 z)) a10) (.nil)))))⟩
      ·refine aj G G G G (aj G G G G (au G G G (ad (fQ G (aM ?_)))));exact⟨G,G,G,.cons G (.cons G (.cons (congrArg (λz=>some (Value.int .i64 z)) a08) (.cons (congrArg (λz=>some (Value.int .i64 z)) a09) (.cons (congrArg (λz=>some (Value.int .i64 z)) a10) (.nil)))))⟩
    ·refine aj G G G G (aj G G G G (au G G G (ad (fQ G (T.aU (ab G G (cu G G G (ab G G ?_))))))));refine aB (g:=34) G (λzL=>?_) (λzL=>?_)
     ·refine ae G G (ab G G (ae G G (cH G G G (aN G G G (ad ?_)))));refine bH G (λyz=>?_) (λyz=>?_)
      ·refine T.aU (Rg.a8 G G (T.aU (Rg.a8 G G (ay (ab G G (iQ G G G hV (aJ G G ?_)))))));refine ad ?_;exact⟨G,G,G,.cons G (.cons G (.cons (congrArg (λz=>some (Value.int .i64 z)) a08) (.cons (congrArg (λz=>some (Value.int .i64 z)) a09) (.cons (congrArg (λz=>some (Value.int .i64 z)) a10) (.nil)))))⟩
      ·refine aM ?_;exact⟨G,G,G,.cons G (.cons G (.cons (congrArg (λz=>some (Value.int .i64 z)) a08) (.cons (congrArg (λz=>some (Value.int .i64 z)) a09) (.cons (congrArg (λz=>some (Value.int .i64 z)) a10) (.nil)))))⟩
     ·refine aj G G G G (aj G G G G (au G G G (ad (fQ G (aM ?_)))));exact⟨G,G,G,.cons G (.cons G (.cons (congrArg (λz=>some (Value.int .i64 z)) a08) (.cons (congrArg (λz=>some (Value.int .i64 z)) a09) (.cons (congrArg (λz=>some (Value.int .i64 z)) a10) (.nil)))))⟩
  ·refine aQ (T.aU (ab G G (je G G G (ab G G ?_))));refine aB (g:=42) G (λabc=>?_) (λabc=>?_)
   ·refine aj G G G G (aj G G G G (aj G G G G (aj G G G G (aN G G G (ad (iz G (T.aU (aJ G G (Rg.a8 G G ?_)))))))));refine aS ?_
    have hx:nO (kC l 0:Int)=0\/∃k:Nat,1<=k/\(k:Int)<nO (kC l 0:Int)/\kx l k=false:=by
     rw[<-hc];by_cases h0:nO c=0
     ·exact .inl h0
     ·have hnc:=oT h0;exact .inr ⟨(nO c).toNat-1,by omega,by omega,fH.2 λh=>by have:=(hU.1 h).1;omega⟩
    have e:dec l=(65533,1):=Jp hV hx;exact fk rfl rfl rfl ⟨by rw[e];rfl,rfl⟩
   ·refine ae G G (ab G G (ae G G (te aE G G (aZ (v':= .int .i64 (l.length:Int)) a81 (ae G G (ab G G (ae G G (cH G G G (au G G G (ad ?_))))))))));refine bH G (λUL=>?_) (λUL=>?_)
    ·refine T.aU (aJ G G (Rg.a8 G G (aS ?_)))
     have hx:nO (kC l 0:Int)=0\/∃k:Nat,1<=k/\(k:Int)<nO (kC l 0:Int)/\kx l k=false:=by
      rw[<-hc];by_cases h0:nO c=0
      ·exact .inl h0
      ·have hnc:=oT h0;exact .inr ⟨(nO c).toNat-1,by omega,by omega,fH.2 λh=>by have:=(hU.1 h).1;omega⟩
     have e:dec l=(65533,1):=Jp hV hx;exact fk rfl rfl rfl ⟨by rw[e];rfl,rfl⟩
    ·refine aM (aQ (T.aU (Rg.a8 G G (bp ?_))));refine dz (σ:=Nat) (λi=>[(0,.string ⟨l.toArray⟩),(5,.int .i64 (nO c)),(6,.int .i64 (iC c)),(7,.int .i64 (vO l (i-1))),(8,.int .i64 (i:Int))]) (λi w=>w=w0/\1<=i/\(i:Int)<=nO c/\∀k:Nat,1<=k->k<i->kx l k=true) (λi=>(nO c).toNat-i) 1 (.cons G (.cons G (.cons G (.cons (congrArg (λz=>some (Value.int .i64 z)) (by show xm c=xm (kC l 0:Int);rw[hc])) (.cons rfl .nil))))) ?_ ?_
     ·exact⟨G,aK _,by have:=oT (c:=c) hV;omega,λk h1 h2=>by omega⟩
     ·rintro i w ⟨rfl,qQ,mu,fh⟩;have hnc:=oT (c:=c) hV
      have hvr:0<=vO l (i-1)/\vO l (i-1)<=100000000:=by
       exact WL (l:=l) (c:=c) (k:=i-1) hc hV (λj h1 h2=>fh j h1 hV) hV
      refine aQ (T.aU (ab G G (ab G G (cH G G G (ad ?_)))));refine bH G (λc22=>?_) (λc22=>?_)
      ·refine aM (aQ (bp (T.aU (ab G G (ab G G ?_)))));have lY:i<l.length:=by omega
       refine Rg.Jl (c:=l.getD i 0) aE G G G hV (by rw[cL,av,aq lY];rfl) ?_;refine aZ (v':= .int .u8 (kC l i:Int)) G ?_;have WM:=pL l i;refine Rg.wO dq al G G hV (Rg.a8 G G (aQ (T.aU (ab G G (cH G G G (ab G G ?_))))));refine aB (g:=59) G (λabd=>?_) (λabd=>?_)
       ·refine aj G G G G (aj G G G G (aN G G G (ad (iz G (T.aU (aJ G G (Rg.a8 G G (aS ?_))))))))
        have hx:nO (kC l 0:Int)=0\/∃k:Nat,1<=k/\(k:Int)<nO (kC l 0:Int)/\kx l k=false:=by
         rw[<-hc];exact .inr ⟨i,qQ,by omega,fH.2 λh=>by have:=hU.1 h;omega⟩
        have e:dec l=(65533,1):=Jp hV hx;exact fk rfl rfl rfl ⟨by rw[e];rfl,rfl⟩
       ·refine ae G G (ab G G (ae G G (cu G G G (au G G G (ad ?_)))));refine bH G (λWN=>?_) (λWN=>?_)
        ·refine T.aU (aJ G G (Rg.a8 G G (aS ?_)))
         have hx:nO (kC l 0:Int)=0\/∃k:Nat,1<=k/\(k:Int)<nO (kC l 0:Int)/\kx l k=false:=by
          rw[<-hc];exact .inr ⟨i,qQ,by omega,fH.2 λh=>by have:=hU.1 h;omega⟩
         have e:dec l=(65533,1):=Jp hV hx;exact fk rfl rfl rfl ⟨by rw[e];rfl,rfl⟩
        ·refine aM (ay (ab G G (Rg.V1 G G G hV (ab G G (aX G G G hV (iQ G G G hV (Rg.a8 G G (ay (ab G G (aX G G G hV ?_))))))))));refine Rg.a8 G G ?_;refine⟨G,i+1,(.cons G (.cons G (.cons G (.cons (congrArg (λz=>some (Value.int .i64 z)) (by obtain⟨q,rfl⟩:∃q,i=q+1:=⟨i-1,by omega⟩;rfl)) (.cons rfl .nil))))),?_,?_⟩
         ·exact⟨G,by omega,by omega,λk h1 h2=>by
           rcases cT k i with h|h
           ·exact fh k h1 h
           ·obtain rfl:k=i:=by omega
            exact hU.2 hV⟩
         ·omega
      ·refine de (aQ (T.aU (ab G G (ab G G (cH G G G (ab G G ?_))))));refine aB (g:=71) G (λabe=>?_) (λabe=>?_)
       ·refine aj G G G G (aj G G G G (aN G G G (ab G G (aj G G G G (aj G G G G (aj G G G G (bN G G G (bN G G G (aj G G G G (aN G G G (ad ?_)))))))))));refine iz G (T.aU (aJ G G (Rg.a8 G G (aS ?_))));have e:=ES (l:=l) (by rw[<-hc];omega) af1 (vO l (i-1)) am1;rw[<-hc,if_pos hV]at e;exact fk rfl rfl rfl ⟨by rw[e];rfl,rfl⟩
       ·refine ae G G (ab G G (ae G G (fR G G G (au G G G (ab G G ?_)))));refine aB (g:=75) G (λabf=>?_) (λabf=>?_)
        ·refine aj G G G G (aj G G G G (aj G G G G (bN G G G (bN G G G (aj G G G G (aN G G G (ad (iz G (T.aU (aJ G G ?_))))))))));refine Rg.a8 G G (aS ?_);have e:=ES (l:=l) (by rw[<-hc];omega) af1 (vO l (i-1)) am1;rw[<-hc,if_pos hV]at e;exact fk rfl rfl rfl ⟨by rw[e];rfl,rfl⟩
        ·refine ae G G (ab G G (ae G G (cu G G G (ae G G (ab G G ?_)))));refine aB (g:=78) G (λWO=>?_) (λWO=>?_)
         ·refine ae G G (ab G G (ae G G (gr G G G (ae G G (aN G G G (au G G G (ad ?_)))))));refine bH G (λc28=>?_) (λc28=>?_)
          ·refine T.aU (aJ G G (Rg.a8 G G (aS ?_)));have e:=ES (l:=l) (by rw[<-hc];omega) af1 (vO l (i-1)) am1;rw[<-hc,if_pos hV]at e;exact fk rfl rfl rfl ⟨by rw[e];rfl,rfl⟩
          ·refine aM (T.aU (ab G G (ab G G (aJ G G (Rg.a8 G G (aS ?_))))));have e:=ES (l:=l) (by rw[<-hc];omega) af1 (vO l (i-1)) am1;rw[<-hc,if_neg hV]at e;exact fk rfl rfl rfl ⟨by rw[e];simp only[];rw[Bn hvr.1,Bn hV],rfl⟩
         ·refine aj G G G G (aj G G G G (ae G G (au G G G (au G G G (ad (fQ G (aM (T.aU (ab G G (ab G G ?_))))))))));refine aJ G G (Rg.a8 G G (aS ?_));have e:=ES (l:=l) (by rw[<-hc];omega) af1 (vO l (i-1)) am1;rw[<-hc,if_neg hV]at e;exact fk rfl rfl rfl ⟨by rw[e];simp only[];rw[Bn hvr.1,Bn hV],rfl⟩
theorem zM {M:aP} {l:List UInt8} (w0:World) (hM:Lt M w0) (hl:l.length<=4000000):
  Spec Tryz.prog 111 #[.string ⟨l.toArray⟩] w0 (λv w=>∃M',Lt M' w/\Step M w0 M' w aH/\Own (RT.int .i64) 3 M' w w0.heap.size v (dM l)):=by
 have jq:=hM;refine bD (args:=[_]) (fn:=Tryz.f111) Tryz.func111 G (n:=22) Tryz.ntmps111 ?_;have S:Step M w0 M w0 aH:=bg;refine T.aU (Rg.a8 G G (T.aU (Rg.a8 G G (aQ (bp ?_)))));refine dz (σ:=Nat×List Int×Value) (λq=>[(0,.string ⟨(l.drop q.1).toArray⟩),(3,q.2.2)]) (λq w=>∃M',Lt M' w/\Step M w0 M' w aH/\Own (RT.int .i64) 3 M' w w0.heap.size q.2.2 q.2.1/\dM l=q.2.1++dM (l.drop q.1)/\q.1<=l.length) (λq=>l.length-q.1) (0,[],.slice none 0 0) a83 ?_ ?_
 ·exact⟨M,hM,S,ep _ _ _ _ _,by simp,by simp⟩
 ·rintro⟨p,xs,u⟩ w ⟨M1,hM,S,ho,Dr,hp⟩;dsimp only at ho Dr hp ⊢;refine aQ (T.aU (ab G G (te aE G G (aZ (v':= .int .i64 ((l.drop p).length:Int)) a81 (fR G G G (ad ?_))))));refine bH G (λc2=>?_) (λc2=>?_)
  ·refine aM (bp (T.aU (ab G G ?_)));have fB:l.drop p≠[]:=by intro h;rw[h]at c2;simp at c2
   have yN:p<l.length:=by have:=eA.2 fB;rw[dn]at this;omega
   have hwd:=jV fB;refine aV rfl rfl ahd (NQ (l:=l.drop p) _ fB (by rw[dn];omega)) (λr3 w3 hc=>?_);obtain⟨rfl,rfl⟩:=hc;refine ab G G (cP G G G (cP G G G (aJ G G (Rg.a8 G G (T.aU (ab G G (ab G G ?_)))))));refine dT (A:=RT.int .i64) (hn:=by decide) (M:=M1) aC I3 q0 G G hM (iF (by have:=rU (l.drop p);omega)) (.inr ⟨rfl,rfl⟩) (λSD WQ mZ pP=>?_);replace ho:=ho.br pP;replace hM:=pP.lt hM;have:=S.size;replace S:=S.ar pP;refine cI (M:=M1) (base:=w0.heap.size) aC I3 rfl rfl rfl rfl ho mZ ck af3 af3 (S.size) (λWR ahF aq5 abg WS=>?_);replace mZ:=mZ.le WS.le;replace hM:=WS.lt hM;have:=S.size;replace S:=S.cf WS ho (aK _);replace ho:=abg;refine Rg.a8 G G (ay (ab G G (ab G G (Rg.St aE G G G hV (aZ (v':= .string ⟨(l.drop (p+(dec (l.drop p)).2)).toArray⟩) (by rw[List.drop_drop];simp) (Rg.a8 rfl rfl ?_))))));refine⟨G,(p+(dec (l.drop p)).2,xs++[((dec (l.drop p)).1:Int)],WR),a83,?_,?_⟩
   ·refine⟨ahF,hM,S,ho,?_,?_⟩
    ·rw[Dr,lg fB,List.drop_drop];simp
    ·have:=hwd.2;rw[dn]at this;dsimp only;omega
   ·have:=hwd.1;have:=hwd.2;rw[dn]at this;dsimp only;omega
  ·refine de (T.aU (ab G G (Rg.a8 G G (aS ?_))));have e:dM l=xs:=by rw[Dr,jF (by simp at c2;omega),mB];simp
   rw[e];exact aT G G ⟨_,hM,S,ho⟩
theorem yb {M:aP} {l:List UInt8} (w0:World) (hM:Lt M w0) (hl:l.length<=4000000):Spec Tryz.prog 111 #[.string ⟨l.toArray⟩] w0 (λv w=>((RT.int .i64).sl).V M w (dM l) v/\Step M w0 M w aH):=
 (zM w0 hM hl).mono λ_ w ⟨M',h1,h2,h3⟩=>⟨h3.close hM h2 (by have:=gZ l;omega),h2.back⟩
theorem sU {M:aP} {w:World} {x:Int} (h:0<=x/\x<256):RT.u8.V M w x.toNat.toUInt8 (.int .u8 (IntKind.u8.wrap x)):=by
 have e1:IntKind.u8.wrap x=x:=by
  show(if(false&&decide (x%256>=128))=true then x%256-256 else x%256)=x;rw[if_neg (by simp)];omega
 have e2:((x.toNat.toUInt8).toNat:Int)=x:=by
  have:x.toNat.toUInt8.toNat=x.toNat%256:=UInt8.toNat_ofNat' ..;omega
 rw[e1];exact⟨[.int .u8 x],by show _=_;rw[e2],rfl⟩
theorem abh {r:Int} (h:0<=r/\r<128):Lib.encodeRune r=[r.toNat.toUInt8]:=by rw[Lib.encodeRune,Lib.encodeRuneZ_one h.1 hV];rfl
theorem abi {r:Int} (h:128<=r/\r<2048):Lib.encodeRune r=[(192+r/64).toNat.toUInt8,(128+r%64).toNat.toUInt8]:=by rw[Lib.encodeRune,Lib.encodeRuneZ_two h.1 hV];rfl
theorem KS (c:Int):rV c<55296\/57343<rV c:=by
 unfold rV
 split
 ·omega
 ·rename_i h
  have h2:Lib.validRune c=true:=by
   cases hv:Lib.validRune c with
   |true=>rfl
   |false=>exact absurd (.inr (.inr hv)) h
  simp only[Lib.validRune,decide_eq_true_eq]at h2;omega
theorem ahG {r:Int} (h:2048<=r/\r<65536) (h2:r<55296\/57343<r):Lib.encodeRune r=[(224+r/4096).toNat.toUInt8,(128+r/64%64).toNat.toUInt8,(128+r%64).toNat.toUInt8]:=by rw[Lib.encodeRune,Lib.encodeRuneZ_three hV];rfl
theorem ahH {r:Int} (h:65536<=r/\r<=1114111):Lib.encodeRune r=[(240+r/262144).toNat.toUInt8,(128+r/4096%64).toNat.toUInt8,(128+r/64%64).toNat.toUInt8,(128+r%64).toNat.toUInt8]:=by rw[Lib.encodeRune,Lib.encodeRuneZ_four h.1 h.2];rfl
theorem uT {c:Int} (h:c<0\/c>1114111\/(55296<=c/\c<=57343)):rV c=65533:=by
 rw[rV,if_pos];rcases h with h|h|h
 ·exact .inl h
 ·exact .inr (.inl h)
 ·refine .inr (.inr ?_);simp only[Lib.validRune,decide_eq_false_iff_not];omega
theorem oU {c:Int} (h: ¬(c<0\/c>1114111\/(55296<=c/\c<=57343))):rV c=c:=by
 rw[rV,if_neg];rintro(h1|h1|h1)
 ·omega
 ·omega
 ·simp only[Lib.validRune,decide_eq_false_iff_not]at h1;omega
theorem tM {M:aP} {xs:List Int} {v0:Value} (w0:World) (hM:Lt M w0) (hv:((RT.int .i64).sl).V M w0 xs v0) (hl:xs.length<=4000000):
  Spec Tryz.prog 172 #[v0] w0 (λv w=>v= .string ⟨(ik xs).toArray⟩/\Step M w0 M w aH):=by
 have jq:=hM;refine bD (args:=[_]) (fn:=Tryz.f172) Tryz.func172 G (n:=91) Tryz.ntmps172 ?_;have S:Step M w0 M w0 aH:=bg;refine T.aU (Rg.a8 G G (T.aU (Rg.a8 G G (aQ (T.aU (aJ G G ?_))))));refine ad (bp ?_);refine dz (σ:=Nat×Value) (λq=>[(0,v0),(3,q.2),(4,.int .i64 (q.1:Int))]) (λq w=>∃M',Lt M' w/\Step M w0 M' w aH/\Own RT.u8 5 M' w w0.heap.size q.2 (ik (xs.take q.1))/\((RT.int .i64).sl).V M' w xs v0/\q.1<=xs.length) (λq=>xs.length-q.1) (0,.slice none 0 0) a11 ?_ ?_
 ·exact⟨M,hM,S,ep _ _ _ _ _,hv,bA _⟩
 ·rintro⟨k,u⟩ w ⟨M1,hM,S,ho,hv,hk⟩;dsimp only at ho hk ⊢;refine aQ (T.aU (ab G G (ab G G (bR aC G hv G (cH G G G (ad ?_))))));refine bH G (λc3=>?_) (λc3=>?_)
  ·refine aM (aQ (bp (T.aU (ab G G (ab G G ?_)))));refine cD aC I3 G G G hv ck hV (λu5 c KT gg=>?_);refine bX al G G gg ck (λin5=>?_);have tk:xs.take (k+1)=xs.take k++[c]:=by rw[cj];simp only[av]at KT;rw[KT];rfl
   have hsr:=Jo c;have hsc:=KS c;refine Rg.a8 G G ?_;refine T.l8 [(0,v0),(3,u),(4,.int .i64 (k:Int)),(5,.int .i64 (rV c))] ?_ ?_
   ·refine T.aU (ab G G (cH G G G (ab G G ?_)));refine aB (g:=18) G (λWT=>?_) (λWT=>?_)
    ·refine aj G G G G (aj G G G G (aN G G G (ab G G (aj G G G G (aj G G G G (aj G G G G (bN G G G (bN G G G (aj G G G G (aN G G G (ad ?_)))))))))));refine iz G (ay (Rg.a8 G G ?_));exact⟨G,G,G,.cons G (.cons G (.cons G (.cons (congrArg (λz=>some (Value.int .i64 z)) ab3) (.nil))))⟩
    ·refine ae G G (ab G G (ae G G (fR G G G (au G G G (ab G G ?_)))));refine aB (g:=22) G (λahI=>?_) (λahI=>?_)
     ·refine aj G G G G (aj G G G G (aj G G G G (bN G G G (bN G G G (aj G G G G (aN G G G (ad (iz G (ay (Rg.a8 G G ?_))))))))));exact⟨G,G,G,.cons G (.cons G (.cons G (.cons (congrArg (λz=>some (Value.int .i64 z)) ab3) (.nil))))⟩
     ·refine ae G G (ab G G (ae G G (cu G G G (ae G G (ab G G ?_)))));refine aB (g:=25) G (λahJ=>?_) (λahJ=>?_)
      ·refine ae G G (ab G G (ae G G (gr G G G (ae G G (aN G G G (au G G G (ad ?_)))))));refine bH G (λc6=>?_) (λc6=>?_)
       ·refine ay (Rg.a8 G G ?_);exact⟨G,G,G,.cons G (.cons G (.cons G (.cons (congrArg (λz=>some (Value.int .i64 z)) ab3) (.nil))))⟩
       ·refine aM ?_;exact⟨G,G,G,.cons G (.cons G (.cons G (.cons (congrArg (λz=>some (Value.int .i64 z)) ab3) (.nil))))⟩
      ·refine aj G G G G (aj G G G G (ae G G (au G G G (au G G G (ad (fQ G (aM ?_)))))));exact⟨G,G,G,.cons G (.cons G (.cons G (.cons (congrArg (λz=>some (Value.int .i64 z)) ab3) (.nil))))⟩
   ·refine T.aU (ab G G (cH G G G (ad ?_)));refine bH G (λc8=>?_) (λc8=>?_)
    ·refine ay (ab G G (ab G G (xS al dq G G ?_)));refine dT (A:=RT.u8) (hn:=by decide) (M:=M1) b4 I5 q0 G G hM (sU hV) (.inr ⟨G,G⟩) (λaq7 abj NR rB=>?_);replace hv:=hv.le rB.le;replace ho:=ho.br rB;replace hM:=rB.lt hM;have:=S.size;replace S:=S.ar rB;refine cI (M:=M1) (base:=w0.heap.size) b4 I5 G G G G ho NR ck a43 a43 (S.size) (λabk ahK ahL abl BF=>?_);replace hv:=hv.le BF.le;replace NR:=NR.le BF.le;replace hM:=BF.lt hM;have:=S.size;replace S:=S.cf BF ho (aK _);replace ho:=abl;refine Rg.a8 G G (ay (ab G G (aX G G G hV (Rg.a8 G G ?_))));refine⟨G,(k+1,abk),a11,?_,?_⟩
     ·exact⟨ahK,hM,S,by rw[tk,lh,abh hV];exact ho,hv,by dsimp only;omega⟩
     ·dsimp only;omega
    ·refine T.aU (ab G G (cH G G G (ad ?_)));refine bH G (λWU=>?_) (λWU=>?_)
     ·refine ay (ab G G (ab G G (Rg.zd G G G hV (aX G G G hV (xS al dq G G (ab G G (Rg.yx G G G hV (aX G G G hV (xS al dq G G ?_)))))))));refine Rg.Kp (A:=RT.u8) (hn:=by decide) (M:=M1) (xs:=[(192+rV c/64).toNat.toUInt8,(128+rV c%64).toNat.toUInt8]) b4 I5 G q0 G ⟨_,_,_,G,G,G,sU hV,_,_,_,G,G,G,sU hV,G⟩ G hM (.inr ⟨G,G⟩) q0 (λant anu Hu Jq=>?_);replace hv:=hv.le Jq.le;replace ho:=ho.br Jq;replace hM:=Jq.lt hM;have:=S.size;replace S:=S.ar Jq;refine cI (M:=M1) (base:=w0.heap.size) b4 I5 G G G G ho Hu ck a43 a43 (S.size) (λWV WW ahM SE Ds=>?_);replace hv:=hv.le Ds.le;replace Hu:=Hu.le Ds.le;replace hM:=Ds.lt hM;have:=S.size;replace S:=S.cf Ds ho (aK _);replace ho:=SE;refine Rg.a8 G G (ay (ab G G (aX G G G hV (Rg.a8 G G ?_))));refine⟨G,(k+1,WV),a11,?_,?_⟩
      ·exact⟨WW,hM,S,by rw[tk,lh,abi hV];exact ho,hv,by dsimp only;omega⟩
      ·dsimp only;omega
     ·refine T.aU (ab G G (cH G G G (ad ?_)));refine bH G (λET=>?_) (λET=>?_)
      ·refine ay (ab G G (ab G G (Rg.zd G G G hV (aX G G G hV (xS al dq G G (ab G G (Rg.zd G G G hV (Rg.yx G G G hV (aX G G G hV (xS al dq G G (ab G G ?_)))))))))));refine Rg.yx G G G hV (aX G G G hV (xS al dq G G ?_));refine Rg.Kp (A:=RT.u8) (hn:=by decide) (M:=M1) (xs:=[(224+rV c/4096).toNat.toUInt8,(128+rV c/64%64).toNat.toUInt8,(128+rV c%64).toNat.toUInt8]) b4 I5 G q0 G ⟨_,_,_,G,G,G,sU hV,_,_,_,G,G,G,sU hV,_,_,_,G,G,G,sU hV,G⟩ G hM (.inr ⟨G,G⟩) q0 (λahN ahO Dt Du=>?_);replace hv:=hv.le Du.le;replace ho:=ho.br Du;replace hM:=Du.lt hM;have:=S.size;replace S:=S.ar Du;refine cI (M:=M1) (base:=w0.heap.size) b4 I5 G G G G ho Dt ck a43 a43 (S.size) (λWX WY ahP SF Dv=>?_);replace hv:=hv.le Dv.le;replace Dt:=Dt.le Dv.le;replace hM:=Dv.lt hM;have:=S.size;replace S:=S.cf Dv ho (aK _);replace ho:=SF;refine Rg.a8 G G (ay (ab G G (aX G G G hV (Rg.a8 G G ?_))));refine⟨G,(k+1,WX),a11,?_,?_⟩
       ·exact⟨WY,hM,S,by rw[tk,lh,ahG hV hsc];exact ho,hv,by dsimp only;omega⟩
       ·dsimp only;omega
      ·refine ay (ab G G (ab G G (Rg.zd G G G hV (aX G G G hV (xS al dq G G (ab G G (Rg.zd G G G hV (Rg.yx G G G hV (aX G G G hV (xS al dq G G (ab G G ?_)))))))))));refine Rg.zd G G G hV (Rg.yx G G G hV (aX G G G hV (xS al dq G G (ab G G (Rg.yx G G G hV (aX G G G hV (xS al dq G G ?_)))))));refine Rg.Kp (A:=RT.u8) (hn:=by decide) (M:=M1) (xs:=[(240+rV c/262144).toNat.toUInt8,(128+rV c/4096%64).toNat.toUInt8,(128+rV c/64%64).toNat.toUInt8,(128+rV c%64).toNat.toUInt8]) b4 I5 G q0 G ⟨_,_,_,G,G,G,sU hV,_,_,_,G,G,G,sU hV,_,_,_,G,G,G,sU hV,_,_,_,G,G,G,sU hV,G⟩ G hM (.inr ⟨G,G⟩) q0 (λahQ ahR Dw Dx=>?_);replace hv:=hv.le Dx.le;replace ho:=ho.br Dx;replace hM:=Dx.lt hM;have:=S.size;replace S:=S.ar Dx;refine cI (M:=M1) (base:=w0.heap.size) b4 I5 G G G G ho Dw ck a43 a43 (S.size) (λWZ W0 ahS SG Dy=>?_);replace hv:=hv.le Dy.le;replace Dw:=Dw.le Dy.le;replace hM:=Dy.lt hM;have:=S.size;replace S:=S.cf Dy ho (aK _);replace ho:=SG;refine Rg.a8 G G (ay (ab G G (aX G G G hV (Rg.a8 G G ?_))));refine⟨G,(k+1,WZ),a11,?_,?_⟩
       ·exact⟨W0,hM,S,by rw[tk,lh,ahH hV];exact ho,hv,by dsimp only;omega⟩
       ·dsimp only;omega
  ·refine de (T.aU (ab G G (Rg.b2s (hn:=by decide) (M:=M) b4 dq aE G G (ho.close jq S (by have:=gI (xs.take k);rw[bI]at this;omega)) ck (Rg.a8 rfl rfl (aS ?_)))));have e:xs.take k=xs:=bM hV;rw[e];exact aT G G ⟨G,S.back⟩
theorem Hv {M:aP} {l:List UInt8} (w0:World) (hM:Lt M w0) (hl:l.length<=4000000):
  Spec Tryz.prog 244 #[.string ⟨l.toArray⟩] w0 (λv w=>((RT.int .i64).sl).V M w (dM l) v/\Step M w0 M w aH):=by
 have jq:=hM;refine bD (args:=[_]) (fn:=Tryz.f244) Tryz.func244 G (n:=17) Tryz.ntmps244 ?_;have S:Step M w0 M w0 aH:=bg;refine T.aU (Rg.a8 G G (T.aU (Rg.a8 G G (aQ (T.aU (ab G G ?_))))));refine Rg.NA M aE G G (λNS aq8 aq9 ara ahT W2=>?_);obtain⟨UM,NT⟩:∃M',M'=ins M NS:=⟨_,rfl⟩;rw[<-NT]at W2;have W3:UM NS:=by rw[NT];exact .inl G
 replace hM:=W2.lt hM;have:=S.size;replace S:=S.ar W2;refine ad (bp ?_);refine dz (σ:=Nat×List Int×Value) (λq=>[(3,q.2.2),(7,.pointer (some ⟨NS,0,none⟩))]) (λq w=>∃M',Lt M' w/\Step M w0 M' w aH/\w.heap[NS]? =some (.stringIter ⟨l.toArray⟩ q.1)/\M' NS/\Own (RT.int .i64) 3 M' w w0.heap.size q.2.2 q.2.1/\dM l=q.2.1++dM (l.drop q.1)/\q.1<=l.length) (λq=>l.length-q.1) (0,[],.slice none 0 0) a83 ?_ ?_
 ·exact⟨UM,hM,S,ahT,W3,ep _ _ _ _ _,by simp,by simp⟩
 ·rintro⟨p,xs,u⟩ w ⟨M1,hM,S,g,Ci,ho,Dr,hp⟩;dsimp only at g ho Dr hp ⊢;refine T.aU ?_;refine Rg.Ss (M:=M1) G g Ci G (λahU arb ahV NU=>?_) (λahU=>?_)
  ·have:=ah g;replace Ci:=(NU.mem _ this).2 Ci;replace ho:=ho.step NU (λb hb hk=>ho.eN g (hk▸hb));replace hM:=NU.lt hM;have:=S.size;replace S:=S.trans NU (λk hk h=>by have h:_=_:=h;subst h;first|(exfalso;omega)|(show _<=_;omega)|exact⟨by first|omega|assumption,(S.mem _ hk).1 ((NU.mem _ (ah g)).1 Ci)⟩|exact .inl rfl|exact .inr rfl|exact .inr (.inl rfl)|exact .inr (.inr rfl)|exact .inr (.inr (.inl rfl))|exact rfl);have g_:=ahV;clear g;have g:=g_;clear g_;refine cP G G G (ad (aQ (iz G (aM (bp (T.aU (cP G G G (Rg.a8 G G (ay ?_)))))))));refine ab G G (ab G G (Rg.wO Tryz.underlying21 al G G (by have:=rU (l.drop p);omega) ?_));refine dT (A:=RT.int .i64) (hn:=by decide) (M:=M1) aC I3 q0 G G hM (iF (by have:=rU (l.drop p);omega)) (.inr ⟨rfl,rfl⟩) (λahW abm Jr yA=>?_);have:=ah g;replace Ci:=(yA.mem _ this).2 Ci;replace g:=yA.aF g;replace ho:=ho.br yA;replace hM:=yA.lt hM;have:=S.size;replace S:=S.ar yA;refine cI (M:=M1) (base:=w0.heap.size) aC I3 rfl rfl rfl rfl ho Jr ck af3 af3 (S.size) (λahX ahY arc abn NV=>?_);have:=ah g;replace Ci:=(NV.mem _ this).2 Ci;replace g:=NV.bY g (λh=>by first|exact ho.eN g h|exact ho.fN g q0 h|(have:=(ho.base _ h).1;omega));replace Jr:=Jr.le NV.le;replace hM:=NV.lt hM;have:=S.size;replace S:=S.cf NV ho (aK _);replace ho:=abn;refine Rg.a8 G G ?_;have fB:l.drop p≠[]:=by intro h;have:=congrArg List.length h;simp at this;omega
   refine⟨G,(p+(dec (l.drop p)).2,xs++[((dec (l.drop p)).1:Int)],ahX),a83,?_,?_⟩
   ·refine⟨ahY,hM,S,g,Ci,ho,?_,?_⟩
    ·rw[Dr,lg fB,List.drop_drop];simp
    ·have:=(jV fB).2;rw[dn]at this;dsimp only;omega
   ·have:=(jV fB).1;have:=(jV fB).2;rw[dn]at this;dsimp only;omega
  ·refine cP G G G (ad (aQ (fQ G (de (T.aU (ab G G (Rg.a8 G G (aS ?_))))))));have e:dM l=xs:=by rw[Dr,jF hV,mB];simp
   rw[e];have:=gZ l;rw[e]at this;exact aT G G ⟨ho.close jq S hV,S.back⟩
def eP (p:List Int×List (List UInt8)) (c:Int):List Int×List (List UInt8):=
 if fT c=true\/mX c=true then(p.1++[eo c],p.2)else if 0<p.1.length then([],p.2++[ik p.1])else([],p.2)
structure NW (M:aP) (w:World) (B bo bs:Nat) (p:List Int×List (List UInt8)):Prop where
 a:∃u,w.heap[bo]? =some (.cells #[u] 61 (0,0))/\Own (RT.int .i64) 3 M w B u p.1
 b:∃u,w.heap[bs]? =some (.cells #[u] 25 (0,0))/\Own RT.str 9 M w B u p.2
 m:M bo/\M bs/\B<=bo/\B<=bs
theorem rC {c:Int} (h:fT c=true\/mX c=true):0<=c/\c<=1114111:=by
 simp only[fT,mX,decide_eq_true_eq]at h;omega
theorem zN {M:aP} {B bo bs:Nat} {p:List Int×List (List UInt8)} (w0:World) (hM:Lt M w0) (c:Int) (ht:NW M w0 B bo bs p) (hl:p.1.length<=4000000/\p.2.length<=4000000):
  Spec Tryz.prog 239 #[.int .i64 c,.pointer (some ⟨bo,0,none⟩),.pointer (some ⟨bs,0,none⟩)] w0 (λv w=>∃M',Lt M' w/\NW M' w B bo bs (eP p c)/\Step M w0 M' w (l5 M B)):=by
 obtain⟨⟨uo,go,ho⟩,⟨us,gs,hs⟩,il,jk,ZZ,Z0⟩:=ht;obtain⟨own,out⟩:=p;dsimp only at ho hs hl ⊢;have fB:bo≠bs:=λe=>by subst e;rw[go]at gs;cases gs
 refine bD (args:=[_,_,_]) (fn:=Tryz.f239) Tryz.func239 G (n:=23) Tryz.ntmps239 ?_;have S:Step M w0 M w0 (l5 M B):=(bg).eE a30 (λ_ h=>h.2);refine aQ (T.aU (ab G G ?_));refine aV G G aho (EO _ _) (λr wc hc=>?_);obtain⟨rfl,rfl⟩:=hc;refine aZ (v':= .bool (decide (fT c=true))) (by cases fT c<;>rfl) (ab rfl rfl ?_);refine aB (g:=6) G (λahZ=>?_) (λahZ=>?_)
 ·refine aj G G G G (aj G G G G (aN G G G (ad (iz G (aQ ?_)))));apply T.rf 2 [0] 2 aH mixed rfl rfl rfl rfl;intro KU NX;have nc:=NX M;have:=ah go;replace il:=(nc.mem _ this).2 il;replace go:=nc.aF go;have:=ah gs;replace jk:=(nc.mem _ this).2 jk;replace gs:=nc.aF gs;replace ho:=ho.br nc;replace hs:=hs.br nc;replace hM:=nc.lt hM;have:=S.size;replace S:=S.ar nc;refine aR aC G G G (by first|assumption|exact cp nc VR) G (Rg.dI (ab G G (Rg.dI (gV (⟨kV ⟨gX G VR a96,trivial⟩,?_⟩)))));have kp:=nH aH KU;have Hw:fT c=true\/mX c=true:=by first|exact .inl VR|exact .inr VR
  refine aV G G aa6 (Cf c _ (rC Hw)) (λr wc hc=>?_);obtain⟨rfl,rfl⟩:=hc;refine(fun(kp:ga _ _ _)=>ad ⟨G,G,λ_=>kp,?_⟩) a02;refine dT (A:=RT.int .i64) (hn:=by decide) (M:=M) aC I3 q0 G G hM (iF (by have:=rC Hw;unfold eo;split<;>omega)) (.inr ⟨rfl,rfl⟩) (λSH KW kP s1_3=>?_);have:=ah go;replace il:=(s1_3.mem _ this).2 il;replace go:=s1_3.aF go;have:=ah gs;replace jk:=(s1_3.mem _ this).2 jk;replace gs:=s1_3.aF gs;replace ho:=ho.br s1_3;replace hs:=hs.br s1_3;replace hM:=s1_3.lt hM;have:=S.size;replace S:=S.ar s1_3;refine(fun(kp:ga _ _ _)=>ad ⟨G,G,λ_=>kp,?_⟩) a02;refine cI (M:=M) (base:=B) aC I3 rfl rfl rfl rfl ho kP ck a06 a06 (by have:=ah go;omega) (λW4 NY W5 NZ nd=>?_);have:=ah go;replace il:=(nd.mem _ this).2 il;replace go:=nd.bY go (λh=>by first|exact ho.eN go h|exact ho.fN go q0 h|(have:=(ho.base _ h).1;omega));have:=ah gs;replace jk:=(nd.mem _ this).2 jk;replace gs:=nd.bY gs (λh=>by first|exact ho.eN gs h|exact ho.fN gs q0 h|(have:=(ho.base _ h).1;omega));replace kP:=kP.le nd.le;replace hs:=hs.step nd (λb h1 h2=>hs.jK ho q0 h1 h2);replace hM:=nd.lt hM;have:=S.size;replace S:=S.trans nd (λb hb h=>⟨(ho.base b h).1,(S.mem b hb).1 (ho.mut_ b h)⟩);replace ho:=NZ;refine ad ⟨G,G,λh=>absurd G h,?_⟩;refine cA (M:=NY) qB rfl rfl go rfl (a98) il (λW6 lZ pQ=>?_);change W6.heap[_]? =some (Obj.cells #[W4] _ _)at lZ
  have:=ah go;replace il:=(pQ.mem _ this).2 il;have:=ah gs;replace jk:=(pQ.mem _ this).2 jk;replace gs:=pQ.bY gs a05;replace kP:=kP.le pQ.le;replace ho:=ho.step pQ (λb hb hk=>by have hk:b=_:=hk;subst hk;first|exact absurd hb (ho.fN go q0)|exact absurd hb (ho.fN gs q0));replace hs:=hs.step pQ (λb hb hk=>by have hk:b=_:=hk;subst hk;first|exact absurd hb (hs.fN go q0)|exact absurd hb (hs.fN gs q0));replace hM:=pQ.lt hM;have:=S.size;replace S:=S.trans pQ (λk hk h=>by have h:_=_:=h;subst h;first|(exfalso;omega)|(show _<=_;omega)|exact⟨by first|omega|assumption,(S.mem _ hk).1 ((pQ.mem _ (ah go)).1 il)⟩|exact .inl rfl|exact .inr rfl|exact .inr (.inl rfl)|exact .inr (.inr rfl)|exact .inr (.inr (.inl rfl))|exact rfl);have N0:=lZ;clear go;have go:=N0;clear N0;refine ad ⟨G,G,λh=>absurd G h,tf (aS ?_)⟩;rw[show eP (own,out) c=(own++[eo c],out)from if_pos Hw];exact Ei G ⟨NY,hM,⟨⟨_,go,ho⟩,⟨_,gs,hs⟩,il,jk,ZZ,Z0⟩,S⟩
 ·refine ae G G (ab G G (ae G G ?_));refine aV G G ahp (Hp _ _) (λr wc hc=>?_);obtain⟨rfl,rfl⟩:=hc;refine aZ (v':= .bool (decide (mX c=true))) (by cases mX c<;>rfl) (au rfl rfl rfl (ad ?_));refine bH G (λc0=>?_) (λc0=>?_)
  ·refine aQ ?_;apply T.rf 2 [0] 2 aH mixed rfl rfl rfl rfl;intro KU NX;have nc:=NX M;have:=ah go;replace il:=(nc.mem _ this).2 il;replace go:=nc.aF go;have:=ah gs;replace jk:=(nc.mem _ this).2 jk;replace gs:=nc.aF gs;replace ho:=ho.br nc;replace hs:=hs.br nc;replace hM:=nc.lt hM;have:=S.size;replace S:=S.ar nc;refine aR aC G G G (by first|assumption|exact cp nc VR) G (Rg.dI (ab G G (Rg.dI (gV (⟨kV ⟨gX G VR a96,trivial⟩,?_⟩)))));have kp:=nH aH KU;have Hw:fT c=true\/mX c=true:=by first|exact .inl VR|exact .inr VR
   refine aV G G aa6 (Cf c _ (rC Hw)) (λr wc hc=>?_);obtain⟨rfl,rfl⟩:=hc;refine(fun(kp:ga _ _ _)=>ad ⟨G,G,λ_=>kp,?_⟩) a02;refine dT (A:=RT.int .i64) (hn:=by decide) (M:=M) aC I3 q0 G G hM (iF (by have:=rC Hw;unfold eo;split<;>omega)) (.inr ⟨rfl,rfl⟩) (λSH KW kP s1_3=>?_);have:=ah go;replace il:=(s1_3.mem _ this).2 il;replace go:=s1_3.aF go;have:=ah gs;replace jk:=(s1_3.mem _ this).2 jk;replace gs:=s1_3.aF gs;replace ho:=ho.br s1_3;replace hs:=hs.br s1_3;replace hM:=s1_3.lt hM;have:=S.size;replace S:=S.ar s1_3;refine(fun(kp:ga _ _ _)=>ad ⟨G,G,λ_=>kp,?_⟩) a02;refine cI (M:=M) (base:=B) aC I3 rfl rfl rfl rfl ho kP ck a06 a06 (by have:=ah go;omega) (λW4 NY W5 NZ nd=>?_);have:=ah go;replace il:=(nd.mem _ this).2 il;replace go:=nd.bY go (λh=>by first|exact ho.eN go h|exact ho.fN go q0 h|(have:=(ho.base _ h).1;omega));have:=ah gs;replace jk:=(nd.mem _ this).2 jk;replace gs:=nd.bY gs (λh=>by first|exact ho.eN gs h|exact ho.fN gs q0 h|(have:=(ho.base _ h).1;omega));replace kP:=kP.le nd.le;replace hs:=hs.step nd (λb h1 h2=>hs.jK ho q0 h1 h2);replace hM:=nd.lt hM;have:=S.size;replace S:=S.trans nd (λb hb h=>⟨(ho.base b h).1,(S.mem b hb).1 (ho.mut_ b h)⟩);replace ho:=NZ;refine ad ⟨G,G,λh=>absurd G h,?_⟩;refine cA (M:=NY) qB rfl rfl go rfl (a98) il (λW6 lZ pQ=>?_);change W6.heap[_]? =some (Obj.cells #[W4] _ _)at lZ
   have:=ah go;replace il:=(pQ.mem _ this).2 il;have:=ah gs;replace jk:=(pQ.mem _ this).2 jk;replace gs:=pQ.bY gs a05;replace kP:=kP.le pQ.le;replace ho:=ho.step pQ (λb hb hk=>by have hk:b=_:=hk;subst hk;first|exact absurd hb (ho.fN go q0)|exact absurd hb (ho.fN gs q0));replace hs:=hs.step pQ (λb hb hk=>by have hk:b=_:=hk;subst hk;first|exact absurd hb (hs.fN go q0)|exact absurd hb (hs.fN gs q0));replace hM:=pQ.lt hM;have:=S.size;replace S:=S.trans pQ (λk hk h=>by have h:_=_:=h;subst h;first|(exfalso;omega)|(show _<=_;omega)|exact⟨by first|omega|assumption,(S.mem _ hk).1 ((pQ.mem _ (ah go)).1 il)⟩|exact .inl rfl|exact .inr rfl|exact .inr (.inl rfl)|exact .inr (.inr rfl)|exact .inr (.inr (.inl rfl))|exact rfl);have N0:=lZ;clear go;have go:=N0;clear N0;refine ad ⟨G,G,λh=>absurd G h,tf (aS ?_)⟩;rw[show eP (own,out) c=(own++[eo c],out)from if_pos Hw];exact Ei G ⟨NY,hM,⟨⟨_,go,ho⟩,⟨_,gs,hs⟩,il,jk,ZZ,Z0⟩,S⟩
  ·refine aM (aQ (T.aU (aR aC G G G VR G (jD aC G ho G (fR G G G (ad ?_))))));refine bH G (λc2=>?_) (λc2=>?_)
   ·apply T.rf 2 [0] 2 aH mixed rfl rfl rfl rfl;intro wD3 sA3;have qC:=sA3 M;have:=ah go;replace il:=(qC.mem _ this).2 il;replace go:=qC.aF go;have:=ah gs;replace jk:=(qC.mem _ this).2 jk;replace gs:=qC.aF gs;replace ho:=ho.br qC;replace hs:=hs.br qC;replace hM:=qC.lt hM;have:=S.size;replace S:=S.ar qC;refine aR aI G G G (by first|assumption|exact cp qC VR) G (Rg.dI (aR aC G G G (by first|assumption|exact cp qC VR) G (Rg.dI (gV (⟨kV ⟨gX G VR a96,trivial⟩,?_⟩)))));have kp:=nH aH wD3;refine aV G G ahq (KQ (M:=rm M uo) _ (λb hb=>hM b hb.1) (ho.view hV) hV) (λr3 w3 hc=>?_);obtain⟨rfl,s3⟩:=hc;replace s3:=s3.any M;have:=ah go;replace il:=(s3.mem _ this).2 il;replace go:=s3.aF go;have:=ah gs;replace jk:=(s3.mem _ this).2 jk;replace gs:=s3.aF gs;replace ho:=ho.br s3;replace hs:=hs.br s3;replace hM:=s3.lt hM;have:=S.size;replace S:=S.ar s3;refine(fun(kp:ga _ _ _)=>ad ⟨G,G,λ_=>kp,?_⟩) a02;refine dT (A:=RT.str) (hn:=by decide) (M:=M) aI I9 q0 G G hM (mH.2 ⟨G,by have:=gI own;omega⟩) (.inr ⟨rfl,rfl⟩) (λard arf zO EU=>?_);have:=ah go;replace il:=(EU.mem _ this).2 il;replace go:=EU.aF go;have:=ah gs;replace jk:=(EU.mem _ this).2 jk;replace gs:=EU.aF gs;replace ho:=ho.br EU;replace hs:=hs.br EU;replace hM:=EU.lt hM;have:=S.size;replace S:=S.ar EU;refine(fun(kp:ga _ _ _)=>ad ⟨G,G,λ_=>kp,?_⟩) a02
    refine cI (M:=M) (base:=B) aI I9 rfl rfl rfl rfl hs zO ck a06 a06 (by have:=ah go;omega) (λSI abq arh abr EV=>?_);have:=ah go;replace il:=(EV.mem _ this).2 il;replace go:=EV.bY go (λh=>by first|exact hs.eN go h|exact hs.fN go q0 h|(have:=(hs.base _ h).1;omega));have:=ah gs;replace jk:=(EV.mem _ this).2 jk;replace gs:=EV.bY gs (λh=>by first|exact hs.eN gs h|exact hs.fN gs q0 h|(have:=(hs.base _ h).1;omega));replace zO:=zO.le EV.le;replace ho:=ho.step EV (λb h1 h2=>ho.jK hs q0 h1 h2);replace hM:=EV.lt hM;have:=S.size;replace S:=S.trans EV (λb hb h=>⟨(hs.base b h).1,(S.mem b hb).1 (hs.mut_ b h)⟩);replace hs:=abr;refine ad ⟨G,G,λh=>absurd G h,?_⟩;refine cA (M:=abq) x8 rfl rfl gs rfl ((by obtain⟨_,_,he,_⟩:=hs.isSlice;rw[he];rfl)) jk (λah0 abt Dz=>?_);change ah0.heap[_]? =some (Obj.cells #[SI] _ _)at abt;have:=ah go;replace il:=(Dz.mem _ this).2 il;replace go:=Dz.bY go a05;have:=ah gs;replace jk:=(Dz.mem _ this).2 jk;replace zO:=zO.le Dz.le;replace ho:=ho.step Dz (λb hb hk=>by have hk:b=_:=hk;subst hk;first|exact absurd hb (ho.fN go q0)|exact absurd hb (ho.fN gs q0));replace hs:=hs.step Dz (λb hb hk=>by have hk:b=_:=hk;subst hk;first|exact absurd hb (hs.fN go q0)|exact absurd hb (hs.fN gs q0));replace hM:=Dz.lt hM;have:=S.size;replace S:=S.trans Dz (λk hk h=>by have h:_=_:=h;subst h;first|(exfalso;omega)|(show _<=_;omega)|exact⟨by first|omega|assumption,(S.mem _ hk).1 ((Dz.mem _ (ah gs)).1 jk)⟩|exact .inl rfl|exact .inr rfl|exact .inr (.inl rfl)|exact .inr (.inr rfl)|exact .inr (.inr (.inl rfl))|exact rfl);have gs_:=abt;clear gs;have gs:=gs_;clear gs_;refine ad ⟨G,G,λh=>absurd G h,tf (ay ?_)⟩;refine cA (M:=abq) qB G G go G (G) il (λN1 EW l1=>?_)
    change N1.heap[_]? =some (Obj.cells #[.slice none 0 0] _ _)at EW;have:=ah go;replace il:=(l1.mem _ this).2 il;have:=ah gs;replace jk:=(l1.mem _ this).2 jk;replace gs:=l1.bY gs a05;replace zO:=zO.le l1.le;replace ho:=ho.step l1 (λb hb hk=>by have hk:b=_:=hk;subst hk;first|exact absurd hb (ho.fN go q0)|exact absurd hb (ho.fN gs q0));replace hs:=hs.step l1 (λb hb hk=>by have hk:b=_:=hk;subst hk;first|exact absurd hb (hs.fN go q0)|exact absurd hb (hs.fN gs q0));replace hM:=l1.lt hM;have:=S.size;replace S:=S.trans l1 (λk hk h=>by have h:_=_:=h;subst h;first|(exfalso;omega)|(show _<=_;omega)|exact⟨by first|omega|assumption,(S.mem _ hk).1 ((l1.mem _ (ah go)).1 il)⟩|exact .inl rfl|exact .inr rfl|exact .inr (.inl rfl)|exact .inr (.inr rfl)|exact .inr (.inr (.inl rfl))|exact rfl);have N0:=EW;clear go;have go:=N0;clear N0;refine ad ?_
    first|refine iS.nil ?_|simp+decide only[C0,qX,if_true,if_false]|skip
    have Z1: ¬(fT c=true\/mX c=true):=by rintro(h|h)<;>exact absurd h VR
    first
    |rw[show eP (own,out) c=([],out++[ik own])from(if_neg Z1).trans (if_pos (by show 0<own.length;omega))]
     exact a94
    |rw[show eP (own,out) c=([],out)from(if_neg Z1).trans (if_neg (by show¬0<own.length;omega))]
     exact a94
   ·refine aM (ay ?_);refine cA (M:=M) qB G G go G (G) il (λN1 EW l1=>?_);change N1.heap[_]? =some (Obj.cells #[.slice none 0 0] _ _)at EW;have:=ah go;replace il:=(l1.mem _ this).2 il;have:=ah gs;replace jk:=(l1.mem _ this).2 jk;replace gs:=l1.bY gs a05;replace ho:=ho.step l1 (λb hb hk=>by have hk:b=_:=hk;subst hk;first|exact absurd hb (ho.fN go q0)|exact absurd hb (ho.fN gs q0));replace hs:=hs.step l1 (λb hb hk=>by have hk:b=_:=hk;subst hk;first|exact absurd hb (hs.fN go q0)|exact absurd hb (hs.fN gs q0));replace hM:=l1.lt hM;have:=S.size;replace S:=S.trans l1 (λk hk h=>by have h:_=_:=h;subst h;first|(exfalso;omega)|(show _<=_;omega)|exact⟨by first|omega|assumption,(S.mem _ hk).1 ((l1.mem _ (ah go)).1 il)⟩|exact .inl rfl|exact .inr rfl|exact .inr (.inl rfl)|exact .inr (.inr rfl)|exact .inr (.inr (.inl rfl))|exact rfl);have N0:=EW;clear go;have go:=N0;clear N0;refine ad ?_
    first|refine iS.nil ?_|simp+decide only[C0,qX,if_true,if_false]|skip
    have Z1: ¬(fT c=true\/mX c=true):=by rintro(h|h)<;>exact absurd h VR
    first
    |rw[show eP (own,out) c=([],out++[ik own])from(if_neg Z1).trans (if_pos (by show 0<own.length;omega))]
     exact a94
    |rw[show eP (own,out) c=([],out)from(if_neg Z1).trans (if_neg (by show¬0<own.length;omega))]
     exact a94
theorem oV (l:List Int):∀p,(l.foldl eP p).1.length<=p.1.length+l.length/\(l.foldl eP p).2.length<=p.2.length+l.length:=by
 induction l with
 |nil=>intro p;simp
 |cons c l ih=>
  intro p;have:=ih (eP p c)
  have h1:(eP p c).1.length<=p.1.length+1/\(eP p c).2.length<=p.2.length+1:=by
   unfold eP
   split
   ·simp
   ·split<;>simp
  simp only[qP,cR];omega
def words (l:List UInt8):List (List UInt8):=((dM l++[32]).foldl eP ([],[])).2
theorem oW (l:List UInt8):(words l).length<=l.length+1:=by
 have h:=(oV (dM l++[32]) ([],[])).2;have h2:=gZ l;rw[bT]at h;have h3:([]:List (List UInt8)).length=0:=rfl;have h4: [(32:Int)].length=1:=rfl;unfold words;simp only[h3,h4]at h;omega
theorem yc {M:aP} {l:List UInt8} (w0:World) (hM:Lt M w0) (hl:l.length<=3900000):
  Spec Tryz.prog 182 #[.string ⟨l.toArray⟩] w0 (λv w=>(RT.str.sl).V M w (words l) v/\Step M w0 M w aH):=by
 have jq:=hM;refine bD (args:=[_]) (fn:=Tryz.f182) Tryz.func182 G (n:=23) Tryz.ntmps182 ?_;have S:Step M w0 M w0 aH:=bg;refine T.aU (Rg.a8 G G (T.aU ?_));refine eu M x8 G (λxn SJ ah1 ah2 pR yB=>?_);obtain⟨Cj,zP⟩:∃M',M'=ins M xn:=⟨_,rfl⟩;rw[<-zP]at yB;have nf:Cj xn:=by rw[zP];exact .inl G
 change SJ.heap[xn]? =some (.cells #[.slice none 0 0] _ _)at pR;replace hM:=yB.lt hM;have:=S.size;replace S:=S.ar yB;refine ad (T.aU ?_);refine eu Cj qB G (λgR W7 ah3 ah4 EX zQ=>?_);obtain⟨N2,zR⟩:∃M',M'=ins Cj gR:=⟨_,rfl⟩;rw[<-zR]at zQ;have zS:N2 gR:=by rw[zR];exact .inl G
 change W7.heap[gR]? =some (.cells #[.slice none 0 0] _ _)at EX;have:=ah pR;replace nf:=(zQ.mem _ this).2 nf;replace pR:=zQ.aF pR;replace hM:=zQ.lt hM;have:=S.size;replace S:=S.ar zQ;refine ad (T.aU (jQ (xs:=[]) (ys:=[.tmp 4,.tmp 3]) G G G (Rg.a8 G G (aQ (T.aU (ab G G ?_))))));refine aV G G ahr (Hv _ hM hV) (λv4 w4 hc=>?_);obtain⟨Dr,s4⟩:=hc;have:=ah pR;replace nf:=(s4.mem _ this).2 nf;replace pR:=s4.aF pR;have:=ah EX;replace zS:=(s4.mem _ this).2 zS;replace EX:=s4.aF EX;replace hM:=s4.lt hM;have:=S.size;replace S:=S.ar s4;refine bR aC G Dr G (ab G G (ad (bp ?_)));refine dz (σ:=Nat) (λk=>[(3,.pointer (some ⟨xn,0,none⟩)),(5,.func (.func 239) #[] #[.pointer (some ⟨gR,0,none⟩),.pointer (some ⟨xn,0,none⟩)]),(10,v4),(11,.int .i64 ((dM l).length:Int)),(12,.int .i64 (k:Int))]) (λk w=>∃M',Lt M' w/\Step M w0 M' w aH/\NW M' w w0.heap.size gR xn (((dM l).take k).foldl eP ([],[]))/\((RT.int .i64).sl).V M' w (dM l) v4/\k<=(dM l).length) (λk=>(dM l).length-k) 0 a74 ?_ ?_
 ·exact⟨_,hM,S,⟨⟨_,EX,ep _ _ _ _ _⟩,⟨_,pR,ep _ _ _ _ _⟩,zS,nf,by omega,by omega⟩,Dr,bA _⟩
 ·rintro k w ⟨M1,hM,S,ht,Dr,hk⟩;refine T.aU (cH G G G (ad (aQ ?_)));refine bH G (λc5=>?_) (λc5=>?_)
  ·refine aM (aQ (bp (T.aU ?_)));refine cD aC I3 G G G Dr ck hV (λu6 c Mx uU=>?_);refine bX al G G uU ck (λin6=>?_);refine Rg.a8 G G (ay (ab G G (ab G G ?_)));have uu:=gZ l;have GY:=oV ((dM l).take k) ([],[]);rw[bI]at GY;refine wJ (first:=[]) (captured:=[.pointer (some ⟨gR,0,none⟩),.pointer (some ⟨xn,0,none⟩)]) rfl rfl rfl aa5 (zN (B:=w0.heap.size) _ hM c ht (by simp at GY;omega)) (λr7 w7 hc=>?_);obtain⟨M2,Js,SL,s7⟩:=hc;have tk:(dM l).take (k+1)=(dM l).take k++[c]:=by rw[cj];simp only[av]at Mx;rw[Mx];rfl
   refine ad (ay (aX G G G hV (ab G G (ad ?_))));refine⟨G,k+1,a74,?_,?_⟩
   ·exact⟨M2,Js,S.mJ s7 (aK _),by rw[tk,jo];exact SL,Dr.le s7.le,by omega⟩
   ·omega
  ·refine de (T.aU (ab G G ?_));have uu:=gZ l;have GY:=oV ((dM l).take k) ([],[]);rw[bI]at GY;refine wJ (first:=[]) (captured:=[.pointer (some ⟨gR,0,none⟩),.pointer (some ⟨xn,0,none⟩)]) rfl rfl rfl aa5 (zN (B:=w0.heap.size) _ hM 32 ht (by simp at GY;omega)) (λr9 w9 hc=>?_);obtain⟨M2,Js,SL,s9⟩:=hc;have e9:eP (((dM l).take k).foldl eP ([],[])) 32=(dM l++[32]).foldl eP ([],[]):=by rw[jo,bM hV];rfl
   rw[e9]at SL;obtain⟨_,⟨us,gs,hs⟩,_⟩:=SL;replace S:=S.mJ s9 (aK _);refine ad (T.aU (aR aI G G G gs G (Rg.a8 G G (aS ?_))));exact aT G G ⟨kH jq S hs (by have:=oW l;omega),S.back⟩
theorem zT {M:aP} {l:List UInt8} (w0:World) (hM:Lt M w0) (hl:l.length<=900000):Spec Tryz.prog 182 #[.string ⟨l.toArray⟩] w0 (λv w=>(RT.str.sl).V M w (words l) v/\Step M w0 M w aH):=yc w0 hM hV
theorem zU {p:List Int×List (List UInt8)} {c:Int} (h:pO c=true):eP p c=(p.1++[eo c],p.2):=if_pos (by simpa[pO]using h)
theorem lj {p:List Int×List (List UInt8)} {c:Int} (h:pO c=false):eP p c=if 0<p.1.length then([],p.2++[ik p.1])else([],p.2):=if_neg (by simpa[pO]using h)
def My (sg:List Int) (i:Nat) (ws:List (List UInt8)):Prop:=(i<=sg.length/\(sg.take i).foldl eP ([],[])=([],ws))\/(i=sg.length+1/\((sg++[32]).foldl eP ([],[])).2=ws)
theorem N4 {c:Int} (h:pO c=true):0<=c/\c<=1114111:=rC (by simpa[pO]using h)
theorem N5:pO 32=false:=by decide
theorem xp {sg:List Int} {i:Nat} {c:Int} (h:sg[i]? =some c) (p:List Int×List (List UInt8)):(sg.take (i+1)).foldl eP p=eP ((sg.take i).foldl eP p) c:=by
 rw[cj,h,dS,jo];rfl
theorem My.skip {sg:List Int} {i:Nat} {ws:List (List UInt8)} {c:Int} (h:My sg i ws) (hc:sg[i]? =some c) (hi:pO c=false):My sg (i+1) ws:=by
 have eU:=(ak.1 hc).1;rcases h with⟨_,h⟩|⟨h,_⟩
 ·exact .inl ⟨eU,by rw[xp hc,h,lj hi];rfl⟩
 ·omega
theorem My.word {sg:List Int} {j:Nat} {own:List Int} {ws:List (List UInt8)} (h:(sg.take j).foldl eP ([],[])=(own,ws)) (ho:0<own.length) (hj:j<=sg.length) (hn:∀c,sg[j]? =some c->pO c=false):My sg (j+1) (ws++[ik own]):=by
 rcases qW hj with e|eU
 ·refine .inr ⟨by omega,?_⟩;rw[e,List.take_length]at h;rw[jo,h];show(eP (own,ws) 32).2=_;rw[lj N5,if_pos ho]
 ·have hc:sg[j]? =some sg[j]:=aq eU;exact .inl ⟨eU,by rw[xp hc,h,lj (hn _ hc),if_pos ho]⟩
theorem My.done {sg:List Int} {i:Nat} {ws:List (List UInt8)} (h:My sg i ws) (hi:sg.length<=i):((sg++[32]).foldl eP ([],[])).2=ws:=by
 rcases h with⟨h1,h⟩|⟨_,h⟩
 ·rw[bM hV]at h;rw[jo,h];show(eP ([],ws) 32).2=_;rw[lj N5];rfl
 ·exact h
theorem My.len {sg:List Int} {i:Nat} {ws:List (List UInt8)} (h:My sg i ws):ws.length<=sg.length+1:=by
 rcases h with⟨_,h⟩|⟨_,h⟩
 ·have:=(oV (sg.take i) ([],[])).2;rw[h,bI]at this;simp only[ko]at this;have e:(([]:List Int),([]:List (List UInt8))).2.length=0:=rfl;omega
 ·have:=(oV (sg++[32]) ([],[])).2;rw[h,bT]at this;have e:(([]:List Int),([]:List (List UInt8))).2.length=0:=rfl;have e2: [(32:Int)].length=1:=rfl;omega
theorem hY {sg:List Int} {j:Nat} {own:List Int} {ws:List (List UInt8)} (h:(sg.take j).foldl eP ([],[])=(own,ws)):own.length<=sg.length/\ws.length<=sg.length:=by
 have:=oV (sg.take j) ([],[]);rw[h,bI]at this;simp only[ko]at this;have e:(([]:List Int),([]:List (List UInt8))).1.length=0:=rfl;have e2:(([]:List Int),([]:List (List UInt8))).2.length=0:=rfl;omega
theorem EY {M:aP} {l:List UInt8} (w0:World) (hM:Lt M w0) (hl:l.length<=900000):
  Spec Tryz.prog 122 #[.string ⟨l.toArray⟩] w0 (λv w=>(RT.str.sl).V M w (words l) v/\Step M w0 M w aH):=by
 have jq:=hM;have uu:=gZ l;refine bD (args:=[_]) (fn:=Tryz.f122) Tryz.func122 G (n:=50) Tryz.ntmps122 ?_;have S:Step M w0 M w0 aH:=bg;refine T.aU (Rg.a8 G G (T.aU (ab G G ?_)));refine aV G G WD (yb _ hM hV) (λv1 w1 hc=>?_);obtain⟨hv,s1⟩:=hc;replace hM:=s1.lt hM;have:=S.size;replace S:=S.ar s1;refine Rg.a8 G G (T.aU (Rg.a8 G G (aQ (T.aU (Rg.a8 G G (bp ?_))))));refine dz (σ:=Nat×Value) (λq=>[(3,v1),(4,q.2),(5,.int .i64 (q.1:Int))]) (λq w=>∃M' ws,Lt M' w/\Step M w0 M' w aH/\Own RT.str 9 M' w w0.heap.size q.2 ws/\((RT.int .i64).sl).V M' w (dM l) v1/\My (dM l) q.1 ws) (λq=>(dM l).length+1-q.1) (0,.slice none 0 0) a11 ?_ ?_
 ·exact⟨M,[],hM,S,ep _ _ _ _ _,hv,.inl ⟨bA _,G⟩⟩
 ·rintro⟨i,u4⟩ w ⟨M1,ws,hM,S,uV,hv,hwa⟩;dsimp only at uV hwa ⊢;refine aQ (T.aU (ab G G (ab G G (bR aC G hv G (cH G G G (ad ?_))))));refine bH G (λc4=>?_) (λc4=>?_)
  ·refine aM (aQ (bp (T.aU (ab G G (ab G G ?_)))));refine cD aC I3 G G G hv ck hV (λabv c hgc huc=>?_);refine bX al G G huc ck (λinc=>?_);rw[av]at hgc;refine aV G G WE (zJ c _) (λr wc hc=>?_);obtain⟨rfl,rfl⟩:=hc;refine aZ (v':= .bool (decide (pO c=true))) (by cases pO c<;>rfl) (Rg.a8 rfl rfl (aQ (T.aU (ab rfl rfl (jd rfl rfl (aZ (v':= .bool (decide (pO c=false))) (by cases pO c<;>rfl) (ad ?_)))))));refine bH G (λc7=>?_) (λc7=>?_)
   ·refine de (ay (ab G G (aX G G G hV (Rg.a8 G G ?_))));refine⟨G,(i+1,u4),a11,?_,?_⟩
    ·exact⟨M1,ws,hM,S,uV,hv,hwa.skip hgc VR⟩
    ·dsimp only;omega
   ·refine aM (T.aU (Rg.a8 G G (aQ (bp ?_))));refine dz (σ:=Nat×List Int×Value) (λq=>[(3,v1),(4,u4),(5,.int .i64 (q.1:Int)),(7,q.2.2)]) (λq w=>∃M',Lt M' w/\Step M w0 M' w aH/\Own RT.str 9 M' w w0.heap.size u4 ws/\Own (RT.int .i64) 3 M' w w0.heap.size q.2.2 q.2.1/\((RT.int .i64).sl).V M' w (dM l) v1/\((dM l).take q.1).foldl eP ([],[])=(q.2.1,ws)/\i<=q.1/\q.1<=(dM l).length/\(i<q.1->0<q.2.1.length)) (λq=>(dM l).length-q.1) (i,[],.slice none 0 0) VS ?_ ?_
    ·have ah5:((dM l).take i).foldl eP ([],[])=([],ws):=by
      rcases hwa with⟨_,h⟩|⟨h,_⟩
      ·exact h
      ·omega
     exact⟨M1,hM,S,uV,ep _ _ _ _ _,hv,ah5,aK _,by dsimp only;omega,λh=>absurd h (kG _)⟩
    ·rintro⟨j,own,u7⟩ w ⟨M2,hM,S,uV,uw,hv,hf,ZY,xX,tw⟩;dsimp only at uw hf ZY xX tw ⊢;refine aQ (T.aU (ab G G (ab G G (bR aC G hv G (cH G G G (ab G G ?_))))));refine aB (g:=27) G (λah6=>?_) (λah6=>?_)
     ·refine ae G G (ab G G (ae G G (ab G G (ae G G ?_))));refine cD aC I3 G G G hv ck hV (λarj d yd hud=>?_);refine ae G G ?_;refine bX al G G hud ck (λind=>?_);rw[av]at yd;refine ae G G ?_;refine aV G G WE (zJ d _) (λr wc hc=>?_);obtain⟨rfl,rfl⟩:=hc;refine aZ (v':= .bool (decide (pO d=true))) (by cases pO d<;>rfl) (aN rfl rfl rfl (ad ?_));refine bH G (λc9=>?_) (λc9=>?_)
      ·refine aM (bp (T.aU (ab G G (ab G G (ab G G ?_)))));refine cD aC I3 G G G hv ck hV (λabw e Mr hue=>?_);refine bX al G G hue ck (λom=>?_);rw[av]at Mr;have W8:pO e=true:=by rw[yd]at Mr;cases Mr;assumption
       refine aV G G aa4 (zI e _ (N4 W8)) (λr wc hc=>?_);obtain⟨rfl,rfl⟩:=hc;refine dT (A:=RT.int .i64) (hn:=by decide) (M:=M2) aC I3 q0 G G hM (iF (by have:=N4 W8;unfold eo;split<;>omega)) (.inr ⟨rfl,rfl⟩) (λanw anx Hx EZ=>?_);replace hv:=hv.le EZ.le;replace uV:=uV.br EZ;replace uw:=uw.br EZ;replace hM:=EZ.lt hM;have:=S.size;replace S:=S.ar EZ;refine cI (M:=M2) (base:=w0.heap.size) aC I3 G G G G uw Hx ck ai4 ai4 (S.size) (λUN abx aby W9 qo=>?_);replace hv:=hv.le qo.le;replace Hx:=Hx.le qo.le;replace uV:=uV.step qo (λb h1 h2=>uV.jK uw q0 h1 h2);replace hM:=qo.lt hM;have:=S.size;replace S:=S.cf qo uw (aK _);replace uw:=W9;refine Rg.a8 G G (ay (ab G G (aX G G G hV (Rg.a8 G G ?_))));refine⟨G,(j+1,own++[eo e],UN),VS,?_,?_⟩
       ·exact⟨abx,hM,S,uV,uw,hv,by rw[xp Mr,hf,zU W8],by dsimp only;omega,by dsimp only;omega,λ_=>by simp⟩
       ·dsimp only;omega
      ·refine de (ay (ab G G (ab G G ?_)));refine aV G G WH (tM (M:=rm M2 u7) _ (λb hb=>hM b hb.1) (uw.view (by have:=hY hf;omega)) (by have:=hY hf;omega)) (λr12 N6 Xa=>?_);obtain⟨rfl,nV⟩:=Xa;replace nV:=nV.any M2;replace hv:=hv.le nV.le;replace uV:=uV.br nV;replace uw:=uw.br nV;replace hM:=nV.lt hM;have:=S.size;replace S:=S.ar nV;refine dT (A:=RT.str) (hn:=by decide) (M:=M2) aI I9 q0 G G hM (mH.2 ⟨G,by have:=gI own;have:=hY hf;omega⟩) (.inr ⟨rfl,rfl⟩) (λabz abA tN rD=>?_);replace hv:=hv.le rD.le;replace uV:=uV.br rD;replace uw:=uw.br rD;replace hM:=rD.lt hM;have:=S.size;replace S:=S.ar rD;refine cI (M:=M2) (base:=w0.heap.size) aI I9 G G G G uV tN ck ai4 ai4 (S.size) (λzV rE N7 tO fy=>?_);replace hv:=hv.le fy.le;replace tN:=tN.le fy.le;replace uw:=uw.step fy (λb h1 h2=>uw.jK uV q0 h1 h2);replace hM:=fy.lt hM;have:=S.size;replace S:=S.cf fy uV (aK _);replace uV:=tO;refine Rg.a8 G G (ay (ab G G (aX G G G hV (Rg.a8 G G ?_))))
       have tw:0<own.length:=by
        rcases qW ZY with e|h
        ·exfalso;subst e
         first|omega|(rw[hgc]at yd;cases yd;exact c9 (by cases hq:pO c with|true=>rfl|false=>exact absurd hq VR))
        ·exact tw h
       have KX:∀c,(dM l)[j]? =some c->pO c=false:=λc hc=>by
        first|(rw[dO hV]at hc;cases hc)|(rw[yd]at hc;cases hc;exact fH.2 c9)
       refine⟨G,(j+1,zV),a11,?_,?_⟩
       ·exact⟨rE,_,hM,S,uV,hv,My.word hf tw xX KX⟩
       ·dsimp only;omega
     ·refine aj G G G G (aj G G G G (aj G G G G (aj G G G G (aj G G G G (au G G G (ad (fQ G (de (ay (ab G G (ab G G ?_)))))))))));refine aV G G WH (tM (M:=rm M2 u7) _ (λb hb=>hM b hb.1) (uw.view (by have:=hY hf;omega)) (by have:=hY hf;omega)) (λr12 N6 Xa=>?_);obtain⟨rfl,nV⟩:=Xa;replace nV:=nV.any M2;replace hv:=hv.le nV.le;replace uV:=uV.br nV;replace uw:=uw.br nV;replace hM:=nV.lt hM;have:=S.size;replace S:=S.ar nV;refine dT (A:=RT.str) (hn:=by decide) (M:=M2) aI I9 q0 G G hM (mH.2 ⟨G,by have:=gI own;have:=hY hf;omega⟩) (.inr ⟨rfl,rfl⟩) (λabz abA tN rD=>?_);replace hv:=hv.le rD.le;replace uV:=uV.br rD;replace uw:=uw.br rD;replace hM:=rD.lt hM;have:=S.size;replace S:=S.ar rD;refine cI (M:=M2) (base:=w0.heap.size) aI I9 G G G G uV tN ck ai4 ai4 (S.size) (λzV rE N7 tO fy=>?_);replace hv:=hv.le fy.le;replace tN:=tN.le fy.le;replace uw:=uw.step fy (λb h1 h2=>uw.jK uV q0 h1 h2);replace hM:=fy.lt hM;have:=S.size;replace S:=S.cf fy uV (aK _);replace uV:=tO;refine Rg.a8 G G (ay (ab G G (aX G G G hV (Rg.a8 G G ?_))))
      have tw:0<own.length:=by
       rcases qW ZY with e|h
       ·exfalso;subst e
        first|omega|(rw[hgc]at yd;cases yd;exact c9 (by cases hq:pO c with|true=>rfl|false=>exact absurd hq VR))
       ·exact tw h
      have KX:∀c,(dM l)[j]? =some c->pO c=false:=λc hc=>by
       first|(rw[dO hV]at hc;cases hc)|(rw[yd]at hc;cases hc;exact fH.2 c9)
      refine⟨G,(j+1,zV),a11,?_,?_⟩
      ·exact⟨rE,_,hM,S,uV,hv,My.word hf tw xX KX⟩
      ·dsimp only;omega
  ·refine de (T.aU (ab G G (Rg.a8 G G (aS ?_))));have e:=hwa.done hV;have e2:words l=ws:=e;rw[e2];exact aT G G ⟨uV.close jq S (by have:=hwa.len;omega),S.back⟩
def ng:Nat->List (List UInt8)->Int
 |_,[]=>0
 |i,w::ws=>if 30<w.length then 3 else if 500<=i then 7 else ng (i+1) ws
theorem Jt {i k:Nat} {ws:List (List UInt8)} {x:List UInt8} (h:ws[k]? =some x):ng i (ws.drop k)=if 30<x.length then 3 else if 500<=i then 7 else ng (i+1) (ws.drop (k+1)):=by
 have eU:=(ak.1 h).1;rw[fe eU,(ak.1 h).2];rfl
theorem eF {M:aP} {w:World} {x:List UInt8} {v:Value} (h:RT.str.V M w x v):v= .string ⟨x.toArray⟩:=(mH.1 h).1
theorem KY {M:aP} {l:List UInt8} (w0:World) (hM:Lt M w0) (hl:l.length<=900000):
  Spec Tryz.prog 138 #[.string ⟨l.toArray⟩] w0 (λv w=>(∃u,v= .tuple #[u,.int .i64 (ng 0 (words l))]/\(ng 0 (words l)=0->∃a cap,u= .slice a (words l).length cap))/\Step M w0 M w aH):=by
 have jq:=hM;refine bD (args:=[_]) (fn:=Tryz.f138) Tryz.func138 G (n:=30) Tryz.ntmps138 ?_;have S:Step M w0 M w0 aH:=bg;refine T.aU (aJ G G (Rg.a8 G G (T.aU (Rg.a8 G G (aQ (T.aU ?_))))));refine ab G G ?_;refine aV G G WI (zT _ hM hl) (λv1 w1 hc=>?_);obtain⟨hv,s1⟩:=hc;replace hM:=s1.lt hM;have:=S.size;replace S:=S.ar s1;refine bR aI G hv G (ab G G (ad (bp ?_)));refine dz (σ:=Nat×Value) (λq=>[(8,v1),(4,q.2),(9,.int .i64 ((words l).length:Int)),(10,.int .i64 (q.1:Int))]) (λq w=>(∃M' xs,Lt M' w/\Step M w0 M' w aH/\Own (RT.pair RT.str (RT.int .i64)) 218 M' w w0.heap.size q.2 xs/\xs.length=q.1/\(RT.str.sl).V M' w (words l) v1)/\ng 0 (words l)=ng q.1 ((words l).drop q.1)/\q.1<=(words l).length/\q.1<=500) (λq=>(words l).length-q.1) (0,.slice none 0 0) VS ?_ ?_
 ·exact⟨⟨M,[],hM,S,ep _ _ _ _ _,G,hv⟩,G,bA _,bA _⟩
 ·rintro⟨i,u⟩ w ⟨⟨M1,xs,hM,S,ho,yM,hv⟩,KB,hi,hi5⟩;dsimp only at ho yM KB hi hi5 ⊢;refine T.aU (cH G G G (ad (aQ ?_)));refine bH G (λc3=>?_) (λc3=>?_)
  ·refine aM (aQ (bp (T.aU (ab G G ?_))));refine cD aI I9 G G G hv ck hV (λabB x Ju hux=>?_);refine bV aE G G G G G hux ck (λvx zW=>?_);rw[av]at Ju;obtain rfl:=eF zW;have ht:=Jt (i:=i) Ju;refine aJ G G (Rg.a8 G G (aQ (bp (T.aU (ab G G (te aE G G (aZ (v':= .int .i64 (x.length:Int)) a81 (fR G G G (aJ G G ?_)))))))));refine ad ?_;refine bH G (λc5=>?_) (λc5=>?_)
   ·refine T.aU (aJ G G (Rg.a8 G G (aS ?_)));rw[KB,ht,if_pos hV];exact af4
   ·refine T.aU (ab G G (je G G G (Rg.a8 G G ?_)));refine bH G (λc7=>?_) (λc7=>?_)
    ·refine T.aU (aJ G G (Rg.a8 G G (aS ?_)));rw[KB,ht,if_neg hV,if_pos hV];exact af4
    ·refine aM (ay (ab rfl rfl (ab rfl rfl (ab rfl rfl (cx (places:=[(0,1),(1,1)]) Tryz.underlying218 KO aa1 rfl ⟨_,_,rfl,rfl,_,_,rfl,rfl,rfl⟩ (out:=[_,_]) ⟨0,[_],rfl,rfl,by simp[Value.cells],1,[_],rfl,rfl,by simp[Value.cells],rfl⟩ ?_)))));refine dT (A:=(RT.pair RT.str (RT.int .i64))) (hn:=by decide) (M:=M1) Tryz.underlying154 KO q0 G G hM (fM zW (iF (x:=(i:Int)) hV) G G G G) (.inl G) (λabk ahL N8 BF=>?_);replace hv:=hv.le BF.le;replace zW:=zW.le BF.le;replace ho:=ho.br BF;replace hM:=BF.lt hM;have:=S.size;replace S:=S.ar BF;refine cI (M:=M1) (base:=w0.heap.size) Tryz.underlying154 KO rfl rfl rfl rfl ho N8 ck a06 a06 (S.size) (λah9 aia abC abD rF=>?_);replace hv:=hv.le rF.le;replace zW:=zW.le rF.le;replace N8:=N8.le rF.le;replace hM:=rF.lt hM;have:=S.size;replace S:=S.cf rF ho (aK _);replace ho:=abD;refine Rg.a8 G G (ay (aX G G G hV (ab G G (ad ?_))));refine⟨G,(i+1,ah9),VS,?_,?_⟩
     ·exact⟨⟨aia,_,hM,S,ho,by simp[yM],hv⟩,by rw[KB,ht,if_neg hV,if_neg hV],by dsimp only;omega,by dsimp only;omega⟩
     ·dsimp only;omega
  ·refine de (T.aU (ab G G (aJ G G (Rg.a8 G G (aS ?_)))));have e:ng 0 (words l)=0:=by rw[KB,jF hV];rfl
   rw[e];obtain⟨a,cap,he,_⟩:=ho.isSlice;exact fk rfl rfl rfl ⟨⟨u,rfl,λ_=>⟨a,cap,by rw[he,yM];congr 1;omega⟩⟩,S.back⟩
theorem Hy {M:aP} {l:List UInt8} (w0:World) (hM:Lt M w0) (hl:l.length<=900000):
  Spec Tryz.prog 74 #[.string ⟨l.toArray⟩] w0 (λv w=>(∃u,v= .tuple #[u,.int .i64 (ng 0 (words l))]/\(ng 0 (words l)=0->∃a cap,u= .slice a (words l).length cap))/\Step M w0 M w aH):=by
 have jq:=hM;refine bD (args:=[_]) (fn:=Tryz.f74) Tryz.func74 G (n:=33) Tryz.ntmps74 ?_;have S:Step M w0 M w0 aH:=bg;refine T.aU (aJ G G (Rg.a8 G G (T.aU (ab G G ?_))));refine aV G G ag5 (EY _ hM hl) (λv1 w1 hc=>?_);obtain⟨hv,s1⟩:=hc;replace hM:=s1.lt hM;have:=S.size;replace S:=S.ar s1;refine Rg.a8 G G (T.aU (Rg.a8 G G (aQ (T.aU (Rg.a8 G G (bp ?_))))));refine dz (σ:=Nat×Value) (λq=>[(4,v1),(5,q.2),(6,.int .i64 (q.1:Int))]) (λq w=>(∃M' xs,Lt M' w/\Step M w0 M' w aH/\Own (RT.pair RT.str (RT.int .i64)) 218 M' w w0.heap.size q.2 xs/\xs.length=q.1/\(RT.str.sl).V M' w (words l) v1)/\ng 0 (words l)=ng q.1 ((words l).drop q.1)/\q.1<=(words l).length/\q.1<=500) (λq=>(words l).length-q.1) (0,.slice none 0 0) a11 ?_ ?_
 ·exact⟨⟨M,[],hM,S,ep _ _ _ _ _,G,hv⟩,G,bA _,bA _⟩
 ·rintro⟨i,u⟩ w ⟨⟨M1,xs,hM,S,ho,yM,hv⟩,KB,hi,hi5⟩;dsimp only at ho yM KB hi hi5 ⊢;refine aQ (T.aU (ab G G (ab G G (bR aI G hv G (cH G G G (ad ?_))))));refine bH G (λc4=>?_) (λc4=>?_)
  ·refine aM (aQ (bp (aQ (T.aU (ab G G (ab G G ?_))))));refine cD aI I9 G G G hv ck hV (λabv x Ju hux=>?_);refine bV aE G G G G G hux ck (λvx zW=>?_);rw[av]at Ju;obtain rfl:=eF zW;have ht:=Jt (i:=i) Ju;refine te aE G G (aZ (v':= .int .i64 (x.length:Int)) a81 (fR G G G (ad ?_)));refine bH G (λc6=>?_) (λc6=>?_)
   ·refine T.aU (aJ G G (Rg.a8 G G (aS ?_)));rw[KB,ht,if_pos hV];exact af4
   ·refine aM (aQ (T.aU (ab G G (cu G G G (ad ?_)))));refine bH G (λc8=>?_) (λc8=>?_)
    ·refine T.aU (aJ G G (Rg.a8 G G (aS ?_)));rw[KB,ht,if_neg hV,if_pos hV];exact af4
    ·refine aM (ay (ab G G (ab G G (ab G G ?_))));refine cD aI I9 G G G hv ck hV (λabw y KZ huy=>?_);refine bV aE G G G G G huy ck (λvy Z2=>?_);rw[av]at KZ;obtain rfl:=eF Z2;obtain rfl:x=y:=by rw[Ju]at KZ;exact aG KZ
     refine ab rfl rfl (cx (places:=[(0,1),(1,1)]) Tryz.underlying218 KO aa1 rfl ⟨_,_,rfl,rfl,_,_,rfl,rfl,rfl⟩ (out:=[_,_]) ⟨0,[_],rfl,rfl,by simp[Value.cells],1,[_],rfl,rfl,by simp[Value.cells],rfl⟩ ?_);refine dT (A:=(RT.pair RT.str (RT.int .i64))) (hn:=by decide) (M:=M1) Tryz.underlying154 KO q0 G G hM (fM Z2 (iF (x:=(i:Int)) hV) G G G G) (.inl G) (λUN aby Hz qo=>?_);replace hv:=hv.le qo.le;replace zW:=zW.le qo.le;replace Z2:=Z2.le qo.le;replace ho:=ho.br qo;replace hM:=qo.lt hM;have:=S.size;replace S:=S.ar qo;refine cI (M:=M1) (base:=w0.heap.size) Tryz.underlying154 KO rfl rfl rfl rfl ho Hz ck a06 a06 (S.size) (λabE abF Jv Xb gS=>?_);replace hv:=hv.le gS.le;replace zW:=zW.le gS.le;replace Z2:=Z2.le gS.le;replace Hz:=Hz.le gS.le;replace hM:=gS.lt hM;have:=S.size;replace S:=S.cf gS ho (aK _);replace ho:=Xb;refine Rg.a8 G G (ay (ab G G (aX G G G hV (Rg.a8 G G ?_))));refine⟨G,(i+1,abE),a11,?_,?_⟩
     ·exact⟨⟨abF,_,hM,S,ho,by simp[yM],hv⟩,by rw[KB,ht,if_neg hV,if_neg hV],by dsimp only;omega,by dsimp only;omega⟩
     ·dsimp only;omega
  ·refine de (T.aU (ab G G (aJ G G (Rg.a8 G G (aS ?_)))));have e:ng 0 (words l)=0:=by rw[KB,jF hV];rfl
   rw[e];obtain⟨a,cap,he,_⟩:=ho.isSlice;exact fk rfl rfl rfl ⟨⟨u,rfl,λ_=>⟨a,cap,by rw[he,yM];congr 1;omega⟩⟩,S.back⟩
end Go.K
namespace Go.Proofs
open Go.Shelf
def Tryz.E0:Go.Shelf.Ren:=⟨fun|160=>183|232=>246|231=>245|227=>247|234=>249|233=>248|236=>251|235=>250|228=>283|271=>286|151=>285|197=>284|120=>311|152=>310|260=>309|137=>319|119=>308|224=>320|225=>321|217=>323|266=>324|n=>n,fun|9=>9|4=>4|3=>3|5=>5|117=>340|116=>339|0=>0|124=>343|21=>21|105=>373|46=>262|119=>401|139=>404|138=>403|n=>n,fun|3=>2|4=>3|n=>n⟩
theorem Tryz.SM:Go.Proofs.Lays.n160 Tryz.prog Tryz.E0:={
 mixed:=by kernel_rfl
 f119:=Tryz.func308.trans a03
 f120:=Tryz.func311.trans a03
 f137:=Tryz.func319.trans a03
 f151:=Tryz.func285.trans a03
 f152:=Tryz.func310.trans a03
 f160:=Tryz.func183.trans a03
 f197:=Tryz.func284.trans a03
 f217:=Tryz.func323.trans a03
 f224:=Tryz.func320.trans a03
 f225:=Tryz.func321.trans a03
 f227:=Tryz.func247.trans a03
 f228:=Tryz.func283.trans a03
 f231:=Tryz.func245.trans a03
 f232:=Tryz.func246.trans a03
 f233:=Tryz.func248.trans a03
 f234:=Tryz.func249.trans a03
 f235:=Tryz.func250.trans a03
 f236:=Tryz.func251.trans a03
 f260:=Tryz.func309.trans a03
 f266:=Tryz.func324.trans a03
 f271:=Tryz.func286.trans a03
 t0:=Bt
 a0:=Tryz.isAgg0
 z0:=Tryz.sizeOf0
 v0:=Tryz.zeroValue0
 t3:=al
 a3:=Tryz.isAgg3
 z3:=Tryz.sizeOf3
 v3:=Tryz.zeroValue3
 t4:=Bv
 a4:=Tryz.isAgg4
 z4:=Tryz.sizeOf4
 v4:=Tryz.zeroValue4
 t5:=dq
 a5:=Tryz.isAgg5
 z5:=Tryz.sizeOf5
 v5:=Tryz.zeroValue5
 t9:=aE
 a9:=Tryz.isAgg9
 z9:=Bu
 v9:=oF
 t21:=Tryz.underlying21
 a21:=Tryz.isAgg21
 z21:=Tryz.sizeOf21
 v21:=Tryz.zeroValue21
 t46:=Tryz.underlying262
 a46:=Tryz.isAgg262
 z46:=Tryz.sizeOf262
 v46:=Tryz.zeroValue262
 t105:=Tryz.underlying373
 a105:=Tryz.isAgg373
 z105:=Tryz.sizeOf373
 v105:=Tryz.zeroValue373
 t116:=Tryz.underlying339
 a116:=Tryz.isAgg339
 z116:=Tryz.sizeOf339
 t117:=Tryz.underlying340
 a117:=Tryz.isAgg340
 z117:=Tryz.sizeOf340
 v117:=Tryz.zeroValue340
 t119:=Tryz.underlying401
 a119:=Tryz.isAgg401
 z119:=Tryz.sizeOf401
 t124:=Tryz.underlying343
 a124:=Tryz.isAgg343
 z124:=Tryz.sizeOf343
 v124:=Tryz.zeroValue343
 t138:=Tryz.underlying403
 a138:=Tryz.isAgg403
 z138:=Tryz.sizeOf403
 v138:=Tryz.zeroValue403
 t139:=Tryz.underlying404
 a139:=Tryz.isAgg404
 z139:=Tryz.sizeOf404
 v139:=Tryz.zeroValue404
 g3:=by kernel_rfl
 g4:=by kernel_rfl}
end Go.Proofs
namespace Go.K
open Go.Proofs
set_option maxRecDepth 10000
open Go.RowKit Go.Shelf
def mg:List UInt8:=[97,98,99,100,101,102,103,104,105,106,107,108,109,110,111,112,113,114,115,116,117,118,119,120,121,122]
def iM (b:UInt8):Bool:=decide (97<=b.toNat/\b.toNat<=122)
def eK (s:List UInt8):Bool:=decide (1<=s.length/\s.length<=12)&&s.all iM
theorem E1 (b:UInt8):mg.contains b=iM b:=by
 have key:∀n:Fin 256,mg.contains (UInt8.ofNat n)=iM (UInt8.ofNat n):=by decide
 have:=key ⟨b.toNat,UInt8.toNat_lt b⟩;simpa using this
theorem drop_nil {α:Type} (p:α->Bool):∀l:List α,l.dropWhile p=[]↔∀x∈l,p x=true
 |[]=>by simp
 |x::l=>by
  rw[List.dropWhile_cons];by_cases h:p x=true
  ·rw[if_pos h,drop_nil p l];simp[h]
  ·rw[if_neg h];simp[h]
theorem zX (s:List UInt8):Lib.trimS s mg=[]↔s.all iM=true:=by
 have e:(λb=>mg.contains b)=iM:=funext E1;unfold Lib.trimS Lib.trimLeftS Lib.trimRightS;rw[e,drop_nil,eI];constructor
 ·intro h
  have h2:s.reverse.dropWhile iM=[]:=by
   cases hd:s.reverse.dropWhile iM with
   |nil=>rfl
   |cons x r=>
    have h3:=h x (by rw[hd];simp);have h4:=List.head?_dropWhile_not iM s.reverse;rw[hd]at h4;simp[h3]at h4
  intro x hx;exact(drop_nil _ _).1 h2 x (List.mem_reverse.2 hx)
 ·intro h x hx;rw[(drop_nil iM s.reverse).2 (λy hy=>h y (List.mem_reverse.1 hy))]at hx
  cases hx
theorem K0 (s:List UInt8) (hs:s.length<=140737488355328) (w:World):Spec Tryz.prog 183 #[.string ⟨s.toArray⟩,.string ⟨mg.toArray⟩] w (λv w'=>v= .string ⟨(Lib.trimS s mg).toArray⟩/\∀M,Step M w M w' aH):=
 (Any.strings_Trim_ascii Tryz.SM Tryz.zeroValue339 am2 ⟨s.toArray⟩ ⟨mg.toArray⟩ w (by simp[ByteArray.size];omega) q0 (λj b hj=>by
  have hm:b∈mg:=ao hj;have:=E1 b;rw[gu.2 hm]at this;have h2:97<=b.toNat/\b.toNat<=122:=by simpa[iM]using this.symm
  omega)).mono λe w' ⟨h1,h2⟩=>⟨_,h1,rfl,λM=> .Dk h2 M⟩
theorem xq (s:List UInt8) (hs:s.length<=140737488355328) (w0:World):
  Spec Tryz.prog 139 #[.string ⟨s.toArray⟩] w0 (λv w=>v= .bool (eK s)/\∀M,Step M w0 M w aH):=by
 refine bD (args:=[_]) (fn:=Tryz.f139) Tryz.func139 G (n:=15) Tryz.ntmps139 (T.aU (Rg.a8 G G (T.aU (ab G G (Rg.Je (p:=s) (q:=[]) G G G (ab G G ?_))))));refine aB (g:=5) G (λja=>?_) (λja=>?_)
 ·refine ae G G (ab G G (ae G G (te aE G G (aZ (v':= .int .i64 (s.length:Int)) a81 (ae G G (gr G G G (aN G G G (ab G G ?_))))))));refine aB (g:=10) G (λaib=>?_) (λaib=>?_)
  ·refine ae G G (ab G G (ae G G ?_));refine aV G G ahf (K0 s hs _) (λr w9 hc=>?_);obtain⟨rfl,s9⟩:=hc;refine ae G G (Rg.Ej (p:=Lib.trimS s mg) (q:=[]) G G G (aN G G G (Rg.a8 G G (aS ?_))))
   first
   |exact aT rfl rfl ⟨by rw[eK,decide_eq_true (p:=1<=s.length/\s.length<=12) ⟨eA.2 ja,by omega⟩,dF];exact congrArg Value.bool (by rw[kq,decide_eq_true_eq];exact zX s),s9⟩
   |exact ad0
   |(have Xc:s=[]:=Classical.not_not.1 ja
     subst Xc;exact aT G G ⟨G,λM=>bg⟩)
  ·refine aj G G G G (aj G G G G (aj G G G G (au G G G (Rg.a8 G G (aS ?_)))))
   first
   |exact aT rfl rfl ⟨by rw[eK,decide_eq_true (p:=1<=s.length/\s.length<=12) ⟨eA.2 ja,by omega⟩,dF];exact congrArg Value.bool (by rw[kq,decide_eq_true_eq];exact zX s),s9⟩
   |exact ad0
   |(have Xc:s=[]:=Classical.not_not.1 ja
     subst Xc;exact aT G G ⟨G,λM=>bg⟩)
 ·refine aj G G G G (aj G G G G (aj G G G G (au G G G (ab G G (aj G G G G (aj G G G G (aj G G G G (au G G G (Rg.a8 G G (aS ?_))))))))))
  first
  |exact aT rfl rfl ⟨by rw[eK,decide_eq_true (p:=1<=s.length/\s.length<=12) ⟨eA.2 ja,by omega⟩,dF];exact congrArg Value.bool (by rw[kq,decide_eq_true_eq];exact zX s),s9⟩
  |exact ad0
  |(have Xc:s=[]:=Classical.not_not.1 ja
    subst Xc;exact aT G G ⟨G,λM=>bg⟩)
theorem Oa {s:List UInt8} (h:∀(k:Nat) c,s[k]? =some c->iM c=true):s.all iM=true:=eI.2 λc hc=>by
 obtain⟨k,hk⟩:=bQ.1 hc;exact h k c hk
theorem uW {s:List UInt8} {i:Nat} (h:i<s.length):s[i]? =some (s.getD i 0):=by rw[cL,aq h];rfl
theorem ll {M:aP} {w:World} {p:Fd} {v:Value} (h:RT.fd.V M w p v):v= .agg #[.string ⟨p.1.toArray⟩,.string ⟨p.2.toArray⟩]:=by
 obtain⟨vs,⟨va,vb,rfl,⟨rfl,_⟩,⟨rfl,_⟩⟩,rfl⟩:=h;rfl
theorem Xd {M:aP} {w:World} {p:Fd} {v:Value} (h:RT.fd.V M w p v):p.1.length<=140737488355328/\p.2.length<=140737488355328:=by
 obtain⟨vs,⟨va,vb,rfl,⟨rfl,h1⟩,⟨rfl,h2⟩⟩,_⟩:=h;exact⟨h1,h2⟩
def BG:List Fd->List Fd->Nat->Int
 |_,[],n=>if 500<n then 7 else 0
 |seen,f::fs,n=>if eK f.1=false then 4 else if(seen.any λg=>decide (g.1=f.1))=true then 5 else if ng 0 (words f.2)≠0 then ng 0 (words f.2)else BG (seen++[f]) fs (n+(words f.2).length)
def oX (d:Dc):Int:=if 8<d.2.length then 7 else BG [] d.2 0
theorem Jw {fs:List Fd} {i n:Nat} {x:Fd} (h:fs[i]? =some x):BG (fs.take i) (fs.drop i) n=if eK x.1=false then 4 else if((fs.take i).any λg=>decide (g.1=x.1))=true then 5 else if ng 0 (words x.2)≠0 then ng 0 (words x.2)else BG (fs.take (i+1)) (fs.drop (i+1)) (n+(words x.2).length):=by
 have eU:=(ak.1 h).1;rw[fe eU,(ak.1 h).2,cj,h];rfl
theorem uY {fs:List Fd} {i n:Nat} (h:fs.length<=i):BG (fs.take i) (fs.drop i) n=if 500<n then 7 else 0:=by
 rw[jF h];rfl
theorem tP (s:List UInt8) (hs:s.length<=140737488355328) (w0:World):
  Spec Tryz.prog 58 #[.string ⟨s.toArray⟩] w0 (λv w=>v= .bool (eK s)/\w=w0):=by
 refine bD (args:=[_]) (fn:=Tryz.f58) Tryz.func58 G (n:=28) Tryz.ntmps58 (T.aU (Rg.a8 G G (aQ (T.aU (Rg.a8 G G (bp ?_))))));refine dz (σ:=Nat) (λi=>[(0,.string ⟨s.toArray⟩),(3,.int .i64 (i:Int))]) (λi w=>w=w0/\i<=s.length/\∀k c,k<i->s[k]? =some c->iM c=true) (λi=>s.length-i) 0 a83 ?_ ?_
 ·exact⟨G,bA _,λk c h=>absurd h (fp k)⟩
 ·rintro i w ⟨rfl,hi,fh⟩;refine aQ (T.aU (ab G G (ab G G (te aE G G (aZ (v':= .int .i64 (s.length:Int)) a81 (cH G G G (ad ?_)))))));refine bH G (λc2=>?_) (λc2=>?_)
  ·refine aM (aQ (bp (T.aU (ab G G (ab G G (Rg.Jl (c:=s.getD i 0) aE G G G hV (by rw[av];exact uW hV) (cH G G G (ab G G ?_))))))));refine aB (g:=14) G (λaic=>?_) (λaic=>?_)
   ·refine aj G G G G (aj G G G G (aj G G G G (aj G G G G (aN G G G (ad (iz G (T.aU (Rg.a8 G G (aS ?_)))))))))
    have hx:s.all iM=false:=fH.2 λh=>by
     have h2:=eI.1 h _ (ao (uW (s:=s) (i:=i) hV));simp only[iM,decide_eq_true_eq]at h2;omega
    exact aT rfl rfl ⟨by rw[eK,hx,Bool.and_false],rfl⟩
   ·refine ae G G (ab G G (ae G G (ab G G (ae G G (Rg.Jl (c:=s.getD i 0) aE G G G hV (by rw[av];exact uW hV) (ae G G (fR G G G (au G G G (ad ?_)))))))));refine bH G (λc4=>?_) (λc4=>?_)
    ·refine T.aU (Rg.a8 G G (aS ?_))
     have hx:s.all iM=false:=fH.2 λh=>by
      have h2:=eI.1 h _ (ao (uW (s:=s) (i:=i) hV));simp only[iM,decide_eq_true_eq]at h2;omega
     exact aT rfl rfl ⟨by rw[eK,hx,Bool.and_false],rfl⟩
    ·refine aM (ay (ab G G (aX G G G hV (Rg.a8 G G ?_))));refine⟨G,i+1,a83,?_,?_⟩
     ·exact⟨G,by omega,λk c h hc=>by
       rcases cT k i with h2|h2
       ·exact fh k c h2 hc
       ·obtain rfl:k=i:=by omega
        rw[uW hV]at hc;cases hc;simp only[iM,decide_eq_true_eq];omega⟩
     ·omega
  ·refine de (T.aU (ab G G (te aE G G (aZ (v':= .int .i64 (s.length:Int)) a81 (cu G G G (ab G G ?_))))));refine aB (g:=23) G (λqD=>?_) (λqD=>?_)
   ·refine ae G G (ab G G (ae G G (te aE G G (aZ (v':= .int .i64 (s.length:Int)) a81 (ae G G (gr G G G (aN G G G (Rg.a8 G G (aS ?_)))))))));have ha:s.all iM=true:=Oa λk c hc=>fh k c (by have:=(ak.1 hc).1;omega) hc
    first
    |exact aT rfl rfl ⟨by rw[eK,ha,mq];exact congrArg Value.bool (decide_eq_decide.2 hV),G⟩
    |exact aT rfl rfl ⟨by rw[eK,ha,mq];exact congrArg Value.bool (decide_eq_false hV).symm,G⟩
   ·refine aj G G G G (aj G G G G (aj G G G G (au G G G (Rg.a8 G G (aS ?_)))));have ha:s.all iM=true:=Oa λk c hc=>fh k c (by have:=(ak.1 hc).1;omega) hc
    first
    |exact aT rfl rfl ⟨by rw[eK,ha,mq];exact congrArg Value.bool (decide_eq_decide.2 hV),G⟩
    |exact aT rfl rfl ⟨by rw[eK,ha,mq];exact congrArg Value.bool (decide_eq_false hV).symm,G⟩
theorem K1 {M:aP} {o:Fd} {v0:Value} (w0:World) (hM:Lt M w0) (hv:RT.fd.V M w0 o v0) {nm:List UInt8} {t:Value} {bf:Nat} (g:w0.heap[bf]? =some (.cells #[.string ⟨nm.toArray⟩,t] 153 (0,0))) (Ci:M bf):
  Spec Tryz.prog 141 #[v0,.pointer (some ⟨bf,0,none⟩)] w0 (λv w=>v= .bool (decide (o.1=nm))/\Step M w0 M w aH):=by
 refine bD (args:=[_,_]) (fn:=Tryz.f141) Tryz.func141 G (n:=9) Tryz.ntmps141 ?_;have S:Step M w0 M w0 aH:=bg;refine T.aU ?_;refine Rg.jL (A:=RT.fd) G G hM hv G (λu0 w1 dP s0 _=>?_);have:=ah g;replace Ci:=(s0.mem _ this).2 Ci;replace g:=s0.aF g;replace hM:=s0.lt hM;have:=S.size;replace S:=S.ar s0;refine Rg.a8 G G (T.aU ?_);refine aw (M:=M) (A:=RT.fd) (B:=RT.str) cW G G I9 q0 (Mw) G G q0 VR (by repeat (first|exact bB _ _|refine aW (bC VR) ?_)) (λBH l2=>?_);refine bV aE G G G G G l2 ck (λv1 sz=>?_);obtain rfl:=eF sz;refine a7 (o':=0) cW G G I9 q0 G G (aR aE G G G VR G (Rg.Ej (p:=o.1) (q:=nm) G G G (Rg.a8 G G (aS ?_))));exact aT G G ⟨G,S⟩
theorem HA {M:aP} {fs:List Fd} {v0:Value} (w0:World) (hM:Lt M w0) (hv:(RT.fd.sl).V M w0 fs v0) {nm:List UInt8} {t:Value} {bf:Nat} (g:w0.heap[bf]? =some (.cells #[.string ⟨nm.toArray⟩,t] 153 (0,0))) (Ci:M bf):
  Spec Tryz.prog 184 #[v0,.func (.func 141) #[] #[.pointer (some ⟨bf,0,none⟩)]] w0 (λv w=>(∃k:Int,v= .int .i64 k/\(0<=k↔(fs.any λg=>decide (g.1=nm))=true)/\ -1<=k/\k<=9223372036854775807)/\Step M w0 M w aH):=by
 have Bq:=dJ hv;refine bD (args:=[_,_]) (fn:=Tryz.f184) Tryz.func184 G (n:=19) Tryz.ntmps184 ?_;have S:Step M w0 M w0 aH:=bg;refine T.aU (Rg.a8 G G (aQ (T.aU (ab G G (bR bP G hv G (ab G G (ad (bp ?_))))))));refine dz (σ:=Nat) (λi=>[(0,v0),(1,.func (.func 141) #[] #[.pointer (some ⟨bf,0,none⟩)]),(6,v0),(7,.int .i64 (fs.length:Int)),(8,.int .i64 (i:Int))]) (λi w=>Lt M w/\Step M w0 M w aH/\(w.heap[bf]? =some (.cells #[.string ⟨nm.toArray⟩,t] 153 (0,0)))/\(RT.fd.sl).V M w fs v0/\i<=fs.length/\∀k o,k<i->fs[k]? =some o->o.1≠nm) (λi=>fs.length-i) 0 a74 ?_ ?_
 ·exact⟨hM,S,g,hv,bA _,λk c h=>absurd h (fp k)⟩
 ·rintro i w ⟨hM,S,g,hv,hi,fh⟩;refine T.aU (cH G G G (ad (aQ ?_)));refine bH G (λc2=>?_) (λc2=>?_)
  ·refine aM (aQ (bp (T.aU (ab G G (Rg.a8 G G (T.aU (ab G G (ab G G ?_))))))));refine ab G G ?_;refine cD bP kY G G G hv ck hV (λu4 o Hr kU=>?_);refine cq (A:=RT.fd) cW G kY q0 G G G kU ck (λv4 qS=>?_);rw[av]at Hr;refine wJ (first:=[]) (captured:=[.pointer (some ⟨bf,0,none⟩)]) G G G ag8 (K1 _ hM qS g Ci) (λr5 w5 hc=>?_);obtain⟨rfl,s5⟩:=hc;have:=ah g;replace Ci:=(s5.mem _ this).2 Ci;replace g:=s5.aF g;replace hv:=hv.le s5.le;replace hM:=s5.lt hM;have:=S.size;replace S:=S.ar s5;refine ad ?_;refine bH G (λc4=>?_) (λc4=>?_)
   ·refine T.aU (ab G G (Rg.a8 G G (aS ?_)));exact aT rfl rfl ⟨⟨_,rfl,⟨λ_=>jP.2 ⟨o,ao Hr,by simpa using VR⟩,λ_=>by omega⟩,by omega,by omega⟩,S.back⟩
   ·refine aM (ay (aX G G G hV (ab G G (ad ?_))));refine⟨G,i+1,a74,?_,?_⟩
    ·exact⟨hM,S,g,hv,by omega,λk o' h hc=>by
      rcases cT k i with h2|h2
      ·exact fh k o' h2 hc
      ·obtain rfl:k=i:=by omega
       rw[Hr]at hc;cases hc;assumption⟩
    ·omega
  ·refine de (T.aU (Rg.a8 G G (aS ?_)))
   exact aT G G ⟨⟨-1,G,⟨λh=>by omega,λh=>by
    obtain⟨o,ho,he⟩:=jP.1 h;obtain⟨k,hk⟩:=bQ.1 ho;exact absurd (by simpa using he) (fh k o (by have:=(ak.1 hk).1;omega) hk)⟩,by omega,by omega⟩,S.back⟩
theorem E2 {M:aP} {fs:List Fd} {v0:Value} (w0:World) (hM:Lt M w0) (hv:(RT.fd.sl).V M w0 fs v0) {nm:List UInt8} {t:Value} {bf:Nat} (g:w0.heap[bf]? =some (.cells #[.string ⟨nm.toArray⟩,t] 153 (0,0))) (Ci:M bf):
  Spec Tryz.prog 140 #[v0,.func (.func 141) #[] #[.pointer (some ⟨bf,0,none⟩)]] w0 (λv w=>v= .bool (fs.any λg=>decide (g.1=nm))/\Step M w0 M w aH):=by
 refine bD (args:=[_,_]) (fn:=Tryz.f140) Tryz.func140 G (n:=9) Tryz.ntmps140 ?_;have S:Step M w0 M w0 aH:=bg;refine T.aU (Rg.a8 G G (T.aU (ab G G (ab G G ?_))));refine aV G G ahg (HA _ hM hv g Ci) (λr1 w1 hc=>?_);obtain⟨⟨k,rfl,hk,_⟩,s1⟩:=hc;have:=ah g;replace Ci:=(s1.mem _ this).2 Ci;replace g:=s1.aF g;replace hv:=hv.le s1.le;replace hM:=s1.lt hM;have:=S.size;replace S:=S.ar s1;refine cu G G G (Rg.a8 G G (aS ?_));exact aT rfl rfl ⟨congrArg Value.bool (by rw[kq,decide_eq_true_eq];exact hk),S⟩
theorem Ob {M:aP} {d:Dc} {v0:Value} (w0:World) (hM:Lt M w0) (hv:RT.dc.V M w0 d v0) (hl:∀f∈d.2,f.1.length<=900000/\f.2.length<=900000):
  Spec Tryz.prog 93 #[v0] w0 (λv w=>v= .int .i64 (oX d)/\Step M w0 M w aH):=by
 have jq:=hM;refine bD (args:=[_]) (fn:=Tryz.f93) Tryz.func93 G (n:=49) Tryz.ntmps93 ?_;have S:Step M w0 M w0 aH:=bg;refine T.aU ?_;refine Rg.jL (A:=RT.dc) G G hM hv G (λu0 w1 dP s0 _=>?_);replace hM:=s0.lt hM;have:=S.size;replace S:=S.ar s0;refine Rg.a8 G G (aQ (T.aU ?_));refine aw (M:=M) (A:=RT.dc) (B:=(RT.fd).sl) bJ G G xj q0 (KL) G G q0 VR (by repeat (first|exact bB _ _|refine aW (bC VR) ?_)) (λBH l2=>?_);refine bV (M:=M) bP G G G G G VR (by repeat (first|exact bB _ _|refine aW (bC VR) ?_)) (λzY nh=>?_);refine bR bP G nh G (fR G G G (ad ?_));refine bH G (λc1=>?_) (λc1=>?_)
 ·refine T.aU (Rg.a8 G G (aS ?_));exact aT rfl rfl ⟨by rw[oX,if_pos hV],S.back⟩
 ·refine aM (T.aU (Rg.a8 G G (aQ (T.aU ?_))));refine aw (M:=M) (A:=RT.dc) (B:=(RT.fd).sl) bJ G G xj q0 (KL) G G q0 VR (by repeat (first|exact bB _ _|refine aW (bC VR) ?_)) (λK2 sV=>?_);refine bV (M:=M) bP G G G G G VR (by repeat (first|exact bB _ _|refine aW (bC VR) ?_)) (λHB oY=>?_);refine bR bP G oY G (ab G G (ad (bp ?_)));refine dz (σ:=Nat×Nat) (λq=>[(1,u0),(3,.int .i64 (q.2:Int)),(13,HB),(14,.int .i64 (d.2.length:Int)),(15,.int .i64 (q.1:Int))]) (λq w=>∃M',Lt M' w/\Step M w0 M' w aH/\dp RT.dc M' w u0 d/\(RT.fd.sl).V M' w d.2 HB/\oX d=BG (d.2.take q.1) (d.2.drop q.1) q.2/\q.1<=d.2.length/\q.2<=900001*q.1) (λq=>d.2.length-q.1) (0,0) a74 ?_ ?_
  ·exact⟨M,hM,S,dP,oY,by rw[oX,if_neg hV];rfl,bA _,aK _⟩
  ·rintro⟨i,n⟩ w ⟨M1,hM,S,dP,ot,HC,hi,hn⟩;dsimp only at HC hi hn ⊢;refine T.aU (cH G G G (ad (aQ ?_)));refine bH G (λc5=>?_) (λc5=>?_)
   ·refine aM (aQ (bp (T.aU (ab G G ?_))));refine cD bP kY G G G ot ck hV (λu6 x Mx uU=>?_);refine cq (A:=RT.fd) cW G kY q0 G G G uU ck (λv6 qE=>?_);rw[av]at Mx;obtain rfl:=ll qE;have lF:=Jw (n:=n) Mx;have yM:=hl _ (ao Mx);refine eu M1 kY G (λXe aid aro arp qD Oc=>?_);obtain⟨E3,Od⟩:∃M',M'=ins M1 Xe:=⟨_,rfl⟩;rw[<-Od]at Oc;have ni:E3 Xe:=by rw[Od];exact .inl G
    change aid.heap[Xe]? =some (.cells #[.string ⟨#[]⟩,.string ⟨#[]⟩] _ _)at qD;replace dP:=dP.le q0 Oc.le;replace ot:=ot.le Oc.le;replace hM:=Oc.lt hM;have:=S.size;replace S:=S.ar Oc;refine aJ G G ?_;refine dm (M:=E3) (vs:=[.string ⟨x.1.toArray⟩,.string ⟨x.2.toArray⟩]) kY G G (by intro u hu;simp at hu;rcases hu with rfl|rfl<;>rfl) rfl rfl qD ni (λw6 g6 s6=>?_);have:=ah qD;replace ni:=(s6.mem _ this).2 ni;replace dP:=dP.le q0 s6.le;replace ot:=ot.le s6.le;replace hM:=s6.lt hM;have:=S.size;replace S:=S.trans s6 (λk hk h=>by have h:_=_:=h;subst h;first|(exfalso;omega)|(show _<=_;omega)|exact⟨by first|omega|assumption,(S.mem _ hk).1 ((s6.mem _ (ah qD)).1 ni)⟩|exact .inl rfl|exact .inr rfl|exact .inr (.inl rfl)|exact .inr (.inr rfl)|exact .inr (.inr (.inl rfl))|exact rfl);have UO:=g6;clear qD;have qD:=UO;clear UO;refine ad (T.aU (a7 (o':=1) cW G G I9 q0 G G (aR aE G G G VR G ?_)));refine aV G G ag6 (KY _ hM yM.2) (λr7 w7 hc=>?_);obtain⟨⟨u7,rfl,hu7⟩,s7⟩:=hc;have:=ah qD;replace ni:=(s7.mem _ this).2 ni;replace qD:=s7.aF qD;replace dP:=dP.le q0 s7.le;replace ot:=ot.le s7.le;replace hM:=s7.lt hM;have:=S.size;replace S:=S.ar s7;refine ab G G (cP G G G (cP G G G (aJ G G (Rg.a8 G G (aQ (bp (T.aU (a7 (o':=0) cW G G I9 q0 G G (aR aE G G G VR G ?_)))))))));refine aV G G WG (xq x.1 hV _) (λr8 w8 hc=>?_);obtain⟨rfl,s8_⟩:=hc;have s8:=s8_ E3;have:=ah qD;replace ni:=(s8.mem _ this).2 ni;replace qD:=s8.aF qD;replace dP:=dP.le q0 s8.le;replace ot:=ot.le s8.le;replace hM:=s8.lt hM;have:=S.size;replace S:=S.ar s8
    refine jd rfl rfl (aZ (v':= .bool (decide (eK x.1=false))) (by cases eK x.1<;>rfl) (Rg.a8 rfl rfl ?_));refine bH G (λc8=>?_) (λc8=>?_)
    ·refine T.aU (Rg.a8 G G (aS ?_));exact aT rfl rfl ⟨by rw[HC,lF,if_pos VR],S.back⟩
    ·refine T.aU ?_;refine aw (M:=E3) (A:=RT.dc) (B:=(RT.fd).sl) bJ G G xj q0 (KL) G G q0 VR (by repeat (first|exact bB _ _|refine aW (bC VR) ?_)) (λOe zZ=>?_);refine bV (M:=E3) bP G G G G G VR (by repeat (first|exact bB _ _|refine aW (bC VR) ?_)) (λabG Of=>?_);refine ab G G ?_;refine Rg.RW bP kY G G G Of hV (λJy fI=>?_);rw[av]at fI;refine jQ (xs:=[]) (ys:=[.tmp 5]) G G G ?_;refine aV G G ag7 (E2 _ hM fI qD ni) (λr10 w10 hc=>?_);obtain⟨rfl,tQ⟩:=hc;have:=ah qD;replace ni:=(tQ.mem _ this).2 ni;replace qD:=tQ.aF qD;replace dP:=dP.le q0 tQ.le;replace ot:=ot.le tQ.le;replace hM:=tQ.lt hM;have:=S.size;replace S:=S.ar tQ;refine aJ rfl rfl (aZ (v':= .bool (decide (((d.2.take i).any λg=>decide (g.1=x.1))=true))) (by cases((d.2.take i).any λg=>decide (g.1=x.1))<;>rfl) (ad ?_));refine bH G (λWU=>?_) (λWU=>?_)
     ·refine T.aU (Rg.a8 G G (aS ?_));exact aT rfl rfl ⟨by rw[HC,lF,if_neg VR,if_pos VR],S.back⟩
     ·refine T.aU (ab G G (fG G G G (Rg.a8 G G ?_)));refine bH G (λET=>?_) (λET=>?_)
      ·refine T.aU (ab G G (Rg.a8 G G (aS ?_)));exact aT rfl rfl ⟨by rw[HC,lF,if_neg VR,if_neg VR,if_pos VR];rfl,S.back⟩
      ·refine aM (ay (ab G G ?_));have htk:ng 0 (words x.2)=0:=Classical.not_not.1 ET;obtain⟨a,cap,rfl⟩:=hu7 htk;have UP:=oW x.2;refine ab G G (Rg.xf Tryz.underlying154 G G (aX G G G hV (Rg.a8 G G (ay (aX G G G hV (ab G G (ad ?_)))))));refine⟨G,(i+1,n+(words x.2).length),a74,?_,?_⟩
       ·exact⟨_,hM,S,dP,ot,by rw[HC,lF,if_neg VR,if_neg VR,if_neg ET],by dsimp only;omega,by dsimp only;omega⟩
       ·dsimp only;omega
   ·refine de (aQ (T.aU (ab G G (fR G G G (ad ?_)))));refine bH G (λG2=>?_) (λG2=>?_)
    ·refine T.aU (Rg.a8 G G (aS ?_));exact aT rfl rfl ⟨by rw[HC,uY hV,if_pos hV],S.back⟩
    ·refine aM (T.aU (Rg.a8 G G (aS ?_)));exact aT rfl rfl ⟨by rw[HC,uY hV,if_neg hV],S.back⟩
end Go.K
