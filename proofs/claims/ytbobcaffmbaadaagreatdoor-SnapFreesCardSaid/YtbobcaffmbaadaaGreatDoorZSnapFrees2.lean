/- What the law 'SnapFrees' needs of walks and plain Lean, part 2: nothing is assumed beyond the texts that it imports. -/
import Derived.ChangeKeysEq
import Derived.Ground.GgzProg
import Derived.Ground.Names2Prog
import Derived.Ground.SlgmProg
import Derived.KernelRfl
import Derived.Laws.IdiomCopy
import Derived.Laws.MakeOwn
import Derived.Laws.StructEq
import Derived.Lib.RuneBytes
import Derived.Lib.SliceRun
import Derived.Maps.OwnSet
import Derived.Shelf.SlGeneric
import Derived.Shelf.SlIter.Nil
import Derived.Shelf.SlIterI.Nil
import Derived.Shelf.Slices.SearchI
import Derived.Shelf.Small.Strs
import Derived.Shelf.Small.Utf8
import Derived.Shelf.SortM.Plain
import Derived.Shelf.SortM.SortNone
import Derived.Shelf.Strings.Builder1
import Derived.Shelf.Strings.BuilderRune
import Derived.Test.YtbobcaffmbaadaaGreatDoorProg
import Derived.Test.YtbobcaffmbaadaaGreatDoorZSnapFrees1
set_option linter.unusedVariables false
set_option linter.unusedSimpArgs false
theorem ab:type_of% @Go.K.Rg.nil:=@Go.K.Rg.nil
theorem ad:type_of% @Go.K.T.region:=@Go.K.T.region
theorem ae:type_of% @Go.K.Rg.move:=@Go.K.Rg.move
theorem ah:type_of% @Go.K.Rg.assign:=@Go.K.Rg.assign
theorem ai:type_of% @Go.K.T.seq:=@Go.K.T.seq
theorem ak:type_of% @Go.K.Rg.aA:=@Go.K.Rg.aA
theorem al:type_of% @Go.K.Step.refl:=@Go.K.Step.refl
theorem an:type_of% @Go.Proofs.Tryz.underlying3:=@Go.Proofs.Tryz.underlying3
theorem ao:type_of% @Go.K.Rg.bz:=@Go.K.Rg.bz
theorem aq:type_of% @Go.K.Le.refl:=@Go.K.Le.refl
theorem ar:type_of% @Go.Proofs.Tryz.underlying37:=@Go.Proofs.Tryz.underlying37
theorem au:type_of% @List.getElem?_eq_some_iff:=@List.getElem?_eq_some_iff
theorem av:type_of% @Go.K.Rg.bg:=@Go.K.Rg.bg
theorem az:type_of% @Go.K.Rg.bh:=@Go.K.Rg.bh
theorem aB:type_of% @Go.K.Rg.aY:=@Go.K.Rg.aY
theorem aC:type_of% @Go.K.Rg.nilCheck:=@Go.K.Rg.nilCheck
theorem aF:type_of% @Go.Proofs.Tryz.underlying9:=@Go.Proofs.Tryz.underlying9
theorem aG:type_of% @Int.toNat_natCast:=@Int.toNat_natCast
theorem aH:type_of% @Go.K.bE.cons:=@Go.K.bE.cons
theorem aI:type_of% @Go.K.T.ret:=@Go.K.T.ret
theorem aJ:type_of% @Go.K.Rg.call:=@Go.K.Rg.call
theorem aK:type_of% @List.getElem?_eq_getElem:=@List.getElem?_eq_getElem
theorem aL:type_of% @Go.K.Rg.bj:=@Go.K.Rg.bj
theorem aM:type_of% @Go.K.Rg.fieldAddr:=@Go.K.Rg.fieldAddr
theorem aN:type_of% @List.mem_of_getElem?:=@List.mem_of_getElem?
theorem aP:type_of% @Go.K.Rg.bJ:=@Go.K.Rg.bJ
theorem aQ:type_of% @Go.K.cb.cons:=@Go.K.cb.cons
theorem aS:type_of% @Go.Proofs.Tryz.underlying69:=@Go.Proofs.Tryz.underlying69
theorem aT:type_of% @Go.K.T.skip:=@Go.K.T.skip
theorem aU:type_of% @Go.K.Le.trans:=@Go.K.Le.trans
theorem aV:type_of% @Go.Proofs.Tryz.underlying57:=@Go.Proofs.Tryz.underlying57
theorem aX:type_of% @Go.Proofs.Tryz.underlying67:=@Go.Proofs.Tryz.underlying67
theorem aZ:type_of% @Nat.le_refl:=@Nat.le_refl
theorem a7:type_of% @Go.K.T.block:=@Go.K.T.block
theorem a8:type_of% @Go.Proofs.Tryz.underlying80:=@Go.Proofs.Tryz.underlying80
theorem bm:type_of% @Go.K.Step.le:=@Go.K.Step.le
theorem bp:type_of% @Go.Proofs.Tryz.underlying204:=@Go.Proofs.Tryz.underlying204
theorem br:type_of% @Go.K.Rg.eqv:=@Go.K.Rg.eqv
theorem bu:type_of% @Go.K.Rg.extract:=@Go.K.Rg.extract
theorem bA:type_of% @Go.K.Rg.cN:=@Go.K.Rg.cN
theorem bC:type_of% @Go.Proofs.Tryz.underlying284:=@Go.Proofs.Tryz.underlying284
theorem bD:type_of% @Bool.and_eq_true:=@Bool.and_eq_true
theorem bF:type_of% @Go.Proofs.Tryz.underlying72:=@Go.Proofs.Tryz.underlying72
theorem bG:type_of% @Nat.zero_le:=@Nat.zero_le
theorem bH:type_of% @List.getD_eq_getElem?_getD:=@List.getD_eq_getElem?_getD
theorem bK:type_of% @Go.K.T.dH:=@Go.K.T.dH
theorem bL:type_of% @Go.K.Rg.cp:=@Go.K.Rg.cp
theorem bM:type_of% @Go.K.Rg.cJ:=@Go.K.Rg.cJ
theorem bO:type_of% @Go.Proofs.Tryz.underlying83:=@Go.Proofs.Tryz.underlying83
theorem bP:type_of% @List.length_append:=@List.length_append
theorem bQ:type_of% @Go.K.Step.aE:=@Go.K.Step.aE
theorem bR:type_of% @List.mem_iff_getElem?:=@List.mem_iff_getElem?
theorem bS:type_of% @List.length_take:=@List.length_take
theorem bT:type_of% @List.take_of_length_le:=@List.take_of_length_le
theorem bU:type_of% @Option.some.inj:=@Option.some.inj
theorem bV:type_of% @Go.Proofs.Tryz.underlying166:=@Go.Proofs.Tryz.underlying166
theorem bY:type_of% @Go.K.Rg.fM:=@Go.K.Rg.fM
theorem bZ:type_of% @Go.K.Rg.load:=@Go.K.Rg.load
theorem b4:type_of% @Go.K.Rg.dM:=@Go.K.Rg.dM
theorem b9:type_of% @List.mem_cons_self:=@List.mem_cons_self
theorem cc:type_of% @Go.Proofs.Tryz.underlying89:=@Go.Proofs.Tryz.underlying89
theorem cd:type_of% @Go.Proofs.Tryz.underlying5:=@Go.Proofs.Tryz.underlying5
theorem cg:type_of% @Go.Proofs.Tryz.underlying78:=@Go.Proofs.Tryz.underlying78
theorem cn:type_of% @Go.K.Rg.cP:=@Go.K.Rg.cP
theorem cq:type_of% @List.length_cons:=@List.length_cons
theorem cr:type_of% @Go.Proofs.Tryz.underlying91:=@Go.Proofs.Tryz.underlying91
theorem cw:type_of% @List.take_add_one:=@List.take_add_one
theorem cx:type_of% @List.mem_map:=@List.mem_map
theorem cz:type_of% @Go.Sem.run_bind:=@Go.Sem.run_bind
theorem cB:type_of% @Go.K.T.exit:=@Go.K.T.exit
theorem cC:type_of% @List.mem_singleton:=@List.mem_singleton
theorem cE:type_of% @Go.Proofs.Tryz.underlying153:=@Go.Proofs.Tryz.underlying153
theorem cF:type_of% @Go.Proofs.Tryz.underlying142:=@Go.Proofs.Tryz.underlying142
theorem cH:type_of% @Array.getElem?_setIfInBounds:=@Array.getElem?_setIfInBounds
theorem cI:type_of% @List.mem_cons_of_mem:=@List.mem_cons_of_mem
theorem cM:type_of% @Go.K.Rg.dx:=@Go.K.Rg.dx
theorem cQ:type_of% @Go.K.Rg.append:=@Go.K.Rg.append
theorem cT:type_of% @List.length_drop:=@List.length_drop
theorem cW:type_of% @List.mem_cons:=@List.mem_cons
theorem cY:type_of% @Go.Result.andThen_ok:=@Go.Result.andThen_ok
theorem cZ:type_of% @Go.Proofs.Tryz.underlying196:=@Go.Proofs.Tryz.underlying196
theorem db:type_of% @Go.Proofs.Tryz.underlying131:=@Go.Proofs.Tryz.underlying131
theorem dd:type_of% @Go.K.T.loop:=@Go.K.T.loop
theorem de:type_of% @List.length_map:=@List.length_map
theorem dg:type_of% @List.pairwise_map:=@List.pairwise_map
theorem dh:type_of% @Go.K.Rg.jg:=@Go.K.Rg.jg
theorem dm:type_of% @List.getElem?_take:=@List.getElem?_take
theorem dp:type_of% @Option.toList_some:=@Option.toList_some
theorem dq:type_of% @Go.K.Rg.idx:=@Go.K.Rg.idx
theorem dr:type_of% @Go.Proofs.Tryz.underlying71:=@Go.Proofs.Tryz.underlying71
theorem dw:type_of% @Go.Proofs.Tryz.underlying207:=@Go.Proofs.Tryz.underlying207
theorem dy:type_of% @Bool.true_and:=@Bool.true_and
theorem dC:type_of% @List.mem_append:=@List.mem_append
theorem dJ:type_of% @List.getElem?_set:=@List.getElem?_set
theorem dL:type_of% @List.drop_eq_nil_of_le:=@List.drop_eq_nil_of_le
theorem dO:type_of% @Go.K.Rg.build:=@Go.K.Rg.build
theorem dP:type_of% @Go.Proofs.Tryz.underlying205:=@Go.Proofs.Tryz.underlying205
theorem dR:type_of% @List.all_eq_true:=@List.all_eq_true
theorem dZ:type_of% @List.getElem?_map:=@List.getElem?_map
theorem ec:type_of% @Nat.lt_or_ge:=@Nat.lt_or_ge
theorem eg:type_of% @Go.K.Rg.kZ:=@Go.K.Rg.kZ
theorem eh:type_of% @Go.K.Own.nil:=@Go.K.Own.nil
theorem ek:type_of% @Option.map_some:=@Option.map_some
theorem eu:type_of% @Go.Proofs.Tryz.underlying151:=@Go.Proofs.Tryz.underlying151
theorem ew:type_of% @Go.K.Rg.alloc:=@Go.K.Rg.alloc
theorem ey:type_of% @Go.K.bI.load:=@Go.K.bI.load
theorem eF:type_of% @Bool.eq_false_iff:=@Bool.eq_false_iff
theorem eH:type_of% @List.getElem?_eq_none:=@List.getElem?_eq_none
theorem eL:type_of% @List.map_cons:=@List.map_cons
theorem eN:type_of% @Go.K.bI.move:=@Go.K.bI.move
theorem eO:type_of% @Go.Proofs.Tryz.underlying99:=@Go.Proofs.Tryz.underlying99
theorem eP:type_of% @Go.K.Rg.dS:=@Go.K.Rg.dS
theorem eQ:type_of% @Eq.symm:=@Eq.symm
theorem eT:type_of% @List.pairwise_cons:=@List.pairwise_cons
theorem fa:type_of% @Go.K.Rg.mO:=@Go.K.Rg.mO
theorem fc:type_of% @Go.K.Rg.mN:=@Go.K.Rg.mN
theorem fo:type_of% @Go.K.kn.nil:=@Go.K.kn.nil
theorem fp:type_of% @Decidable.not_not:=@Decidable.not_not
theorem fw:type_of% @List.mem_map_of_mem:=@List.mem_map_of_mem
theorem fI:type_of% @List.drop_eq_getElem_cons:=@List.drop_eq_getElem_cons
theorem fJ:type_of% @List.contains_iff_mem:=@List.contains_iff_mem
theorem fL:type_of% @Go.K.T.iff:=@Go.K.T.iff
theorem fQ:type_of% @Go.K.bI.field:=@Go.K.bI.field
theorem fR:type_of% @Go.K.Part.snd:=@Go.K.Part.snd
theorem fS:type_of% @Nat.le_trans:=@Nat.le_trans
theorem fV:type_of% @Go.Proofs.Tryz.underlying133:=@Go.Proofs.Tryz.underlying133
theorem fX:type_of% @Go.K.Rg.ff:=@Go.K.Rg.ff
theorem gj:type_of% @Go.K.Rg.jv:=@Go.K.Rg.jv
theorem gm:type_of% @List.length_eq_zero_iff:=@List.length_eq_zero_iff
theorem gw:type_of% @Go.Proofs.Tryz.underlying29:=@Go.Proofs.Tryz.underlying29
theorem gG:type_of% @Go.K.Rg.makeFunc:=@Go.K.Rg.makeFunc
theorem gK:type_of% @Bool.false_and:=@Bool.false_and
theorem gM:type_of% @List.getElem?_toArray:=@List.getElem?_toArray
theorem gN:type_of% @Go.K.Rg.gx:=@Go.K.Rg.gx
theorem gO:type_of% @Go.K.fW.all:=@Go.K.fW.all
theorem gX:type_of% @Go.Proofs.Tryz.underlying0:=@Go.Proofs.Tryz.underlying0
theorem gY:type_of% @Go.Proofs.Tryz.underlying4:=@Go.Proofs.Tryz.underlying4
theorem gZ:type_of% @Go.Proofs.Tryz.underlying155:=@Go.Proofs.Tryz.underlying155
theorem ib:type_of% @List.length_nil:=@List.length_nil
theorem ic:type_of% @List.map_append:=@List.map_append
theorem iq:type_of% @Go.IntWalk.i64_in:=@Go.IntWalk.i64_in
theorem iw:type_of% @Go.K.ed.refl:=@Go.K.ed.refl
theorem ix:type_of% @Bool.and_true:=@Bool.and_true
theorem iJ:type_of% @Go.K.Rg.box:=@Go.K.Rg.box
theorem iP:type_of% @Go.Proofs.Tryz.zeroValue0:=@Go.Proofs.Tryz.zeroValue0
theorem iQ:type_of% @Go.Proofs.Tryz.zeroValue3:=@Go.Proofs.Tryz.zeroValue3
theorem iR:type_of% @Go.Proofs.Tryz.zeroValue9:=@Go.Proofs.Tryz.zeroValue9
theorem ju:type_of% @List.drop_of_length_le:=@List.drop_of_length_le
theorem jD:type_of% @Go.K.Rg.rJ:=@Go.K.Rg.rJ
theorem jL:type_of% @Go.Proofs.Tryz.underlying217:=@Go.Proofs.Tryz.underlying217
theorem jM:type_of% @Go.Proofs.Tryz.underlying209:=@Go.Proofs.Tryz.underlying209
theorem jN:type_of% @Go.Proofs.Tryz.underlying107:=@Go.Proofs.Tryz.underlying107
theorem kh:type_of% @Nat.lt_trichotomy:=@Nat.lt_trichotomy
theorem ki:type_of% @List.ext_getElem?:=@List.ext_getElem?
theorem kj:type_of% @Go.K.Part.fst:=@Go.K.Part.fst
theorem km:type_of% @Go.K.Rg.not:=@Go.K.Rg.not
theorem kI:type_of% @List.setIfInBounds_toArray:=@List.setIfInBounds_toArray
theorem kJ:type_of% @List.mem_append_left:=@List.mem_append_left
theorem kY:type_of% @Go.K.T.o5:=@Go.K.T.o5
theorem k4:type_of% @Go.Proofs.Tryz.underlying58:=@Go.Proofs.Tryz.underlying58
theorem lJ:type_of% @List.length_pos_iff:=@List.length_pos_iff
theorem mB:type_of% @Nat.lt_irrefl:=@Nat.lt_irrefl
theorem mC:type_of% @Go.K.T.kM:=@Go.K.T.kM
theorem mL:type_of% @Option.map_none:=@Option.map_none
theorem mM:type_of% @Nat.not_lt_zero:=@Nat.not_lt_zero
theorem mR:type_of% @BitVec.toNat_ofInt:=@BitVec.toNat_ofInt
theorem mS:type_of% @Nat.eq_or_lt_of_le:=@Nat.eq_or_lt_of_le
theorem nJ:type_of% @List.filter_cons_of_pos:=@List.filter_cons_of_pos
theorem nT:type_of% @Go.K.Rg.vz:=@Go.K.Rg.vz
theorem ou:type_of% @List.take_succ_eq_append_getElem:=@List.take_succ_eq_append_getElem
theorem ov:type_of% @Go.Proofs.Tryz.sizeOf0:=@Go.Proofs.Tryz.sizeOf0
theorem ox:type_of% @Go.Proofs.Tryz.sizeOf3:=@Go.Proofs.Tryz.sizeOf3
theorem oy:type_of% @Go.Proofs.Tryz.sizeOf9:=@Go.Proofs.Tryz.sizeOf9
theorem oz:type_of% @Go.Proofs.Tryz.underlying190:=@Go.Proofs.Tryz.underlying190
theorem oA:type_of% @Option.map_eq_some_iff:=@Option.map_eq_some_iff
theorem oB:type_of% @Go.Proofs.Tryz.underlying198:=@Go.Proofs.Tryz.underlying198
theorem oC:type_of% @Go.K.qh.nil:=@Go.K.qh.nil
theorem oD:type_of% @Go.Proofs.Tryz.underlying101:=@Go.Proofs.Tryz.underlying101
theorem oE:type_of% @Go.K.bI.nilCheck:=@Go.K.bI.nilCheck
theorem oF:type_of% @List.foldl_append:=@List.foldl_append
theorem oG:type_of% @Bool.not_eq_true':=@Bool.not_eq_true'
theorem o4:type_of% @Go.Proofs.Tryz.zeroValue4:=@Go.Proofs.Tryz.zeroValue4
theorem pX:type_of% @Array.getElem?_modify:=@Array.getElem?_modify
theorem p6:type_of% @List.map_toArray:=@List.map_toArray
theorem p8:type_of% @List.any_eq_true:=@List.any_eq_true
theorem qP:type_of% @Prod.mk.injEq:=@Prod.mk.injEq
theorem qQ:type_of% @Go.Proofs.Tryz.underlying25:=@Go.Proofs.Tryz.underlying25
theorem qR:type_of% @Go.Proofs.Tryz.underlying23:=@Go.Proofs.Tryz.underlying23
theorem qS:type_of% @Go.Proofs.Tryz.underlying26:=@Go.Proofs.Tryz.underlying26
theorem rI:type_of% @Go.K.Rg.jZ:=@Go.K.Rg.jZ
theorem rQ:type_of% @Go.Proofs.Tryz.isAgg0:=@Go.Proofs.Tryz.isAgg0
theorem rR:type_of% @Go.Proofs.Tryz.isAgg3:=@Go.Proofs.Tryz.isAgg3
theorem rS:type_of% @Go.Proofs.Tryz.isAgg9:=@Go.Proofs.Tryz.isAgg9
theorem rT:type_of% @List.mem_filter:=@List.mem_filter
theorem rU:type_of% @List.nil_append:=@List.nil_append
theorem rV:type_of% @List.nodup_cons:=@List.nodup_cons
theorem ur:type_of% @List.getD_cons_zero:=@List.getD_cons_zero
theorem uu:type_of% @List.getD_cons_succ:=@List.getD_cons_succ
theorem uv:type_of% @Int.toNat_of_nonneg:=@Int.toNat_of_nonneg
theorem uy:type_of% @Go.K.Rg.conv:=@Go.K.Rg.conv
namespace Go.K
abbrev Po:=Int×List Int
abbrev Bl:=Int×Int×Int×Int
abbrev Li:=List UInt8×List Bl×Int
abbrev RT.po:RT Po:=RT.pair (RT.int .i64) ((RT.int .i64).sl)
abbrev RT.bl:RT Bl:=RT.pair (RT.int .i64) (RT.pair (RT.int .i64) (RT.pair (RT.int .i64) (RT.int .i64)))
abbrev RT.li:RT Li:=RT.pair (RT.u8.sl) (RT.pair ((RT.bl).sl) (RT.int .i64))
theorem HV:Part RT.po (RT.int .i64) (fun p=>p.1) 0:=kj _ _
theorem PB:Part RT.po ((RT.int .i64).sl) (fun p=>p.2) 1:=fR _ _
theorem bl0:Part RT.bl (RT.int .i64) (fun b=>b.1) 0:=kj _ _
theorem bl1:Part RT.bl (RT.int .i64) (fun b=>b.2.1) 1:=(fR _ _).trans (kj _ _)
theorem bl2:Part RT.bl (RT.int .i64) (fun b=>b.2.2.1) 2:=(fR _ _).trans ((fR _ _).trans (kj _ _))
theorem bl3:Part RT.bl (RT.int .i64) (fun b=>b.2.2.2) 3:=(fR _ _).trans ((fR _ _).trans (fR _ _))
theorem li0:Part RT.li (RT.u8.sl) (fun x=>x.1) 0:=kj _ _
theorem Tr:Part RT.li ((RT.bl).sl) (fun x=>x.2.1) 1:=(fR _ _).trans (kj _ _)
def E8 (n:Nat) (k:Int):Bool:=decide (0≤k∧k<n)
def yT (bs:List Bl) (k:Int):Int:=if E8 bs.length k then(bs.getD k.toNat (0,0,0,0)).2.2.1 else-1
def dz:Int→List Po→List UInt8
 |_,[]=>[]
 |last,(d,ps)::l=>put (d-last-1).toNat++dI ps++dz d l
def bW:Int→List Po→Int
 |last,[]=>last
 |_,(d,_)::l=>bW d l
def gA (l:List Po):Int:=(l.map fun p=>(p.2.length:Int)).sum
theorem ph (l l':List Po) (last:Int):dz last (l++l')=dz last l++dz (bW last l) l':=by
 induction l generalizing last with
 |nil=>rfl
 |cons p l ih=>obtain⟨d,ps⟩:=p;simp[dz,bW,ih]
theorem uG (l l':List Po) (last:Int):bW last (l++l')=bW (bW last l) l':=by
 induction l generalizing last with
 |nil=>rfl
 |cons p l ih=>obtain⟨d,ps⟩:=p;simp[bW,ih]
theorem pq (l l':List Po):gA (l++l')=gA l+gA l':=by simp[gA]
def pw (l:List Po) (k:Nat):Bl:=((dz (-1) (l.take (8*k))).length,bW (-1) (l.take (8*k)),bW (-1) (l.take (8*k+8)),((l.drop (8*k)).take 8).length)
def mD (l:List Po) (m:Nat):List Bl:=(List.range m).map (pw l)
def hG (l:List Po):Li:=(dz (-1) l,mD l ((l.length+7)/8),gA l)
def lS (l:List Int):Bool:=eI (-1) l&&l.all (fun n=>decide (n<2147483648))
def dY:Int→List Po→Bool
 |_,[]=>true
 |last,(d,ps)::l=>decide (last<d)&&decide (d<2147483648)&& !ps.isEmpty&&lS ps&&dY d l
theorem mX:∀{l:List Po} {i:Nat} {last d:Int} {ps:List Int},dY last l=true→l[i]? =some (d,ps)→
  bW last (l.take i)<d∧d<2147483648∧ps≠[]∧lS ps=true∧bW last (l.take (i+1))=d∧last≤bW last (l.take i)
 |[],i,_,_,_,_,h=>by simp at h
 |(d0,p0)::l,0,last,d,ps,hm,h=>by
  simp only[List.getElem?_cons_zero,Option.some.injEq,qP]at h;obtain⟨rfl,rfl⟩:=h;simp only[dY,bD,decide_eq_true_eq]at hm;obtain⟨⟨⟨⟨h1,h2⟩,h3⟩,h4⟩,h5⟩:=hm;refine⟨h1,h2,?_,h4,by simp[bW],by simp[bW]⟩;rintro rfl;simp at h3
 |(d0,p0)::l,i+1,last,d,ps,hm,h=>by
  simp only[dY,bD,decide_eq_true_eq]at hm;obtain⟨⟨⟨⟨h1,h2⟩,h3⟩,h4⟩,h5⟩:=hm;obtain⟨a1,a2,a3,a4,a5,a6⟩:=mX (i:=i) h5 (by simpa using h);refine⟨by simpa[bW]using a1,a2,a3,a4,by simpa[bW]using a5,?_⟩;simp only[List.take_succ_cons,bW];omega
theorem sJ {l:List Po} {i:Nat} {d:Int} {ps:List Int} (last:Int) (h:l[i]? =some (d,ps)):
  dz last (l.take (i+1))=dz last (l.take i)++put (d-bW last (l.take i)-1).toNat++dI ps:=by
 obtain⟨h1,h2⟩:=au.1 h;rw[ou h1,h2,ph];simp[dz]
theorem mY {l:List Po} {i:Nat} (last:Int):dz last l=dz last (l.take i)++dz (bW last (l.take i)) (l.drop i):=by
 conv=>lhs;rw[←List.take_append_drop i l]
 exact ph _ _ _
theorem lT {l:List Int}:lS l=true↔eI (-1) l=true∧∀x∈l,x<2147483648:=by
 simp[lS]
def n4 (b:List UInt8) (at_ ahead:Int):Po×Int×Int:=
 if(get b at_).2.2≠0 then((0,[]),0,(get b at_).2.2)
 else((IntKind.i64.wrap (IntKind.i64.wrap (ahead+1)+(get b at_).1),(fx b (get b at_).2.1).2.1),(fx b (get b at_).2.1).2.2,(fx b (get b at_).2.1).1)
theorem E9 {l:List Po} {i:Nat} {d:Int} {ps:List Int} (hm:dY (-1) l=true) (h:l[i]? =some (d,ps)) (hl:ps.length≤1099511627776):
  n4 (dz (-1) l) (((dz (-1) (l.take i)).length:Nat):Int) (bW (-1) (l.take i))=((d,ps),(((dz (-1) (l.take (i+1))).length:Nat):Int),0):=by
 obtain⟨h1,h2,h3,h4,h5,h6⟩:=mX hm h;obtain⟨h7,h8⟩:=lT.1 h4;have e1:=mY (l:=l) (i:=i+1) (-1);have e2:=sJ (-1) h;generalize hla:bW (-1) (l.take i)=last at h1 h6 e2 ⊢;generalize Dm:dz (-1) (l.take i)=pre at e2 ⊢;generalize dz (bW (-1) (l.take (i+1))) (l.drop (i+1))=post at e1;rw[e2]at e1 ⊢;have g1:=xw pre (dI ps++post) (n:=(d-last-1).toNat) (by omega);have g2:=uF (pre++put (d-last-1).toNat) post h7 (fun x hx=>by have:=h8 x hx;omega) (by omega);rw[show pre++put (d-last-1).toNat++(dI ps++post)=dz (-1) l from by rw[e1];simp]at g1;rw[←e1]at g2;unfold n4;rw[g1];simp only[ne_eq,not_true_eq_false,if_false];have sr:((pre.length+(put (d-last-1).toNat).length:Nat):Int)=((pre++put (d-last-1).toNat).length:Int):=by simp
 rw[sr,g2];refine Prod.ext (Prod.ext ?_ rfl) (Prod.ext ?_ rfl)
 ·simp only;rw[iq (last+1) (by omega),iq _ (by omega)];omega
 ·simp;omega
theorem mZ {l:List Int} {k:Nat} {x:Int} (p:Int→Bool) (h:l[k]? =some x):(l.drop k).all p=(p x&&(l.drop (k+1)).all p):=by
 obtain⟨h1,h2⟩:=au.1 h;rw[fI h1,h2,List.all_cons]
theorem j3 {l:List Po} {k:Nat} {d:Int} {ps:List Int} (h:l[k]? =some (d,ps)) (last:Int):
  dY last (l.drop k)=(decide (last<d)&&decide (d<2147483648)&& !ps.isEmpty&&lS ps&&dY d (l.drop (k+1))):=by
 obtain⟨h1,h2⟩:=au.1 h;rw[fI h1,h2,dY]
theorem sK {l:List Po} {i:Nat} {d:Int} {ps:List Int} (h:l[i]? =some (d,ps)):gA (l.take (i+1))=gA (l.take i)+ps.length:=by
 obtain⟨h1,h2⟩:=au.1 h;rw[ou h1,h2,pq];simp[gA]
theorem lU (l:List Po):0≤gA l:=by
 induction l with
 |nil=>simp[gA]
 |cons p l ih=>simp only[gA,eL,List.sum_cons]at ih ⊢;omega
theorem yU (l:List Po) (i:Nat):0≤gA (l.take i)∧gA (l.take i)≤gA l:=by
 refine⟨lU _,?_⟩
 conv=>rhs;rw[←List.take_append_drop i l,pq]
 have:=lU (l.drop i);omega
theorem kP (l:List Po) (i:Nat):(dz (-1) (l.take i)).length≤(dz (-1) l).length:=by
 rw[mY (l:=l) (i:=i) (-1)];simp
theorem DA (l:List Po) (k:Nat):mD l (k+1)=mD l k++[pw l k]:=by simp[mD,List.range_succ]
theorem iU:∀(l:List Po) (last:Int),dY last l=true→last<2147483648→∀n:Nat,last≤bW last (l.take n)∧bW last (l.take n)<2147483648
 |[],last,_,h,n=>by simp[bW];exact h
 |(d,ps)::l,last,hm,h,0=>by simp[bW];exact h
 |(d,ps)::l,last,hm,h,n+1=>by
  simp only[dY,bD,decide_eq_true_eq]at hm;obtain⟨⟨⟨⟨h1,h2⟩,h3⟩,h4⟩,h5⟩:=hm;have:=iU l d h5 h2 n;simp only[List.take_succ_cons,bW];omega
theorem UF {M:aD} {w:World} {a b c d:Int} (ha: -9223372036854775808≤a∧a≤9223372036854775807) (hb: -9223372036854775808≤b∧b≤9223372036854775807) (hc: -9223372036854775808≤c∧c≤9223372036854775807) (hd: -9223372036854775808≤d∧d≤9223372036854775807):
  RT.bl.V M w (a,b,c,d) (.agg [.int .i64 a,.int .i64 b,.int .i64 c,.int .i64 d].toArray):=
 ⟨_,⟨[.int .i64 a],[.int .i64 b,.int .i64 c,.int .i64 d],rfl,⟨rfl,ha⟩,[.int .i64 b],[.int .i64 c,.int .i64 d],rfl,⟨rfl,hb⟩,[.int .i64 c],[.int .i64 d],rfl,⟨rfl,hc⟩,⟨rfl,hd⟩⟩,rfl⟩
theorem PC {M:aD} {w:World} {bx:Nat} {b:List UInt8} {ks:List Bl} {tot:Int} {vb vk:Value} {e:TypeId} {fr:Nat×Nat} (hx:w.heap[bx]? =some (.cells #[vb,vk,.int .i64 tot] e fr)) (hm: ¬M bx) (hb:(RT.u8.sl).V M w b vb) (hk:((RT.bl).sl).V M w ks vk) (ht: -9223372036854775808≤tot∧tot≤9223372036854775807):
  cf RT.li M w (.pointer (some ⟨bx,0,none⟩)) (b,ks,tot):=
 ⟨bx,0,[vb,vk,.int .i64 tot],rfl,hm,⟨[vb],[vk,.int .i64 tot],rfl,j1 hb rfl rfl,[vk],[.int .i64 tot],rfl,j1 hk rfl rfl,⟨rfl,ht⟩⟩,fun j v hj=>gT hx (by simpa using hj)⟩
theorem Fa {l:List Po} {i:Nat} (h8:i%8=0) (hi:i<l.length):mD l ((i+7)/8)++[(((dz (-1) (l.take i)).length:Int),bW (-1) (l.take i),bW (-1) (l.take (min (i+8) l.length)),(((l.drop i).take 8).length:Int))]=mD l ((min (i+8) l.length+7)/8):=by
 rw[show(min (i+8) l.length+7)/8=(i+7)/8+1 from by omega,DA];have e:8*((i+7)/8)=i:=by omega
 have e2:l.take (i+8)=l.take (min (i+8) l.length):=by rw[List.take_eq_take_iff];omega
 simp only[pw,e,e2]
theorem na:∀(l:List Po) (last:Int) (n m:Nat),dY last l=true→last<2147483648→n≤m→bW last (l.take n)≤bW last (l.take m)
 |[],last,n,m,_,_,_=>by simp
 |(d,ps)::l,last,0,m,hm,h,_=>by
  have:=(iU ((d,ps)::l) last hm h m).1;simpa[bW]using this
 |(d,ps)::l,last,n+1,0,_,_,h=>by omega
 |(d,ps)::l,last,n+1,m+1,hm,h,UG=>by
  simp only[dY,bD,decide_eq_true_eq]at hm;obtain⟨⟨⟨⟨h1,h2⟩,h3⟩,h4⟩,h5⟩:=hm;simpa[bW]using na l d n m h5 h2 (by omega)
theorem yV {g:List Po} {k:Nat} (hk:k<(g.length+7)/8):yT (hG g).2.1 (k:Int)=bW (-1) (g.take (8*k+8)):=by
 have hl:(hG g).2.1.length=(g.length+7)/8:=by simp[hG,mD]
 have hb:(hG g).2.1[k]? =some (pw g k):=by simp only[hG,mD,dZ];rw[List.getElem?_range hk];rfl
 unfold yT E8;rw[if_pos (by rw[hl];simp;omega),aG,bH,hb];rfl
end Go.K
namespace Go.K
section
variable {P:Program} {r:Option Nat} {n:Nat} {L:Sl} {ds:List Deferred} {w:World} {K:Kt} {ops:Array Oper} {rest:List Oper} {d:Nat} {x y:Operand} {ty:TypeId} {pos:String} {af:Array Edge}
theorem Rg.oa {t t' e:TypeId} {p:Option Addr} (ht:P.underlying t=some (.pointer e)) (hx:ev L x=some (.pointer p)) (hy:ev L y=some (.pointer none)) (hd:Nat.blt d n=true)
  (k:Rg P r n ops rest ((d,.bool (decide (p=none)))::L) ds w K):
  Rg P r n ops ({dst:=some d,op:= .binOp .eql t x y t',type:=ty,pos,after:=af,guard:=none}::rest) L ds w K:=
 .op (fun _ h=>by cases h) rfl rfl hd _ w (fun ρ h=>by
  have PA:P.underlying t=some (.pointer (P.pointee t)):=by simp[Program.pointee,ht]
  have he:=run_equal_pointer_nil (P:=P) w t p PA;simp only[execOp];rw[h x _ hx,h y _ hy]
  cases p<;>simp[eqGuard,binOp,run_underlying ht,he]) k
theorem Rg.J3 {t t' e:TypeId} {p:Option Addr} (ht:P.underlying t=some (.pointer e)) (hx:ev L x=some (.pointer p)) (hy:ev L y=some (.pointer none)) (hd:Nat.blt d n=true)
  (k:Rg P r n ops rest ((d,.bool (decide (p≠none)))::L) ds w K):
  Rg P r n ops ({dst:=some d,op:= .binOp .neq t x y t',type:=ty,pos,after:=af,guard:=none}::rest) L ds w K:=
 .op (fun _ h=>by cases h) rfl rfl hd _ w (fun ρ h=>by
  have PA:P.underlying t=some (.pointer (P.pointee t)):=by simp[Program.pointee,ht]
  have he:=run_equal_pointer_nil (P:=P) w t p PA;simp only[execOp];rw[h x _ hx,h y _ hy]
  cases p<;>simp[eqGuard,binOp,run_underlying ht,he]) k
end
end Go.K
namespace Go.K
def idx:List Po→Int→Nat
 |[],_=>0
 |p::l,to=>if p.1<to then idx l to+1 else 0
theorem Fb:∀(l:List Po) (to:Int),idx l to≤l.length
 |[],_=>aZ _
 |p::l,to=>by
  have:=Fb l to;simp only[idx,cq];split<;>omega
theorem A2:∀{l:List Po} {to:Int} {j:Nat} {p:Po},j<idx l to→l[j]? =some p→p.1<to
 |[],_,_,_,h,_=>by simp[idx]at h
 |q::l,to,j,p,h,hp=>by
  simp only[idx]at h
  split at h
  ·cases j with
   |zero=>simp at hp;subst hp;assumption
   |succ j=>exact A2 (l:=l) (j:=j) (by omega) (by simpa using hp)
  ·omega
theorem xx:∀{l:List Po} {to:Int} {p:Po},l[idx l to]? =some p→to≤p.1
 |[],_,_,h=>by simp[idx]at h
 |q::l,to,p,h=>by
  simp only[idx]at h
  split at h
  ·exact xx (by simpa using h)
  ·simp at h;subst h;omega
theorem Cz:∀{l:List Po} {to:Int} {e:Nat} {p:Po},l[e]? =some p→to≤p.1→idx l to≤e
 |[],_,_,_,h,_=>by simp at h
 |q::l,to,e,p,h,hp=>by
  simp only[idx]
  split
  ·cases e with
   |zero=>simp at h;subst h;omega
   |succ e=>have:=Cz (l:=l) (e:=e) (by simpa using h) hp;omega
  ·omega
theorem idx_eq {l:List Po} {to:Int} {i:Nat} (h1:∀j,j<i→∀p,l[j]? =some p→p.1<to) (h2:∀p,l[i]? =some p→to≤p.1) (h3:i≤l.length):idx l to=i:=by
 rcases kh (idx l to) i with h|h|h
 ·have hx:l[idx l to]? =some l[idx l to]:=aK (by omega);have:=xx hx;have:=h1 _ h _ hx;omega
 ·exact h
 ·have:=Fb l to;have hx:l[i]? =some l[i]:=aK (by omega);have:=A2 h hx;have:=h2 _ hx;omega
def eJ (l:List Po) (i:Int):Int:=if i<0 then-1 else match l[i.toNat]? with|some p=>p.1|none=>2147483648
def lj (l:List Po) (i:Int):List Int:=if i<0 then[]else match l[i.toNat]? with|some p=>p.2|none=>[]
def jy (l:List Po) (i:Int):List Po:=if i<0 then[]else(l.drop i.toNat).take (8-i.toNat%8)
def qn (l:List Po) (i to:Int):Int:=if to≤eJ l i then i else idx l to
theorem nN {l:List Po} {i:Nat} {d:Int} {ps:List Int} (hm:dY (-1) l=true) (h:l[i]? =some (d,ps)):0≤d∧d<2147483648:=by
 obtain⟨f1,f2,f3,f4,f5,f6⟩:=mX hm h;omega
theorem ig {l:List Po} {i:Nat} {d:Int} {ps:List Int} (h:l[i]? =some (d,ps)):eJ l (i:Int)=d:=by
 unfold eJ;rw[if_neg (by omega),aG,h]
theorem DB {l:List Po} {i:Int} (h:i<0):eJ l i= -1:=by unfold eJ;rw[if_pos h]
theorem qo {l:List Po} {i:Int} (h:(l.length:Int)≤i):eJ l i=2147483648:=by
 unfold eJ;rw[if_neg (by omega),eH (by omega)]
theorem jm (l:List Po) (i:Int):(i<0∧eJ l i= -1∧lj l i=[])∨(∃j:Nat,∃d ps,i=j∧l[j]? =some (d,ps)∧eJ l i=d∧lj l i=ps)∨((l.length:Int)≤i∧eJ l i=2147483648∧lj l i=[]):=by
 by_cases h0:i<0
 ·exact .inl ⟨h0,DB h0,by unfold lj;rw[if_pos h0]⟩
 ·by_cases h1:(l.length:Int)≤i
  ·exact .inr (.inr ⟨h1,qo h1,by unfold lj;rw[if_neg h0,eH (by omega)]⟩)
  ·obtain⟨j,rfl⟩:∃j:Nat,i=j:=⟨i.toNat,by omega⟩;obtain⟨⟨d,ps⟩,hx⟩:∃x,l[j]? =some x:=⟨_,aK (by omega)⟩;exact .inr (.inl ⟨j,d,ps,rfl,hx,ig hx,by unfold lj;rw[if_neg h0,aG,hx]⟩)
theorem vM {l:List Po} (hm:dY (-1) l=true) (i:Int): -1≤eJ l i∧eJ l i≤2147483648:=by
 rcases jm l i with⟨_,h,_⟩|⟨j,d,ps,rfl,hx,h,_⟩|⟨_,h,_⟩
 ·omega
 ·have:=nN hm hx;omega
 ·omega
theorem vN {g:List Po} {i:Nat} {d:Int} {ps:List Int} (h:g[i]? =some (d,ps)) (last:Int):bW last (g.take (i+1))=d:=by
 obtain⟨h1,h2⟩:=au.1 h;rw[ou h1,h2,uG];rfl
theorem xy {l:List Po} (hm:dY (-1) l=true) {t s:Nat} {p:Po} (hp:l[t]? =some p) (E3:t<s):p.1≤bW (-1) (l.take s):=by
 obtain⟨d,ps⟩:=p;rw[←vN hp (-1)];exact na l (-1) (t+1) s hm (by decide) E3
theorem CA {l:List Po} (hm:dY (-1) l=true) {t s:Nat} {p q:Po} (hp:l[t]? =some p) (hq:l[s]? =some q) (E3:t<s):p.1<q.1:=by
 obtain⟨e,qs⟩:=q;have h1:=xy hm hp E3;have h2:=(mX hm hq).1;omega
theorem vP {l lf:List Po} (hm:dY (-1) l=true) {s k:Nat} {to:Int} (h1:8*k≤s) (h2:s<8*k+8) (hs:s<l.length) (Fc:bW (-1) (l.take s)<to) (PD:to≤bW (-1) (l.take (8*k+8)))
  (LH:lf=(l.drop s).take (8*k+8-s)):idx l to=s+idx lf to∧idx lf to<lf.length∧idx l to<l.length∧idx l to/8=k∧lf.drop (idx lf to)=jy l (idx l to:Nat):=by
 have OK:s≤idx l to:=by
  rcases ec (idx l to) s with h|h
  ·have hx:l[idx l to]? =some l[idx l to]:=aK (by omega);have:=xx hx;have:=xy hm hx h;omega
  ·exact h
 obtain⟨⟨d,ps⟩,he⟩:∃x,l[min (8*k+8) l.length-1]? =some x:=⟨_,aK (by omega)⟩
 have hde:bW (-1) (l.take (8*k+8))=d:=by
  rw[←vN he (-1),show l.take (8*k+8)=l.take (min (8*k+8) l.length-1+1)from by rw[List.take_eq_take_iff];omega]
 have qj:=Cz he (to:=to) (by simp only;omega);have Ls:lf.length=min (8*k+8-s) (l.length-s):=by rw[LH,bS,cT]
 have ga:∀t,t<lf.length→lf[t]? =l[s+t]? :=fun t ht=>by rw[LH,dm,if_pos (by omega),List.getElem?_drop]
 have Tp:idx lf to=idx l to-s:=by
  refine idx_eq (fun j hj p hp=>?_) (fun p hp=>?_) (by omega)
  ·have pY:=(au.1 hp).1;rw[ga j pY]at hp;exact A2 (by omega) hp
  ·have pY:=(au.1 hp).1;rw[ga _ pY,show s+(idx l to-s)=idx l to from by omega]at hp;exact xx hp
 refine⟨by omega,by omega,by omega,by omega,?_⟩;unfold jy;rw[if_neg (by omega),aG,Tp,LH,List.drop_take,List.drop_drop,show s+(idx l to-s)=idx l to from by omega,List.take_eq_take_iff,cT];omega
theorem Iq {l:List Po} (hm:dY (-1) l=true) {to:Int} {n:Nat} (hn:l.length≤n) (Fc:bW (-1) (l.take n)<to):idx l to=l.length:=by
 refine idx_eq (fun j hj p hp=>?_) (fun p hp=>?_) (aZ _)
 ·have:=xy hm hp (s:=n) (by omega);omega
 ·simp at hp
theorem DC {l:List Po} (hm:dY (-1) l=true) {i k to:Int} (hi: -1≤i∧i≤l.length) (hk: -1≤k∧k<((l.length+7)/8:Nat)) (OL:i<0→k= -1) (pZ:0≤i→i<l.length→k=i/8) (Px:eJ l i<to):
  bW (-1) (l.take (8*(max k 0).toNat))<to:=by
 rcases jm l i with⟨h0,h,_⟩|⟨j,d,ps,rfl,hx,h,_⟩|⟨h0,h,_⟩
 ·rw[OL h0];simp only[show(max (-1:Int) 0).toNat=0 from by decide,Nat.mul_zero,List.take_zero,bW];omega
 ·have hj:=(au.1 hx).1;have yP:=pZ (by omega) (by omega);have h2:=(mX hm hx).1;have h3:=na l (-1) (8*(max k 0).toNat) j hm (by decide) (by omega);omega
 ·have:=(iU l (-1) hm (by decide) (8*(max k 0).toNat)).2;omega
def Cu (T:TypeId) (l:List Po) (i:Int) (M:aD) (w:World) (bc:Nat):Prop:=
 ∃(p u:Value) (k EB:Int),M bc∧w.heap[bc]? =some (.cells #[p,.int .i64 k,u,.int .i64 (eJ l i),.int .i64 EB] T (0,0))∧cf RT.li M w p (hG l)∧((RT.po).sl).V M w (jy l i) u∧
  (-1≤i∧i≤l.length)∧(-1≤k∧k<((l.length+7)/8:Nat))∧(i<0→k= -1)∧(0≤i→i<l.length→k=i/8)
theorem Cu.step {T:TypeId} {l:List Po} {i:Int} {M M' N:aD} {w w':World} {bc:Nat} (h:Cu T l i M w bc) (s:Step M w M' w' N) (hn: ¬N bc):Cu T l i M' w' bc:=by
 obtain⟨p,u,k,EB,h1,h2,h3,h4,h5⟩:=h;exact⟨p,u,k,EB,(s.mem bc (aj h2)).2 h1,s.bB h2 hn,h3.le (by decide) s.le,h4.le s.le,h5⟩
theorem LI {M:aD} {w:World} {d:Int} {ps:List Int} {v:Value} (h:RT.po.V M w (d,ps) v):∃u,v= .agg #[.int .i64 d,u]∧u.oneCell'=true∧(-9223372036854775808≤d∧d≤9223372036854775807):=by
 obtain⟨vs,⟨va,vb,rfl,⟨rfl,hd⟩,hb⟩,rfl⟩:=h;obtain⟨a,cap,rfl,_⟩:=hb;exact⟨_,rfl,rfl,hd⟩
end Go.K
namespace Go.K
section
variable {P:Program} {r:Option Nat} {n:Nat} {L:Sl} {ds:List Deferred} {w:World}
theorem xz {fn:Func} {Q:Value→World→Prop} {c t b:Nat} {vs:List Value} {fs:TypeDesc} {e:TypeId} {fr:Nat×Nat} {zv:Value} {size bytes:Nat} (hr:fn.results= #[.cell c t]) (hc:lk L c=some (.pointer (some ⟨b,0,none⟩))) (hu:P.underlying t=some fs) (hf:fs.isRow=true) (hi:TI P t zv size bytes) (hl:vs.length=size)
  (hb:w.heap[b]? =some (.cells vs.toArray e fr)) (h:Q (.agg vs.toArray) w):xi P fn Q .ret L [] w:=
 ⟨rfl,fun a ha=>⟨_,by
  obtain⟨i,vB,_,AQ,_⟩:=hi.get;have LD:w.rangeAt b 0 vs:=fun j v hj=>gT hb (by simpa using hj)
  have:=run_loadVar_mid (P:=P) w b 0 t vs fs LD hu hf (by simp[vB,AQ,hl]);simp[results,hr,ha _ _ hc,asAddr,this,cz],h⟩⟩
end
end Go.K
namespace Go.K
section
variable {P:Program} {r:Option Nat} {n:Nat} {L:Sl} {ds:List Deferred} {w:World} {K:Kt} {ops:Array Oper} {rest:List Oper} {d:Nat} {ty:TypeId} {pos:String} {af:Array Edge} {x y i:Operand} {α:Type} {A:RT α}
theorem Rg.opv {o:Oper} (kL:∀c,o.op≠ .defer c) (hg:o.guard=none) (hd:o.dst=none) (v:Value) (w':World)
  (fk:∀ρ:Operand→Value,(∀x u,ev L x=some u→ρ x=u)→(execOp ρ o).run P w= .ok (.value v) w')
  (h:Rg P r n ops rest L ds w' K):Rg P r n ops (o::rest) L ds w K:=by
 refine⟨fun a ha=>wpListIn_plain hg fun K' H5=>yC kL ?_⟩;rw[fk a.eval (fun x u hx=>ha.eval hx),Oper.uponIn_value,hd];exact H5 _ _ (h.run _ ha)
theorem Rg.UH {t e:TypeId} {zv:Value} {bytes size:Nat} (ht:P.underlying t=some (.slice e)) (hi:TI P e zv size bytes) (M:aD) (hd:Nat.blt d n=true)
  (k:∀g w',w.heap.size≤g→g<w'.heap.size→w'.heap[g]? =some (.cells #[] e (0,0))→Step M w (ins M g) w' aw→Rg P r n ops rest ((d,.slice (some ⟨g,0,none⟩) 0 0)::L) ds w' K):
  Rg P r n ops ({dst:=some d,op:= .buildSlice t 0 #[],type:=ty,pos,after:=af,guard:=none}::rest) L ds w K:=by
 refine .op (fun _ h=>by cases h) rfl rfl hd (.slice (some ⟨w.heap.size,0,none⟩) 0 0) (w.alloc (.cells #[] e)) (fun ρ hρ=>?_) (k w.heap.size _ (aZ _) (by simp) (cu w _) ((cL M w _).own (aZ _) (by simp)));simp only[execOp,Instr.buildSlice,cz,run_underlying ht,cY,hi.sizeOf];simp[newRow,newObj,Sem.run,Instr.fill];have h0:Array.range 0= #[]:=by apply Array.ext<;>simp
 simp[h0]
end
theorem Own.empty {α:Type} {A:RT α} {e:TypeId} {M:aD} {w:World} {base g:Nat} (h:w.heap[g]? =some (.cells #[] e (0,0))) (hb:base≤g) (hm:M g):Own A e M w base (.slice (some ⟨g,0,none⟩) 0 0) []:=
 ⟨⟨[],⟨by simp,.inr ⟨g,0,#[],rfl,hb,h,aZ _,bG _,by simp,by simp⟩⟩,rfl⟩,fun b hb=>by cases hb;exact hm⟩
end Go.K
namespace Go.K
section
variable {P:Program} {r:Option Nat} {n:Nat} {L:Sl} {ds:List Deferred} {w:World} {K:Kt} {ops:Array Oper} {rest:List Oper} {d:Nat} {x y i:Operand} {ty:TypeId} {pos:String} {af:Array Edge}
theorem Rg.A3 {t e:TypeId} {κ:IntKind} {j:Int} {b len cap bytes:Nat} {zv:Value} (ht:P.underlying t=some (.slice e)) (hi:TI P e zv 1 bytes) (hx:ev L x=some (.slice (some ⟨b,0,none⟩) len cap)) (H8:ev L i=some (.int κ j)) (hd:Nat.blt d n=true) (hj:0≤j∧j<len)
  (k:Rg P r n ops rest ((d,.pointer (some ⟨b,j.toNat,none⟩))::L) ds w K):
  Rg P r n ops ({dst:=some d,op:= .indexAddr t x i,type:=ty,pos,after:=af,guard:=none}::rest) L ds w K:=
 .op (fun _ h=>by cases h) rfl rfl hd _ w (fun ρ h=>by
  simp only[execOp,h x _ hx,h i _ H8];simp[Instr.indexAt,run_underlying ht,asIntOf,hj,hi.sizeOf,Addr.add_mid]) k
theorem Rg.mk0 {t e:TypeId} {len:Nat} {bytes:Nat} {zv:Value} (M:aD) (ht:P.underlying t=some (.slice e)) (hi:TI P e zv 1 bytes) (hz:zv.cells= #[zv]) (hx:ev L x=some (.int .i64 len)) (hy:ev L y=some (.int .i64 len)) (hd:Nat.blt d n=true) (hb:bytes*len≤140737488355328) (hl:len≤9223372036854775807)
  (k:∀b w',w.heap.size≤b→b<w'.heap.size→w'.heap[b]? =some (.cells (List.replicate len zv).toArray e (0,0))→Step M w (ins M b) w' aw→Rg P r n ops rest ((d,.slice (some ⟨b,0,none⟩) len len)::L) ds w' K):
  Rg P r n ops ({dst:=some d,op:= .makeSlice t x y,type:=ty,pos,after:=af,guard:=none}::rest) L ds w K:=by
 obtain⟨inf,i1,i2,i3,i4⟩:=hi.get
 have hm:madeCells zv.cells (len*1)=(List.replicate len zv).toArray:=by
  apply Array.ext
  ·simp[madeCells]
  ·intro j h1 h2;simp[madeCells,hz,Nat.mod_one]
 refine .op (fun _ h=>by cases h) rfl rfl hd (.slice (some ⟨w.heap.size,0,none⟩) len len) (w.alloc (.cells (List.replicate len zv).toArray e)) (fun ρ hρ=>?_) (k w.heap.size _ (aZ _) (by simp) (cu w _) ((cL M w _).own (aZ _) (by simp)))
 have ZT:(inf.bytes:Int)*(len:Int)≤281474976710656:=by
  rw[i4];have h1:((bytes*len:Nat):Int)≤281474976710656:=by omega
  rwa [Int.natCast_mul]at h1
 have hr:=run_make (P:=P) w t e inf zv ht i1 i2 .i64 .i64 (len:Int) (len:Int) (by omega) (Int.le_refl _) ZT (by omega);simp only[aG,i3,hm]at hr;simp only[execOp,hρ x _ hx,hρ y _ hy];simp[cz,hr]
theorem Rg.PE {xt:TypeId} {p:Nat} (hx:ev L x=some (.int .u64 p)) (hd:Nat.blt d n=true) (hp:p<2^64) (k:Rg P r n ops rest ((d,.int .u64 ((2^64-1-p:Nat):Int))::L) ds w K):
  Rg P r n ops ({dst:=some d,op:= .unOp .xor xt x,type:=ty,pos,after:=af,guard:=none}::rest) L ds w K:=by
 refine .op (fun _ h=>by cases h) rfl rfl hd _ w (fun ρ h=>?_) k
 have e:(2^64-1:Nat)^^^p=2^64-1-p:=by
  apply Nat.eq_of_testBit_eq;intro j;have h1:=Nat.testBit_two_pow_sub_succ (x:=p) (n:=64) hp j;rw[show 2^64-1-p=2^64-(p+1)from by omega,h1,Nat.testBit_xor,Nat.testBit_two_pow_sub_one];by_cases hj:j<64
  ·simp[hj]
  ·have:p.testBit j=false:=Nat.testBit_lt_two_pow (Nat.lt_of_lt_of_le hp (Nat.pow_le_pow_right (by decide) (by omega)));simp[hj,this]
 simp only[execOp,h x _ hx]
 have hb:(BitVec.ofInt IntKind.u64.bits IntKind.u64.max^^^BitVec.ofInt IntKind.u64.bits (p:Int)).toNat=2^64-1-p:=by
  rw[BitVec.toNat_xor,mR,mR];have h1:(IntKind.u64.max%((2^IntKind.u64.bits:Nat):Int)).toNat=2^64-1:=by decide
  have h2:((p:Int)%((2^IntKind.u64.bits:Nat):Int)).toNat=p:=by
   change((p:Int)%((18446744073709551616:Nat):Int)).toNat=p;omega
  rw[h1,h2,e]
 have hw:IntKind.u64.wrap ((2^64-1-p:Nat):Int)=((2^64-1-p:Nat):Int):=IntWalk.u64_in _ (by omega)
 have hu:(Op.unary .xor (.int .u64 (p:Int))).run P w= .ok (.int .u64 ((2^64-1-p:Nat):Int)) w:=by
  change(Op.intBits .xor .u64 IntKind.u64.max (p:Int)).run P w=_;unfold Op.intBits;simp only[];rw[hb,hw];simp
 simp[hu]
theorem Fe (p q:Nat) (hp:p<2^64) (hq:q<2^64):IntKind.u64.wrap (BitVec.ofInt IntKind.u64.bits (p:Int)&&&BitVec.ofInt IntKind.u64.bits (q:Int)).toNat=((p&&&q:Nat):Int):=by
 have h:∀z:Nat,z<2^64→((z:Int)%((2^IntKind.u64.bits:Nat):Int)).toNat=z:=fun z hz=>by
  change((z:Int)%((18446744073709551616:Nat):Int)).toNat=z;omega
 rw[BitVec.toNat_and,mR,mR,h p hp,h q hq];exact IntWalk.u64_in _ (by have:=Nat.and_le_left (n:=p) (m:=q);omega)
theorem PF (p q:Nat) (hp:p<2^64) (hq:q<2^64):IntKind.u64.wrap (BitVec.ofInt IntKind.u64.bits (p:Int)^^^BitVec.ofInt IntKind.u64.bits (q:Int)).toNat=((p^^^q:Nat):Int):=by
 have h:∀z:Nat,z<2^64→((z:Int)%((2^IntKind.u64.bits:Nat):Int)).toNat=z:=fun z hz=>by
  change((z:Int)%((18446744073709551616:Nat):Int)).toNat=z;omega
 rw[BitVec.toNat_xor,mR,mR,h p hp,h q hq];exact IntWalk.u64_in _ (by have:=Nat.xor_lt_two_pow hp hq;omega)
end
def bit (ws:List Nat) (i:Nat):Bool:=(ws.getD (i/64) 0).testBit (i%64)
def Words (ws:List Nat):Prop:=∀x∈ws,x<2^64
theorem Words.get {ws:List Nat} (h:Words ws) (k:Nat):ws.getD k 0<2^64:=by
 rw[bH]
 cases hx:ws[k]? with
 |none=>simp
 |some x=>exact h x (aN hx)
theorem yW (ws:List Nat) (k j x:Nat) (hk:k<ws.length):(ws.set k x).getD j 0=if j=k then x else ws.getD j 0:=by
 rw[bH,bH,dJ];by_cases h:k=j
 ·subst h;simp[hk]
 ·rw[if_neg h,if_neg (fun e=>h e.symm)]
theorem Words.set {ws:List Nat} (h:Words ws) {k x:Nat} (hx:x<2^64):Words (ws.set k x):=fun y hy=>by
 rcases List.mem_or_eq_of_mem_set hy with h1|h1
 ·exact h y h1
 ·rw[h1];exact hx
theorem Ff {ws:List Nat} (hw:Words ws) {i:Nat} (hi:i/64<ws.length) (j:Nat):bit (ws.set (i/64) (ws.getD (i/64) 0^^^2^(i%64))) j=(bit ws j ^^ decide (j=i)):=by
 unfold bit;rw[yW _ _ _ _ hi];by_cases h:j/64=i/64
 ·rw[if_pos h,Nat.testBit_xor,Nat.testBit_two_pow,h];congr 1;exact decide_eq_decide.2 (by omega)
 ·rw[if_neg h,decide_eq_false (by intro e;rw[e]at h;exact h rfl),Bool.xor_false]
theorem CB (n:Nat):IntKind.u64.wrap (n:Int)=((n%2^64:Nat):Int):=by
 have:IntKind.u64.wrap (n:Int)=(n:Int)%18446744073709551616:=by simp[IntKind.wrap,IntKind.bits,IntKind.signed]
 rw[this];omega
theorem UI (x t:Nat) (ht:t<64):((x:Int)).fdiv (2^min ((t:Int)).toNat IntKind.u64.bits)=((x/2^t:Nat):Int):=by
 rw[aG,show min t IntKind.u64.bits=t from Nat.min_eq_left (show t≤64 by omega),show(2:Int)^t=((2^t:Nat):Int)from by simp,Int.fdiv_eq_ediv_of_nonneg _ (Int.natCast_nonneg _)];rfl
theorem PG (t:Nat) (ht:t<64):IntKind.u64.wrap (1*2^min ((t:Int)).toNat IntKind.u64.bits)=((2^t:Nat):Int):=by
 have h:(2:Nat)^t<2^64:=Nat.pow_lt_pow_right (by decide) ht;rw[aG,show min t IntKind.u64.bits=t from Nat.min_eq_left (show t≤64 by omega),Int.one_mul,show(2:Int)^t=((2^t:Nat):Int)from by simp,CB,Nat.mod_eq_of_lt h]
def lV (ws:List Nat):Array Value:=(ws.map fun(x:Nat)=>Value.int .u64 (x:Int)).toArray
theorem hU {ws:List Nat} {k:Nat} (hk:k<ws.length):(lV ws)[k]? =some (.int .u64 (ws.getD k 0:Nat)):=by
 simp[lV,bH,aK hk]
theorem oM (ws:List Nat) (k x:Nat):(lV ws).setIfInBounds k (.int .u64 (x:Int))=lV (ws.set k x):=by
 simp[lV,List.map_set]
structure gQ (Ts Tw:TypeId) (n:Nat) (ws:List Nat) (M:aD) (w:World) (bs bw:Nat):Prop where
 ms:M bs
 mw:M bw
 ne:bs≠bw
 s:w.heap[bs]? =some (.cells #[.int .i64 n,.slice (some ⟨bw,0,none⟩) ws.length ws.length] Ts (0,0))
 w:w.heap[bw]? =some (.cells (lV ws) Tw (0,0))
 len:ws.length=(n+63)/64
 ok:Words ws
 nn:n≤1099511627776
theorem gQ.step {Ts Tw:TypeId} {n:Nat} {ws:List Nat} {M M' N:aD} {w w':World} {bs bw:Nat} (h:gQ Ts Tw n ws M w bs bw) (s:Step M w M' w' N) (h1: ¬N bs) (h2: ¬N bw):gQ Ts Tw n ws M' w' bs bw:=
 ⟨(s.mem bs (aj h.s)).2 h.ms,(s.mem bw (aj h.w)).2 h.mw,h.ne,s.bB h.s h1,s.bB h.w h2,h.len,h.ok,h.nn⟩
theorem gQ.put {Ts Tw:TypeId} {n:Nat} {ws ra:List Nat} {M:aD} {w w':World} {bs bw:Nat} (h:gQ Ts Tw n ws M w bs bw) (s:Step M w M w' (fun b=>b=bw)) (hl:ra.length=ws.length) (hw:w'.heap[bw]? =some (.cells (lV ra) Tw (0,0))) (ok:Words ra):gQ Ts Tw n ra M w' bs bw:=
 ⟨h.ms,h.mw,h.ne,by rw[hl];exact s.bB h.s h.ne,hw,by rw[hl];exact h.len,ok,h.nn⟩
def J4 (n:Nat) (ws:List Nat) (i:Int):Bool:=decide (0≤i∧i<n)&&bit ws i.toNat
section
variable {P:Program} {r:Option Nat} {n:Nat} {L:Sl} {ds:List Deferred} {w:World} {K:Kt} {ops:Array Oper} {rest:List Oper} {d:Nat} {x:Operand} {ty:TypeId} {pos:String} {af:Array Edge}
theorem Rg.nc {t e:TypeId} {a:Option Addr} {l c:Nat} (ht:P.underlying t=some (.slice e)) (hx:ev L x=some (.slice a l c)) (hd:Nat.blt d n=true)
  (k:Rg P r n ops rest ((d,.int .i64 (l:Int))::L) ds w K):
  Rg P r n ops ({dst:=some d,op:= .call {callee:= .builtin .len,args:= #[x],argTypes:= #[t]},type:=ty,pos,after:=af,guard:=none}::rest) L ds w K:=by
 refine .op (fun _ h=>by cases h) rfl rfl hd _ w (fun ρ h=>?_) k;simp[execOp,resolve,invoke,builtin,h x _ hx,Builtin.len_,run_underlying ht,goInt]
end
theorem xA (ws:List Nat) {k x:Nat} (hk:k<ws.length) (j:Nat):bit (ws.set k x) j=if j/64=k then x.testBit (j%64)else bit ws j:=by
 unfold bit;rw[yW _ _ _ _ hk]
 split<;>rfl
theorem Fg {x t:Nat} (hx:x<2^64) (ht:t<64):(2^64-1-x).testBit t= !x.testBit t:=by
 rw[show 2^64-1-x=2^64-(x+1)from by omega,Nat.testBit_two_pow_sub_succ hx,decide_eq_true ht,dy]
theorem Ir {ws:List Nat} {j:Nat} (h:ws.length≤j/64):bit ws j=false:=by
 unfold bit;rw[bH,eH h];simp
theorem yX (k j:Nat):bit (List.replicate k 0) j=false:=by
 unfold bit;rw[bH,List.getElem?_replicate]
 split<;>simp
end Go.K
namespace Go.K
abbrev Tw:=Int×Int×Int
def RT.J5:RT Nat where
 n:=1
 agg:=false
 R:=fun _ _ b vs=>vs=[.pointer (some ⟨b,0,none⟩)]
 len:=by rintro _ _ x vs rfl;rfl
 one:=by rintro _ _ x vs rfl v hv;simp at hv;subst hv;rfl
 le:=fun _ h=>h
theorem J6 {M:aD} {w:World} {b:Nat} {v:Value}:RT.J5.V M w b v↔v= .pointer (some ⟨b,0,none⟩):=⟨fun⟨_,h1,h2⟩=>by cases h1;exact h2,fun h=>⟨_,rfl,h⟩⟩
end Go.K
namespace Go.K
open Go.RowKit (Below)
open Go.Maps (Keyed)
open Go.ChangeMaps (putKey delKey notKey)
abbrev DU:=DataW Unit
theorem vQ {P:Program} {k:TypeId} {R:Value→Option (DU×List MemPlace)} {w:World} {b n:Nat} {m:List (Lit×DU)} (h:w.ownsMap P k R b n (.map m)):w.ownsMap P k R b m.length (.map m):=by
 obtain⟨es,clock,h1,h2,h3,h4⟩:=h;refine⟨es,clock,h1,h2,?_,h4⟩;have:m=(es.toList.map (Go.WideElems.rg P k R)).foldr DataW.insert []:=by injection h4
 rw[this,length_sorted,de,Array.length_toList];exact aZ _
structure jn (P:Program) (k:TypeId) (R:Value→Option (DU×List MemPlace)) (M:aD) (w:World) (b:Nat) (m:List (Lit×DU)):Prop where
 mut_:M b
 own:w.ownsMap P k R b m.length (.map m)
section
variable {P:Program} {r:Option Nat} {n:Nat} {L:Sl} {ds:List Deferred} {w:World} {K:Kt} {ops:Array Oper} {rest:List Oper} {d:Nat} {x y z:Operand} {ty:TypeId} {pos:String} {af:Array Edge}
variable {kt:TypeId} {R:Value→Option (DU×List MemPlace)} {M:aD} {b:Nat} {m:List (Lit×DU)}
theorem jn.lt (h:jn P kt R M w b m):b<w.heap.size:=h.own.lt
theorem jn.step {M' N:aD} {w':World} (h:jn P kt R M w b m) (s:Step M w M' w' N) (hn: ¬N b):jn P kt R M' w' b m:=by
 obtain⟨hm,es,clock,h1,h2,h3,h4⟩:=h;exact⟨(s.mem b (aj h1)).2 hm,es,clock,s.bB h1 hn,h2,h3,h4⟩
theorem jn.aW {M':aD} {w':World} (h:jn P kt R M w b m) (s:Step M w M' w' aw):jn P kt R M' w' b m:=h.step s fun h=>h
theorem jn.ne {cs:Array Value} {e:TypeId} {fr:Nat×Nat} {c:Nat} (h:jn P kt R M w b m) (hc:w.heap[c]? =some (.cells cs e fr)):b≠c:=fun e=>by
 subst e;obtain⟨_,es,clock,h1,_⟩:=h;rw[h1]at hc;cases hc
theorem Step.sL {w w':World} (h:Below w.heap.size w w') (M:aD):Step M w M w' aw:=
 ⟨fun h0 b hb=>Nat.lt_of_lt_of_le (h0 b hb) h.size,h.os,h.tape,h.output,h.size,fun _ _=>Iff.rfl,fun b hb _=>h.block b hb,fun _ h=>h.elim⟩
theorem Step.grownBy {w w':World} {b:Nat} (h:w.grownBy w' (some b)) (hm:M b):Step M w M w' (fun k=>k=b):=
 ⟨fun h0 b hb=>Nat.lt_of_lt_of_le (h0 b hb) h.size,h.os,h.tape,h.output,h.size,fun _ _=>Iff.rfl,fun k hk hn=>h.block k hk (fun e=>hn (bU e)),fun k hk=>by rw[hk];exact hm⟩
theorem Rg.makeMap {t e:TypeId} (M:aD) (ht:P.underlying t=some (.map kt e)) (hd:Nat.blt d n=true) (R:Value→Option (DU×List MemPlace))
  (k:∀b w',w.heap.size≤b→b<w'.heap.size→jn P kt R (ins M b) w' b []→Step M w (ins M b) w' aw→Rg P r n ops rest ((d,.map (some b))::L) ds w' K):
  Rg P r n ops ({dst:=some d,op:= .makeMap t none,type:=ty,pos,after:=af,guard:=none}::rest) L ds w K:=by
 refine .op (fun _ h=>by cases h) rfl rfl hd (.map (some w.heap.size)) (w.alloc (.map #[] 0)) (fun ρ hρ=>?_) (k w.heap.size _ (aZ _) (by simp) ⟨.inl rfl,World.ownsMap_made w P kt R⟩ ((cL M w _).own (aZ _) (by simp)));simp only[execOp];simp[Instr.makeMap,newObj,Sem.run,run_underlying ht]
theorem Rg.nf {t e:TypeId} {zv key:Value} {size bytes:Nat} {zd:DU} {zp:List MemPlace} {kl:Lit} (ht:P.underlying t=some (.map kt e)) (Kk:Keyed P kt) (hi:TI P e zv size bytes) (hzd:R zv=some (zd,zp)) (hx:ev L x=some (.map (some b))) (hy:ev L y=some key) (hd:Nat.blt d n=true) (hY:keyOf P kt key=some kl) (h:jn P kt R M w b m)
  (k:∀v ps,R v=some ((DataW.map m).atKey kl zd,ps)→Rg P r n ops rest ((d,v)::L) ds w K):
  Rg P r n ops ({dst:=some d,op:= .lookup t x y false,type:=ty,pos,after:=af,guard:=none}::rest) L ds w K:=by
 obtain⟨inf,i1,i2,_,_⟩:=hi.get;obtain⟨v,ps,fk,hv⟩:=h.own.lookup Kk ht (z:=zv) (by simp[zeroValue,typeInfo,i1,i2]) hzd hY;refine .op (fun _ h=>by cases h) rfl rfl hd v w (fun ρ hρ=>?_) (k v ps hv);simp only[execOp,hρ x _ hx,hρ y _ hy];simp[cz,fk]
theorem Rg.LJ {t e:TypeId} {key val:Value} {kl:Lit} {dv:DU} {ps:List MemPlace} (ht:P.underlying t=some (.map kt e)) (Kk:Keyed P kt) (hx:ev L x=some (.map (some b))) (hy:ev L y=some key) (hz:ev L z=some val) (hY:keyOf P kt key=some kl) (hv:R val=some (dv,ps)) (h:jn P kt R M w b m) (hlen:m.length<maxLen)
  (k:∀w',jn P kt R M w' b (putKey kl dv m)→Step M w M w' (fun k=>k=b)→Rg P r n ops rest L ds w' K):
  Rg P r n ops ({dst:=none,op:= .mapUpdate t x y z,type:=ty,pos,after:=af,guard:=none}::rest) L ds w K:=by
 obtain⟨w',fk,ho,hg⟩:=h.own.update Kk ht hlen hY hv;rw[DataW.put_eq]at ho;refine .OB (fun _ h=>by cases h) rfl rfl w' (fun ρ hρ=>?_) (k w' ⟨h.mut_,vQ ho⟩ (.grownBy hg h.mut_));simp only[execOp,hρ x _ hx,hρ y _ hy,hρ z _ hz];simp[cz,fk]
theorem Rg.LK {t e:TypeId} {key:Value} {kl:Lit} (ht:P.underlying t=some (.map kt e)) (Kk:Keyed P kt) (hx:ev L x=some (.map (some b))) (hy:ev L y=some key) (hY:keyOf P kt key=some kl) (h:jn P kt R M w b m)
  (k:∀w',jn P kt R M w' b (delKey kl m)→Step M w M w' (fun k=>k=b)→Rg P r n ops rest L ds w' K):
  Rg P r n ops ({dst:=none,op:= .call {callee:= .builtin .delete,args:= #[x,y],argTypes:= #[t,kt]},type:=ty,pos,after:=af,guard:=none}::rest) L ds w K:=by
 obtain⟨w',fk,ho,hg⟩:=h.own.drop Kk ht hY ty;rw[DataW.del_eq]at ho;refine .opv (fun _ h=>by cases h) rfl rfl (.tuple #[]) w' (fun ρ hρ=>?_) (k w' ⟨h.mut_,vQ ho⟩ (.grownBy hg.grown h.mut_));simp only[execOp,resolve,p6,eL,List.map_nil,hρ x _ hx,hρ y _ hy];simp[Go.invoke,builtin,fk]
end
def ng:Value→Option (DU×List MemPlace)
 |.pointer (some ⟨b,0,none⟩)=>some (.lit (.int .i64 (b:Int)),[])
 |.pointer none=>some (.lit (.int .i64 (-1)),[])
 |_=>none
theorem iV {v:Value} {b:Nat} {ps:List MemPlace} (h:ng v=some (.lit (.int .i64 (b:Int)),ps)):v= .pointer (some ⟨b,0,none⟩):=by
 unfold ng at h
 split at h
 ·simp only[Option.some.injEq,qP,DataW.lit.injEq,Lit.int.injEq,true_and]at h
  rename_i b'
  obtain⟨h,_⟩:=h;obtain rfl:b'=b:=by omega
  rfl
 ·simp only[Option.some.injEq,qP,DataW.lit.injEq,Lit.int.injEq,true_and]at h;obtain⟨h,_⟩:=h;omega
 ·cases h
theorem DD {v:Value} {ps:List MemPlace} (h:ng v=some (.lit (.int .i64 (-1)),ps)):v= .pointer none:=by
 unfold ng at h
 split at h
 ·simp only[Option.some.injEq,qP,DataW.lit.injEq,Lit.int.injEq,true_and]at h;obtain⟨h,_⟩:=h;omega
 ·rfl
 ·cases h
def lW (p:Int×Nat):Lit×DU:=(.int .i64 p.1,.lit (.int .i64 (p.2:Int)))
def qp (p:Int×Nat):List (Int×Nat)→List (Int×Nat)
 |[]=>[p]
 |q::l=>if p.1<q.1 then p::q::l else q::qp p l
theorem yY (p:Int×Nat):∀l,DataW.insert (lW p) (l.map lW)=(qp p l).map lW
 |[]=>rfl
 |q::l=>by
  simp only[eL,DataW.insert,qp,lW,Lit.before];by_cases h:p.1<q.1
  ·simp[h,lW]
  ·simp only[h,decide_false,Bool.false_eq_true,if_false,eL];have:=yY p l;simp only[lW]at this;rw[this];rfl
theorem yZ (p:Int×Nat):∀l,(qp p l).length=l.length+1
 |[]=>rfl
 |q::l=>by
  simp only[qp];split
  ·rfl
  ·simp[yZ p l]
theorem gR (p:Int×Nat):∀l x,x∈qp p l↔x=p∨x∈l
 |[],x=>by simp[qp]
 |q::l,x=>by
  simp only[qp];split
  ·simp
  ·rw[cW,gR p l x,cW];constructor
   ·rintro(h|h|h);exact .inr (.inl h);exact .inl h;exact .inr (.inr h)
   ·rintro(h|h|h);exact .inr (.inl h);exact .inl h;exact .inr (.inr h)
theorem A4 (i:Int) (p:Int×Nat):notKey (.int .i64 i) (lW p)= !decide (p.1=i):=by simp[notKey,lW,Lit.sameKey]
theorem sM (i:Int) (l:List (Int×Nat)):delKey (.int .i64 i) (l.map lW)=(l.filter fun p=> !decide (p.1=i)).map lW:=by
 unfold delKey;rw[List.filter_map];congr 1;refine List.filter_congr fun q _=> ?_
 exact A4 i q
theorem A5 (i:Int) (b:Nat) (l:List (Int×Nat)):putKey (.int .i64 i) (.lit (.int .i64 (b:Int))) (l.map lW)=(qp (i,b) (l.filter fun p=> !decide (p.1=i))).map lW:=by
 have:=sM i l;unfold delKey at this;unfold putKey;rw[this];exact yY (i,b) _
def xB (l:List (Int×Nat)):Prop:=l.Pairwise fun p q=>p.1≠q.1
theorem vR (p:Int×Nat):∀l,(qp p l).Perm (p::l)
 |[]=>List.Perm.refl _
 |q::l=>by
  simp only[qp];split
  ·exact List.Perm.refl _
  ·exact((vR p l).cons q).trans (List.Perm.swap p q l)
theorem xB.ins {p:Int×Nat} {l:List (Int×Nat)} (h:xB l) (hp:∀q∈l,q.1≠p.1):xB (qp p l):=
 ((vR p l).symm.pairwise (eT.2 ⟨fun q hq e=>hp q hq e.symm,h⟩) (fun {_ _} eD=>Ne.symm eD))
theorem filter_none {l:List (Int×Nat)} {i:Int} (h:∀q∈l,q.1≠i):(l.filter fun p=> !decide (p.1=i))=l:=List.filter_eq_self.2 fun q hq=>by simp[h q hq]
theorem A6 {l:List (Int×Nat)} {i:Int} {b:Nat} (h:xB l) (hm:(i,b)∈l):(l.filter fun p=> !decide (p.1=i)).length+1=l.length:=by
 induction l with
 |nil=>cases hm
 |cons q l ih=>
  obtain⟨h1,h2⟩:=eT.1 h;rcases cW.1 hm with e|hm
  ·subst e;rw[List.filter_cons_of_neg (by simp),filter_none (fun q hq e=>h1 q hq e.symm)];rfl
  ·have eD:q.1≠i:=fun e=>h1 _ hm e
   rw[nJ (by simp[eD]),cq,cq,ih h2 hm]
theorem xB.filter {l:List (Int×Nat)} (h:xB l) (i:Int):xB (l.filter fun p=> !decide (p.1=i)):=List.Pairwise.filter _ h
theorem atKey_mem {l:List (Int×Nat)} {i:Int} {b:Nat} {z:DU} (h:xB l) (hm:(i,b)∈l):(DataW.map (l.map lW)).atKey (.int .i64 i) z= .lit (.int .i64 (b:Int)):=by
 induction l with
 |nil=>cases hm
 |cons q l ih=>
  obtain⟨h1,h2⟩:=eT.1 h;simp only[DataW.atKey,eL];rcases cW.1 hm with e|hm
  ·subst e;rw[List.find?_cons_of_pos (by simp[lW,Lit.sameKey])];rfl
  ·have eD:q.1≠i:=fun e=>h1 _ hm e
   rw[List.find?_cons_of_neg (by simp[lW,Lit.sameKey,eD])];exact ih h2 hm
theorem atKey_none {l:List (Int×Nat)} {i:Int} {z:DU} (h:∀q∈l,q.1≠i):(DataW.map (l.map lW)).atKey (.int .i64 i) z=z:=by
 have:(l.map lW).find? (fun p=>p.1.sameKey (.int .i64 i))=none:=by
  rw[List.find?_eq_none];intro x hx;obtain⟨q,hq,rfl⟩:=cx.1 hx;simp[lW,Lit.sameKey,h q hq]
 simp only[DataW.atKey,this]
end Go.K
namespace Go.Proofs
open Go.Shelf
def Tryz.vS:Go.Shelf.Ren:=⟨fun|7=>54|10=>101|n=>n,fun|23=>89|26=>3|3=>97|28=>115|0=>0|27=>114|33=>104|4=>4|n=>n,fun|n=>n⟩
theorem Tryz.J7:Go.Proofs.SlLaysZI.n7 Tryz.prog Tryz.vS:={
 mixed:=by kernel_rfl
 f7:=⟨Tryz.f54.name,by decide,Tryz.func54.trans (congrArg some (by kernel_rfl))⟩
 f10:=⟨Tryz.f101.name,by decide,Tryz.func101.trans (congrArg some (by kernel_rfl))⟩
 t0:=gX
 a0:=rQ
 z0:=ov
 v0:=iP
 t4:=gY
 a4:=Tryz.isAgg4
 z4:=Tryz.sizeOf4
 v4:=o4
 t23:=cc
 a23:=Tryz.isAgg89
 z23:=Tryz.sizeOf89
 v23:=Tryz.zeroValue89
 t26:=an
 a26:=rR
 z26:=ox
 v26:=iQ
 t27:=Tryz.underlying114
 a27:=Tryz.isAgg114
 z27:=Tryz.sizeOf114
 v27:=Tryz.zeroValue114
 t28:=Tryz.underlying115
 a28:=Tryz.isAgg115
 z28:=Tryz.sizeOf115
 v28:=Tryz.zeroValue115
 t33:=Tryz.underlying104
 a33:=Tryz.isAgg104
 z33:=Tryz.sizeOf104
 v33:=Tryz.zeroValue104}
def Tryz.rb:Go.Shelf.Ren:=⟨fun|6=>53|8=>99|9=>100|11=>152|13=>115|12=>153|23=>172|24=>173|14=>204|15=>205|16=>206|17=>207|18=>208|19=>209|20=>210|21=>211|22=>212|25=>259|26=>218|27=>219|28=>260|29=>261|30=>116|31=>286|n=>n,fun|26=>3|28=>115|24=>37|0=>0|3=>3|37=>189|48=>257|50=>190|4=>4|40=>251|39=>250|45=>202|5=>5|9=>9|51=>296|55=>300|57=>327|58=>328|33=>104|n=>n,fun|n=>n⟩
theorem Tryz.Is:Go.Proofs.SlLaysZI.n6 Tryz.prog Tryz.rb:={
 mixed:=by kernel_rfl
 f6:=⟨Tryz.f53.name,by decide,Tryz.func53.trans (congrArg some (by kernel_rfl))⟩
 f8:=⟨Tryz.f99.name,by decide,Tryz.func99.trans (congrArg some (by kernel_rfl))⟩
 f11:=⟨Tryz.f152.name,by decide,Tryz.func152.trans (congrArg some (by kernel_rfl))⟩
 t0:=gX
 a0:=rQ
 z0:=ov
 v0:=iP
 t24:=ar
 a24:=Tryz.isAgg37
 z24:=Tryz.sizeOf37
 v24:=Tryz.zeroValue37
 t26:=an
 a26:=rR
 z26:=ox
 v26:=iQ
 t28:=Tryz.underlying115
 a28:=Tryz.isAgg115
 z28:=Tryz.sizeOf115
 v28:=Tryz.zeroValue115
 i26:=by kernel_rfl}
def Tryz.DE:Go.Shelf.Ren:=⟨fun|5=>100|8=>115|7=>153|19=>172|20=>173|10=>204|11=>205|12=>206|13=>207|14=>208|15=>209|16=>210|17=>211|18=>212|30=>259|31=>218|32=>219|33=>260|34=>261|35=>116|40=>286|n=>n,fun|23=>37|25=>3|3=>3|32=>189|22=>37|0=>0|44=>257|46=>190|4=>4|36=>251|35=>250|41=>202|5=>5|9=>9|53=>296|57=>300|63=>327|64=>328|n=>n,fun|n=>n⟩
theorem Tryz.J8:Go.Proofs.SlLaysM.n5 Tryz.prog Tryz.DE:={
 mixed:=by kernel_rfl
 f5:=⟨Tryz.f100.name,by decide,Tryz.func100.trans (congrArg some (by kernel_rfl))⟩
 f7:=⟨Tryz.f153.name,by decide,Tryz.func153.trans (congrArg some (by kernel_rfl))⟩
 f8:=Tryz.func115.trans (congrArg some (by kernel_rfl))
 f10:=⟨Tryz.f204.name,by decide,Tryz.func204.trans (congrArg some (by kernel_rfl))⟩
 f11:=⟨Tryz.f205.name,by decide,Tryz.func205.trans (congrArg some (by kernel_rfl))⟩
 f12:=⟨Tryz.f206.name,by decide,Tryz.func206.trans (congrArg some (by kernel_rfl))⟩
 f13:=⟨Tryz.f207.name,by decide,Tryz.func207.trans (congrArg some (by kernel_rfl))⟩
 f14:=⟨Tryz.f208.name,by decide,Tryz.func208.trans (congrArg some (by kernel_rfl))⟩
 f15:=⟨Tryz.f209.name,by decide,Tryz.func209.trans (congrArg some (by kernel_rfl))⟩
 f16:=⟨Tryz.f210.name,by decide,Tryz.func210.trans (congrArg some (by kernel_rfl))⟩
 f17:=⟨Tryz.f211.name,by decide,Tryz.func211.trans (congrArg some (by kernel_rfl))⟩
 f18:=⟨Tryz.f212.name,by decide,Tryz.func212.trans (congrArg some (by kernel_rfl))⟩
 f19:=Tryz.func172.trans (congrArg some (by kernel_rfl))
 f20:=Tryz.func173.trans (congrArg some (by kernel_rfl))
 f30:=⟨Tryz.f259.name,by decide,Tryz.func259.trans (congrArg some (by kernel_rfl))⟩
 f31:=Tryz.func218.trans (congrArg some (by kernel_rfl))
 f32:=Tryz.func219.trans (congrArg some (by kernel_rfl))
 f33:=⟨Tryz.f260.name,by decide,Tryz.func260.trans (congrArg some (by kernel_rfl))⟩
 f34:=⟨Tryz.f261.name,by decide,Tryz.func261.trans (congrArg some (by kernel_rfl))⟩
 f35:=⟨Tryz.f116.name,by decide,Tryz.func116.trans (congrArg some (by kernel_rfl))⟩
 f40:=⟨Tryz.f286.name,by decide,Tryz.func286.trans (congrArg some (by kernel_rfl))⟩
 t0:=gX
 a0:=rQ
 z0:=ov
 v0:=iP
 t3:=an
 a3:=rR
 z3:=ox
 v3:=iQ
 t4:=gY
 a4:=Tryz.isAgg4
 z4:=Tryz.sizeOf4
 v4:=o4
 t5:=cd
 a5:=Tryz.isAgg5
 z5:=Tryz.sizeOf5
 v5:=Tryz.zeroValue5
 t9:=aF
 a9:=rS
 z9:=oy
 v9:=iR
 t22:=ar
 a22:=Tryz.isAgg37
 z22:=Tryz.sizeOf37
 v22:=Tryz.zeroValue37
 t23:=ar
 a23:=Tryz.isAgg37
 z23:=Tryz.sizeOf37
 v23:=Tryz.zeroValue37
 t25:=an
 a25:=rR
 z25:=ox
 v25:=iQ
 t32:=Tryz.underlying189
 a32:=Tryz.isAgg189
 z32:=Tryz.sizeOf189
 v32:=Tryz.zeroValue189
 t35:=Tryz.underlying250
 a35:=Tryz.isAgg250
 z35:=Tryz.sizeOf250
 v35:=Tryz.zeroValue250
 t36:=Tryz.underlying251
 a36:=Tryz.isAgg251
 z36:=Tryz.sizeOf251
 v36:=Tryz.zeroValue251
 t41:=Tryz.underlying202
 a41:=Tryz.isAgg202
 z41:=Tryz.sizeOf202
 v41:=Tryz.zeroValue202
 t44:=Tryz.underlying257
 a44:=Tryz.isAgg257
 z44:=Tryz.sizeOf257
 v44:=Tryz.zeroValue257
 t46:=oz
 a46:=Tryz.isAgg190
 z46:=Tryz.sizeOf190
 v46:=Tryz.zeroValue190
 t53:=Tryz.underlying296
 a53:=Tryz.isAgg296
 z53:=Tryz.sizeOf296
 v53:=Tryz.zeroValue296
 t57:=Tryz.underlying300
 a57:=Tryz.isAgg300
 z57:=Tryz.sizeOf300
 v57:=Tryz.zeroValue300
 t63:=Tryz.underlying327
 a63:=Tryz.isAgg327
 z63:=Tryz.sizeOf327
 v63:=Tryz.zeroValue327
 t64:=Tryz.underlying328
 a64:=Tryz.isAgg328
 z64:=Tryz.sizeOf328
 v64:=Tryz.zeroValue328}
def Tryz.vT:Go.Shelf.Ren:=⟨fun|7=>91|10=>142|n=>n,fun|23=>151|26=>9|3=>80|28=>162|0=>0|27=>161|33=>167|4=>4|n=>n,fun|n=>n⟩
theorem Tryz.CC:Go.Proofs.SlLaysZ.n7 Tryz.prog Tryz.vT:={
 mixed:=by kernel_rfl
 f7:=⟨Tryz.f91.name,by decide,Tryz.func91.trans (congrArg some (by kernel_rfl))⟩
 f10:=⟨Tryz.f142.name,by decide,Tryz.func142.trans (congrArg some (by kernel_rfl))⟩
 t0:=gX
 a0:=rQ
 z0:=ov
 v0:=iP
 t4:=gY
 a4:=Tryz.isAgg4
 z4:=Tryz.sizeOf4
 v4:=o4
 t23:=eu
 a23:=Tryz.isAgg151
 z23:=Tryz.sizeOf151
 v23:=Tryz.zeroValue151
 t26:=aF
 a26:=rS
 z26:=oy
 v26:=iR
 t27:=Tryz.underlying161
 a27:=Tryz.isAgg161
 z27:=Tryz.sizeOf161
 v27:=Tryz.zeroValue161
 t28:=Tryz.underlying162
 a28:=Tryz.isAgg162
 z28:=Tryz.sizeOf162
 v28:=Tryz.zeroValue162
 t33:=Tryz.underlying167
 a33:=Tryz.isAgg167
 z33:=Tryz.sizeOf167
 v33:=Tryz.zeroValue167}
def Tryz.re:Go.Shelf.Ren:=⟨fun|6=>90|8=>140|9=>141|11=>191|13=>115|12=>192|23=>172|24=>173|14=>240|15=>241|16=>242|17=>243|18=>244|19=>245|20=>246|21=>247|22=>248|25=>280|26=>218|27=>219|28=>281|29=>282|30=>283|31=>297|n=>n,fun|26=>9|28=>162|24=>57|0=>0|3=>3|37=>189|48=>257|50=>190|4=>4|40=>251|39=>250|45=>202|5=>5|9=>9|51=>296|55=>300|57=>327|58=>328|33=>167|n=>n,fun|n=>n⟩
theorem Tryz.It:Go.Proofs.SlLaysZ.n6 Tryz.prog Tryz.re:={
 mixed:=by kernel_rfl
 f6:=⟨Tryz.f90.name,by decide,Tryz.func90.trans (congrArg some (by kernel_rfl))⟩
 f8:=⟨Tryz.f140.name,by decide,Tryz.func140.trans (congrArg some (by kernel_rfl))⟩
 f11:=⟨Tryz.f191.name,by decide,Tryz.func191.trans (congrArg some (by kernel_rfl))⟩
 t0:=gX
 a0:=rQ
 z0:=ov
 v0:=iP
 t24:=aV
 a24:=Tryz.isAgg57
 z24:=Tryz.sizeOf57
 v24:=Tryz.zeroValue57
 t26:=aF
 a26:=rS
 z26:=oy
 v26:=iR
 t28:=Tryz.underlying162
 a28:=Tryz.isAgg162
 z28:=Tryz.sizeOf162
 v28:=Tryz.zeroValue162
 i26:=by kernel_rfl}
def Tryz.DF:Go.Shelf.Ren:=⟨fun|6=>141|8=>115|9=>192|19=>172|20=>173|21=>240|22=>241|23=>242|24=>243|25=>244|26=>245|27=>246|28=>247|29=>248|36=>280|31=>218|32=>219|37=>281|38=>282|39=>283|41=>297|n=>n,fun|27=>57|29=>9|3=>3|32=>189|26=>57|0=>0|44=>257|46=>190|4=>4|36=>251|35=>250|41=>202|5=>5|9=>9|53=>296|57=>300|63=>327|64=>328|n=>n,fun|n=>n⟩
theorem Tryz.J9:Go.Proofs.SlLaysM.n6 Tryz.prog Tryz.DF:={
 mixed:=by kernel_rfl
 f6:=⟨Tryz.f141.name,by decide,Tryz.func141.trans (congrArg some (by kernel_rfl))⟩
 f8:=Tryz.func115.trans (congrArg some (by kernel_rfl))
 f9:=⟨Tryz.f192.name,by decide,Tryz.func192.trans (congrArg some (by kernel_rfl))⟩
 f19:=Tryz.func172.trans (congrArg some (by kernel_rfl))
 f20:=Tryz.func173.trans (congrArg some (by kernel_rfl))
 f21:=⟨Tryz.f240.name,by decide,Tryz.func240.trans (congrArg some (by kernel_rfl))⟩
 f22:=⟨Tryz.f241.name,by decide,Tryz.func241.trans (congrArg some (by kernel_rfl))⟩
 f23:=⟨Tryz.f242.name,by decide,Tryz.func242.trans (congrArg some (by kernel_rfl))⟩
 f24:=⟨Tryz.f243.name,by decide,Tryz.func243.trans (congrArg some (by kernel_rfl))⟩
 f25:=⟨Tryz.f244.name,by decide,Tryz.func244.trans (congrArg some (by kernel_rfl))⟩
 f26:=⟨Tryz.f245.name,by decide,Tryz.func245.trans (congrArg some (by kernel_rfl))⟩
 f27:=⟨Tryz.f246.name,by decide,Tryz.func246.trans (congrArg some (by kernel_rfl))⟩
 f28:=⟨Tryz.f247.name,by decide,Tryz.func247.trans (congrArg some (by kernel_rfl))⟩
 f29:=⟨Tryz.f248.name,by decide,Tryz.func248.trans (congrArg some (by kernel_rfl))⟩
 f31:=Tryz.func218.trans (congrArg some (by kernel_rfl))
 f32:=Tryz.func219.trans (congrArg some (by kernel_rfl))
 f36:=⟨Tryz.f280.name,by decide,Tryz.func280.trans (congrArg some (by kernel_rfl))⟩
 f37:=⟨Tryz.f281.name,by decide,Tryz.func281.trans (congrArg some (by kernel_rfl))⟩
 f38:=⟨Tryz.f282.name,by decide,Tryz.func282.trans (congrArg some (by kernel_rfl))⟩
 f39:=⟨Tryz.f283.name,by decide,Tryz.func283.trans (congrArg some (by kernel_rfl))⟩
 f41:=⟨Tryz.f297.name,by decide,Tryz.func297.trans (congrArg some (by kernel_rfl))⟩
 t0:=gX
 a0:=rQ
 z0:=ov
 v0:=iP
 t3:=an
 a3:=rR
 z3:=ox
 v3:=iQ
 t4:=gY
 a4:=Tryz.isAgg4
 z4:=Tryz.sizeOf4
 v4:=o4
 t5:=cd
 a5:=Tryz.isAgg5
 z5:=Tryz.sizeOf5
 v5:=Tryz.zeroValue5
 t9:=aF
 a9:=rS
 z9:=oy
 v9:=iR
 t26:=aV
 a26:=Tryz.isAgg57
 z26:=Tryz.sizeOf57
 v26:=Tryz.zeroValue57
 t27:=aV
 a27:=Tryz.isAgg57
 z27:=Tryz.sizeOf57
 v27:=Tryz.zeroValue57
 t29:=aF
 a29:=rS
 z29:=oy
 v29:=iR
 t32:=Tryz.underlying189
 a32:=Tryz.isAgg189
 z32:=Tryz.sizeOf189
 v32:=Tryz.zeroValue189
 t35:=Tryz.underlying250
 a35:=Tryz.isAgg250
 z35:=Tryz.sizeOf250
 v35:=Tryz.zeroValue250
 t36:=Tryz.underlying251
 a36:=Tryz.isAgg251
 z36:=Tryz.sizeOf251
 v36:=Tryz.zeroValue251
 t41:=Tryz.underlying202
 a41:=Tryz.isAgg202
 z41:=Tryz.sizeOf202
 v41:=Tryz.zeroValue202
 t44:=Tryz.underlying257
 a44:=Tryz.isAgg257
 z44:=Tryz.sizeOf257
 v44:=Tryz.zeroValue257
 t46:=oz
 a46:=Tryz.isAgg190
 z46:=Tryz.sizeOf190
 v46:=Tryz.zeroValue190
 t53:=Tryz.underlying296
 a53:=Tryz.isAgg296
 z53:=Tryz.sizeOf296
 v53:=Tryz.zeroValue296
 t57:=Tryz.underlying300
 a57:=Tryz.isAgg300
 z57:=Tryz.sizeOf300
 v57:=Tryz.zeroValue300
 t63:=Tryz.underlying327
 a63:=Tryz.isAgg327
 z63:=Tryz.sizeOf327
 v63:=Tryz.zeroValue327
 t64:=Tryz.underlying328
 a64:=Tryz.isAgg328
 z64:=Tryz.sizeOf328
 v64:=Tryz.zeroValue328}
end Go.Proofs
namespace Go.K
open Go.Proofs
set_option maxRecDepth 10000
open Go.RowKit Go.Maps Go.Sort Go.Shelf
theorem LL (m:Nat):AnyZI.SortsIn Tryz.prog Tryz.rb Fence.wide m:=
 ⟨fun jw off cap ss W hH hblk jj=>callsIn_wide.2 (AnyM.slices_Sort_int Tryz.J8 jw off cap ss W hH hblk jj),
  fun p cap W=>callsIn_wide.2 (AnyM.slices_Sort_int_none Tryz.J8 p cap W)⟩
theorem A7 (mb:Option Nat) (w:World):Spec Tryz.prog 54 #[.map mb] w (fun v w'=>v= .func (.func 101) #[] #[.pointer (some ⟨w.heap.size,0,none⟩)]∧w'=w.alloc (.cells #[.map mb] 89)):=
 (callsIn_wide (n:=5)).1 ((AnyZI.keys_in Tryz.J7 Fence.wide 5 trivial rfl mb w).mono fun e w' ⟨h1,h2⟩=>⟨_,h1,rfl,h2⟩)
theorem xC {R:Value→Option (DU×List MemPlace)} {M:aD} {w:World} {b bb:Nat} {m:List (Lit×DU)} (h:jn Tryz.prog 3 R M w b m) (yy:w.cell? ⟨bb,0,none⟩=some (.map (some b))) (hl:m.length≤1099511627776):
  Spec Tryz.prog 53 #[.func (.func 101) #[] #[.pointer (some ⟨bb,0,none⟩)]] w (fun v w'=>(∃ss:List Int,ss.Perm (intKeys (DataW.map m))∧w'.ownsRow w.heap.size 3 1 v ss.length ((ss.mergeSort (fun x y=>decide (x≤y))).map encZ)∧(v= .slice none 0 0↔ss=[]))∧Step M w M w' aw):=by
 have LM:SeqGives Fence.wide 2 Tryz.prog 101 #[.pointer (some ⟨bb,0,none⟩)] encZ (fun ss=>ss.Perm (intKeys (DataW.map m))) (Maps.size (DataW.map m)) w:=
  AnyZI.keys_gives (ρ:=Tryz.vS) {Tryz.J7 with} Fence.wide _ trivial rfl (by omega) bb b m.length (DataW.map m) _ (World.block_lt_of_cell? w _ yy) yy h.own
 have jj:Maps.size (DataW.map m)=m.length:=rfl;have cS:=AnyZI.sorted_in Tryz.Is Fence.wide 5 trivial trivial trivial trivial rfl (by omega) (LL _) (enters_of Tryz.func100 (by kernel_rfl) rfl) 101 #[.pointer (some ⟨bb,0,none⟩)] trivial (enters_of Tryz.func101 (by kernel_rfl) rfl) _ _ (by rw[jj];unfold maxLen;omega) (by rw[jj];omega) _ LM;exact(callsIn_wide (n:=5)).1 (cS.mono fun e w' ⟨v,ss,h1,h2,h3,h4,h5⟩=>⟨v,h1,⟨ss,h2,h3,h4⟩,.sL h5 M⟩)
theorem LN (m:Nat):AnyZ.SortsIn Tryz.prog Tryz.re Fence.wide m:=
 ⟨fun jw off cap ss W hH hblk jj=>callsIn_wide.2 (AnyM.slices_Sort_string Tryz.J9 jw off cap ss W hH hblk jj),
  fun p cap W=>callsIn_wide.2 (AnyM.slices_Sort_string_none Tryz.J9 p cap W)⟩
theorem sN (mb:Option Nat) (w:World):Spec Tryz.prog 91 #[.map mb] w (fun v w'=>v= .func (.func 142) #[] #[.pointer (some ⟨w.heap.size,0,none⟩)]∧w'=w.alloc (.cells #[.map mb] 151)):=
 (callsIn_wide (n:=5)).1 ((AnyZ.keys_in Tryz.CC Fence.wide 5 trivial rfl mb w).mono fun e w' ⟨h1,h2⟩=>⟨_,h1,rfl,h2⟩)
theorem px {R:Value→Option (DU×List MemPlace)} {M:aD} {w:World} {b bb:Nat} {m:List (Lit×DU)} (h:jn Tryz.prog 9 R M w b m) (yy:w.cell? ⟨bb,0,none⟩=some (.map (some b))) (hl:m.length≤1099511627776):
  Spec Tryz.prog 90 #[.func (.func 142) #[] #[.pointer (some ⟨bb,0,none⟩)]] w (fun v w'=>(∃ss:List (List UInt8),ss.Perm (strKeys (DataW.map m))∧w'.ownsRow w.heap.size 9 1 v ss.length ((ss.mergeSort (fun x y=>decide (x≤y))).map encStr)∧(v= .slice none 0 0↔ss=[]))∧Step M w M w' aw):=by
 have LM:SeqGives Fence.wide 2 Tryz.prog 142 #[.pointer (some ⟨bb,0,none⟩)] encStr (fun ss=>ss.Perm (strKeys (DataW.map m))) (Maps.size (DataW.map m)) w:=
  AnyZ.keys_gives (ρ:=Tryz.vT) {Tryz.CC with} Fence.wide _ trivial rfl (by omega) bb b m.length (DataW.map m) _ (World.block_lt_of_cell? w _ yy) yy h.own
 have jj:Maps.size (DataW.map m)=m.length:=rfl;have cS:=AnyZ.sorted_in Tryz.It Fence.wide 5 trivial trivial trivial trivial rfl (by omega) (LN _) (enters_of Tryz.func141 (by kernel_rfl) rfl) 142 #[.pointer (some ⟨bb,0,none⟩)] trivial (enters_of Tryz.func142 (by kernel_rfl) rfl) _ _ (by rw[jj];unfold maxLen;omega) (by rw[jj];omega) _ LM;exact(callsIn_wide (n:=5)).1 (cS.mono fun e w' ⟨v,ss,h1,h2,h3,h4,h5⟩=>⟨v,h1,⟨ss,h2,h3,h4⟩,.sL h5 M⟩)
theorem kQ {w w':World} {v:Value} {t:TypeId} (h:w'=w.alloc (.cells #[v] t)):w'.cell? ⟨w.heap.size,0,none⟩=some v:=by
 subst h;exact gT (cu w _) rfl
end Go.K
namespace Go.K
section
variable {P:Program} {r:Option Nat} {n:Nat} {L:Sl} {ds:List Deferred} {w:World} {K:Kt}
def gH (P:Program) (r:Option Nat) (n:Nat) (l:List Oper) (L:Sl) (ds:List Deferred) (wD:World) (K:Kt):Prop:=
 ∀a,fT n a L ds→∃J:(Nat→Prop)→Act→World→Prop,
  (∀(D D':Nat→Prop) a w,J D a w→(∀i,i<l.length→(D' i↔D i))→J D' a w)∧
  (∀(Q:Exit→Act→World→Prop) (D:Nat→Prop) a w j o rest,j<l.length→l[j]? =some o→¬D j→(∀k∈bX o,D k)→(∀i o,l[i]? =some o→D i→∀k∈bX o,D k)→J D a w→(∀a' w',J (fun i=>i=j∨D i) a' w'→wpOpsIn (FW r) 0 P l.toArray Q rest a' w')→wpOpsIn (FW r) 0 P l.toArray Q (j::rest) a w)∧
  (∀a w,J (fun i=>i<l.length) a w→up n K .normal a w)∧J (fun _=>False) a wD
theorem gH.t {id:Nat} {l:List Oper} (hm:P.follows .mixedOrders=true) (cy:dN l 0=true) (h:∀wD,(∀M,Step M w M wD aw)→gH P r n l L ds wD K):T P r n (.region id l.toArray true) L ds w K:=by
 refine⟨fun a ha=>wpIn_region_draw fun t=>?_⟩;simp only[Region.schedule,hm,Bool.true_or,if_true,Region.linearise];obtain⟨J,h1,h2,h3,h4⟩:=h _ (lP w) a ha;refine lO (J:=J) cy (fun {D D' a w} hi hD=>h1 D D' a w hi hD) (fun {D a' w' j o rest} hj ho mP hp ky hi hk=>h2 _ _ _ _ _ _ _ hj ho mP hp ky hi hk) h3 _ t _ a _ (by simp) (by simp[List.countP_replicate]) (fun i o h1 h2=>?_) (h1 _ _ _ _ h4 fun i _=>?_)
 ·simp[Array.getElem?_replicate]at h2
 ·simp[Array.getElem?_replicate]
theorem y2 {l:List Oper} {wd:World} (m:Nat) (fl:List Nat) (c:Nat) (N:aD) (qb:Nat.blt m l.length=true) (cy:dN l 0=true) (nL:jf l m=true) (Dh:jX l m fl c=true)
  (h:kn P r n l.toArray (l.take m) L ds wd (fun L'=>(∀j o,j∈fl→l[j]? =some o→bI P N wd L' o)∧qh P r n l.toArray N wd K c (l.drop m) L' ds wd)):gH P r n l L ds wd K:=by
 intro a ha;have vF:m<l.length:=by simpa[Nat.blt_eq]using qb
 have ga:∀j,j<m→(l.take m)[j]? =l[j]? :=fun j hj=>by rw[dm,if_pos hj]
 obtain⟨am,Lm,vs,vH,hA,hF,hT⟩:=h.trace (fun o ho=>by
  obtain⟨j,hj⟩:=bR.1 ho
  have yx:j<m:=by
   have:=(au.1 hj).1;rw[bS]at this;omega
  exact(jk nL yx (by rw[←ga j yx];exact hj)).1) ha
 obtain⟨st,h0,hl,iI⟩:=vH.xr;have hlen:(l.take m).length=m:=by rw[bS];omega
 rw[hlen]at hl;have rC:∀j o,j<m→l[j]? =some o→∃v,vs[j]? =some v∧One P r l.toArray wd o (st j) v∧st (j+1)=(st j).put o.dst v:=fun j o hj ho=>iI j o (by rw[ga j hj];exact ho)
 have jA:∀i,i<m→∃v,vs[i]? =some v:=fun i hi=>by
  obtain⟨v,hv,_⟩:=rC i l[i] hi (aK (by omega));exact⟨v,hv⟩
 have Dt:=k9 cy h0 rC;have Cy:=Dt m (aZ _) (by omega);rw[hl]at Cy
 refine⟨fun D a' w'=>∃p ac Lp,GJ P r n l m fl c N K ds a am wd D a' w' p ac Lp,fun D D' a' w' ⟨p,ac,Lp,hi⟩ hD=>⟨p,ac,Lp,hi.p0,hi.p1,fun i h3 h4=>(hD i h4).trans (hi.dt i h3 h4),fun h i h3 h4=>(hD i (by omega)).2 (hi.df h i h3 h4),hi.ag,hi.tr,hi.bB,fun h i h3=>(hD i (by omega)).2 (hi.da h i h3),hi.wm,hi.defers,hi.size,hi.sizec,fun t ht=>hi.done t fun i o h3 h4 h5=>(hD i (by omega)).1 (ht i o h3 h4 h5),fun i o t h3 h4 h5 h6=>hi.pend i o t h3 h4 h5 (fun h=>h6 ((hD i (by omega)).2 h)),hi.cm⟩,
  fun Q D a' w' j o rest hj ho mP hp ky hi hk=>GJ.next cy nL Dh vF jA (fun j o hj ho=>by obtain⟨v,h1,h2,_⟩:=rC j o hj ho;exact⟨v,h1,h2⟩) (fun j hj=>Dt j (by omega) (by omega)) Cy hA hF ho mP hp ky hi hk,fun a' w' hJ=>?_,⟨m,am,Lm,aZ _,by omega,fun i h3 h4=>?_,fun h=>by omega,hA,by rw[Nat.add_sub_cancel];exact hT,fun _=>iw _ _,fun h=>by omega,fun _=>rfl,ha.defers,rfl,Cy.size,fun t ht=>?_,fun i o t _ _ _ _=>rfl,fun t _=>rfl⟩⟩
 ·obtain⟨p,ac,Lp,hi⟩:=hJ
  have sr:p=l.length:=by
   rcases ec p l.length with h3|h3
   ·have:=(hi.dt p hi.p0 h3).1 h3;omega
   ·have:=hi.p1;omega
  have vH:=hi.tr;rw[sr,dL (aZ _)]at vH;refine⟨Lp,ds,⟨?_,hi.defers,fun t v ht=>?_⟩,vH⟩
  ·rw[hi.size];exact ha.size
  ·rw[hi.done t fun i o h3 h4 _=>by omega];exact hi.ag.at_ t v ht
 ·exact⟨False.elim,fun h=>by omega⟩
 ·rw[Cy.base t fun i o h3 h4 _ h5=>(ht i o h3 h4 h5)]
def qq (π:List Nat) (o:Oper):Oper:=⟨o.dst,o.op,o.type,o.pos,o.after.map fun e=>{e with on:=π.idxOf e.on},o.guard.map fun g=>(π.idxOf g.1,g.2)⟩
def vU (π:List Nat) (l:List Oper):List Oper:=π.map fun i=>qq π (l.getD i default)
def j4 (π:List Nat) (k:Nat):Bool:=π.length==k&&π.all (Nat.blt · k)&&(List.range k).all (π.contains ·)&&(List.range k).all fun i=>π.idxOf (π.getD i 0)==i
theorem lX {π:List Nat} {k:Nat} (h:j4 π k=true):π.length=k∧(∀(i j:Nat),π[i]? =some j→j<k)∧(∀j,j<k→π[π.idxOf j]? =some j)∧(∀(i j:Nat),π[i]? =some j→π.idxOf j=i)∧(∀j,k≤j→π.idxOf j=k):=by
 simp only[j4,bD,beq_iff_eq,dR,Nat.blt_eq,List.mem_range,fJ]at h;obtain⟨⟨⟨h1,h2⟩,h3⟩,h4⟩:=h;refine⟨h1,fun i j gy=>h2 j (aN gy),fun j hj=>?_,fun i j gy=>?_,fun j hj=>?_⟩
 ·have dA:=List.idxOf_lt_length_of_mem (h3 j hj);rw[aK dA,List.getElem_idxOf dA]
 ·have hi:i<k:=by have:=(au.1 gy).1;omega
  have:=h4 i hi
  rwa [bH,gy,Option.getD_some]at this
 ·rw[List.idxOf_eq_length (fun hm=>by have:=h2 j hm;omega),h1]
theorem xD {π:List Nat} {l:List Oper} (hπ:j4 π l.length=true) {j:Nat} {o:Oper} (ho:l[j]? =some o):(vU π l)[π.idxOf j]? =some (qq π o):=by
 obtain⟨_,_,h3,_⟩:=lX hπ;have hj:=(au.1 ho).1;simp only[vU,dZ,h3 j hj,ek,bH,ho,Option.getD_some]
theorem Iu {π:List Nat} {l:List Oper} (hπ:j4 π l.length=true) {i:Nat} {o':Oper} (ho:(vU π l)[i]? =some o'):∃j o,π[i]? =some j∧l[j]? =some o∧o'=qq π o:=by
 obtain⟨_,h2,_⟩:=lX hπ;simp only[vU,dZ,oA]at ho;obtain⟨j,hj,rfl⟩:=ho;refine⟨j,_,hj,aK (h2 i j hj),?_⟩;rw[bH,aK (h2 i j hj),Option.getD_some]
theorem sO (π:List Nat) (o:Oper):bX (qq π o)=(bX o).map π.idxOf:=by
 simp only[bX,qq,Array.toList_map,List.filter_map,List.map_map];rfl
theorem y3 {π:List Nat} {l:List Oper} (hπ:j4 π l.length=true) (tmps:Array Value) (j:Nat):yielded (vU π l).toArray tmps (π.idxOf j)=yielded l.toArray tmps j:=by
 unfold yielded
 have:((vU π l).toArray[π.idxOf j]?).bind (·.dst)=(l.toArray[j]?).bind (·.dst):=by
  simp only[gM]
  cases ho:l[j]? with
  |some o=>rw[xD hπ ho];rfl
  |none=>
   have hj:l.length≤j:=List.getElem?_eq_none_iff.1 ho;obtain⟨h1,_,_,_,h5⟩:=lX hπ;rw[h5 j hj,eH (by simp[vU,h1])]
 rw[this]
theorem A8 {π:List Nat} {l:List Oper} (hπ:j4 π l.length=true) (tmps:Array Value) (o:Oper):Region.wanted (qq π o) (yielded (vU π l).toArray tmps)=Region.wanted o (yielded l.toArray tmps):=by
 unfold Region.wanted qq
 cases o.guard with
 |none=>rfl
 |some g=>simp only[ek,y3 hπ]
theorem Iv {π:List Nat} {l:List Oper} (hπ:j4 π l.length=true) {Q:Exit→Act→World→Prop} {j:Nat} {o:Oper} {rest:List Nat} {a:Act} (ho:l[j]? =some o)
  (h:wpOpsIn (FW r) 0 P (vU π l).toArray (fun e a w=>match e with| .normal=>wpOpsIn (FW r) 0 P l.toArray Q rest a w|e=>Q e a w) [π.idxOf j] a w):wpOpsIn (FW r) 0 P l.toArray Q (j::rest) a w:=by
 simp only[wpOpsIn,gM,ho,xD hπ ho,A8 hπ]at h ⊢
 split at h
 ·rename_i hw
  rw[if_pos hw];refine⟨h.1,?_⟩;have h2:=h.2;rw[show Oper.semAt (FW r).round a.eval (qq π o)=Oper.semAt (FW r).round a.eval o from rfl]at h2;generalize (Oper.semAt (FW r).round a.eval o).run P w=res at h2 ⊢
  cases res with
  |ok nx w'=>
   cases nx with
   |enter f args=>exact⟨h2.1,h2.2.mono fun e si he=>by cases e<;>exact he⟩
   |round l f tmps oI body=>exact⟨h2.1,h2.2.mono fun e si he=>by cases e<;>exact he⟩
   |_=>exact h2
  |halt x w'=>cases x<;>exact h2
 ·rename_i hw
  rw[if_neg hw];exact⟨h.1,h.2⟩
theorem gH.perm {l:List Oper} {wd:World} (π:List Nat) (hπ:j4 π l.length=true) (cy:dN l 0=true) (h:gH P r n (vU π l) L ds wd K):gH P r n l L ds wd K:=by
 intro a ha;obtain⟨J,h1,h2,h3,h4⟩:=h a ha;obtain⟨p1,p2,p3,p4,_⟩:=lX hπ;have hlen:(vU π l).length=l.length:=by simp[vU,p1]
 refine⟨fun D a w=>J (fun i=>∃j,π[i]? =some j∧D j) a w,fun D D' a w hJ hD=>h1 _ _ _ _ hJ fun i _=>⟨fun⟨j,hj,h⟩=>⟨j,hj,(hD j (p2 i j hj)).1 h⟩,fun⟨j,hj,h⟩=>⟨j,hj,(hD j (p2 i j hj)).2 h⟩⟩,fun Q D a w j o rest hj ho mP hp ky hJ hk=>?_,fun a w hJ=>h3 _ _ (h1 _ _ _ _ hJ fun i hi=>?_),h1 _ _ _ _ h4 fun i _=>⟨fun⟨j,_,h⟩=>h,False.elim⟩⟩
 ·refine Iv hπ ho (h2 _ _ _ _ _ _ _ (by rw[hlen,←p1];exact(au.1 (p3 j hj)).1) (xD hπ ho) ?_ ?_ ?_ hJ fun a' w' H4=>hk _ _ (h1 _ _ _ _ H4 fun i hi=>?_))
  ·rintro⟨k,pZ,Dp⟩;rw[p3 j hj]at pZ
   cases pZ;exact mP Dp
  ·intro k' sm;rw[sO,cx]at sm;obtain⟨k,pZ,rfl⟩:=sm;have:=ch cy j o ho k pZ;exact⟨k,p3 k (by omega),hp k pZ⟩
  ·rintro i o' gq ⟨k,pZ,Dp⟩ k' sm;obtain⟨k2,ok,h5,h6,rfl⟩:=Iu hπ gq;rw[h5]at pZ;cases pZ;rw[sO,cx]at sm;obtain⟨q,Lw,rfl⟩:=sm;have:=ch cy k ok h6 q Lw;have:=p2 i k h5;exact⟨q,p3 q (by omega),ky k ok h6 Dp q Lw⟩
  ·constructor
   ·rintro⟨k,pZ,h|h⟩
    ·subst h;exact .inl (p4 i k pZ).symm
    ·exact .inr ⟨k,pZ,h⟩
   ·rintro(h|⟨k,pZ,h⟩)
    ·subst h;exact⟨j,p3 j hj,.inl rfl⟩
    ·exact⟨k,pZ,.inr h⟩
 ·rw[hlen]at hi;have hp:π[i]? =some (π[i]'(by omega)):=aK _;exact⟨fun _=>⟨_,hp,p2 i _ hp⟩,fun _=>by omega⟩
theorem T.Fh {id:Nat} {l l':List Oper} (π:List Nat) (m:Nat) (fl:List Nat) (c:Nat) (N:aD) (hm:P.follows .mixedOrders=true) (Fi:vU π l=l') (rf:dN l 0=true) (hπ:j4 π l.length=true) (qb:Nat.blt m l'.length=true) (cy:dN l' 0=true) (nL:jf l' m=true) (Dh:jX l' m fl c=true)
  (h:∀wD,(∀M,Step M w M wD aw)→kn P r n l'.toArray (l'.take m) L ds wD (fun L'=>(∀j o,j∈fl→l'[j]? =some o→bI P N wD L' o)∧qh P r n l'.toArray N wD K c (l'.drop m) L' ds wD)):T P r n (.region id l.toArray true) L ds w K:=by
 subst Fi;exact gH.t hm rf fun wD hD=> .perm π hπ rf (y2 m fl c N qb cy nL Dh (h wD hD))
end
end Go.K
namespace Go.K
def allM:aD:=fun _=>True
theorem Step.all {M M' N:aD} {w w':World} (s:Step M w M' w' N):Step allM w allM w' N:=⟨fun h=>absurd (h w.heap.size trivial) (mB _),s.os,s.tape,s.output,s.size,fun _ _=>Iff.rfl,s.same,fun _ _=>trivial⟩
theorem Step.toAny {M M':aD} {w w':World} (s:Step M w M' w' aw) (M1:aD):Step M1 w M1 w' aw:=s.any M1
theorem jn.all {P:Program} {k:TypeId} {R:Value→Option (DU×List MemPlace)} {M:aD} {w:World} {b:Nat} {m:List (Lit×DU)} (h:jn P k R M w b m):jn P k R allM w b m:=⟨trivial,h.own⟩
theorem eB.int {κ:IntKind} {M M':aD} {w w':World}:∀{xs:List Int} {C:List Value},eB (RT.int κ) M w xs C→eB (RT.int κ) M' w' xs C
 |[],_,h=>h
 |x::xs,C,h=>by
  obtain⟨vs,r,h1,h2,h3⟩:=h;exact⟨vs,r,h1,h2,eB.int h3⟩
theorem Own.Fj {κ:IntKind} {e:TypeId} {M:aD} {w:World} {base:Nat} {v:Value} {xs:List Int} (h:Own (RT.int κ) e M w base v xs) {M':aD} (hm:∀b,v.ownBlock=some b→M' b):Own (RT.int κ) e M' w base v xs:=by
 obtain⟨⟨C,h1,h2⟩,_⟩:=h;exact⟨⟨C,h1,eB.int h2⟩,hm⟩
theorem Own.vV {κ:IntKind} {e:TypeId} {N:aD} {w w':World} {base:Nat} {v:Value} {xs:List Int} (h:Own (RT.int κ) e allM w base v xs) (s:Step allM w allM w' N) (hn:∀b,v.ownBlock=some b→¬N b):Own (RT.int κ) e allM w' base v xs:=by
 obtain⟨⟨C,h1,h2⟩,_⟩:=h;refine⟨⟨C,⟨h1.1,?_⟩,eB.int h2⟩,fun _ _=>trivial⟩;rcases h1.2 with h3|⟨g,cap,cur,h3,h4,h5,h6,h7,h8⟩
 ·exact .inl h3
 ·exact .inr ⟨g,cap,cur,h3,h4,by rw[s.same g (aj h5) (hn g (by rw[h3];rfl))];exact h5,h6,h7,h8⟩
def jo (v:Value):aD:=fun b=>v.ownBlock=some b
theorem Own.lone {κ:IntKind} {e:TypeId} {M:aD} {w:World} {base:Nat} {v:Value} {xs:List Int} (h:Own (RT.int κ) e M w base v xs):Own (RT.int κ) e (jo v) w base v xs:=h.Fj fun _ h=>h
theorem Le.none {M:aD} {w:World}:Le M w aw w:=fun b _ hm=>⟨fun h=>h,rfl⟩
end Go.K
namespace Go.K
open Go.Proofs
theorem I3:TI Tryz.prog 3 (.int .i64 0) 1 8:=by unfold TI;kernel_rfl
theorem I5:TI Tryz.prog 5 (.int .u8 0) 1 1:=by unfold TI;kernel_rfl
theorem I9:TI Tryz.prog 9 (.string ⟨#[]⟩) 1 16:=by unfold TI;kernel_rfl
theorem Tt:TI Tryz.prog 26 (.int .i64 0) 1 8:=by unfold TI;kernel_rfl
theorem lI:TI Tryz.prog 37 (.slice none 0 0) 1 24:=by unfold TI;kernel_rfl
theorem CD:TI Tryz.prog 57 (.slice none 0 0) 1 24:=by unfold TI;kernel_rfl
theorem qt:TI Tryz.prog 67 (.slice none 0 0) 1 24:=by unfold TI;kernel_rfl
theorem lY:TI Tryz.prog 69 (.agg #[(.int .i64 0),(.slice none 0 0)]) 2 32:=by unfold TI;kernel_rfl
theorem CE:TI Tryz.prog 71 (.agg #[(.int .i64 0),(.slice none 0 0),(.int .i64 0)]) 3 40:=by unfold TI;kernel_rfl
theorem sT:TI Tryz.prog 78 (.agg #[(.string ⟨#[]⟩),(.string ⟨#[]⟩)]) 2 32:=by unfold TI;kernel_rfl
theorem ni:TI Tryz.prog 83 (.agg #[(.int .i64 0),(.slice none 0 0)]) 2 32:=by unfold TI;kernel_rfl
theorem oN:TI Tryz.prog 142 (.pointer none) 1 8:=by unfold TI;kernel_rfl
theorem UJ:TI Tryz.prog 155 (.slice none 0 0) 1 24:=by unfold TI;kernel_rfl
theorem iL:TI Tryz.prog 166 (.agg #[(.string ⟨#[]⟩),(.string ⟨#[]⟩)]) 2 32:=by unfold TI;kernel_rfl
theorem y4:TI Tryz.prog 204 (.slice none 0 0) 1 24:=by unfold TI;kernel_rfl
theorem A9:TI Tryz.prog 205 (.slice none 0 0) 1 24:=by unfold TI;kernel_rfl
theorem UK:TI Tryz.prog 207 (.agg #[(.slice none 0 0),(.slice none 0 0),(.int .i64 0)]) 3 56:=by unfold TI;kernel_rfl
theorem uH:TI Tryz.prog 209 (.agg #[(.int .i64 0),(.int .i64 0),(.int .i64 0),(.int .i64 0)]) 4 32:=by unfold TI;kernel_rfl
theorem DG:TI Tryz.prog 266 (.agg #[(.string ⟨#[]⟩),(.int .i64 0)]) 2 24:=by unfold TI;kernel_rfl
theorem UL:TI Tryz.prog 336 (.agg #[(.pointer none),(.slice none 0 0)]) 2 32:=by unfold TI;kernel_rfl
theorem Tu:placesOf Tryz.prog 69=[(0,1),(1,1)].map some:=by kernel_rfl
theorem ZU:placesOf Tryz.prog 71=[(0,2),(2,1)].map some:=by kernel_rfl
theorem B78:placesOf Tryz.prog 78=[(0,1),(1,1)].map some:=by kernel_rfl
theorem Tv:placesOf Tryz.prog 83=[(0,1),(1,1)].map some:=by kernel_rfl
theorem UM:placesOf Tryz.prog 207=[(0,1),(1,1),(2,1)].map some:=by kernel_rfl
theorem UN:placesOf Tryz.prog 209=[(0,1),(1,1),(2,1),(3,1)].map some:=by kernel_rfl
theorem PH:placesOf Tryz.prog 266=[(0,1),(1,1)].map some:=by kernel_rfl
theorem mixed:Tryz.prog.follows .mixedOrders=true:=by kernel_rfl
theorem E44:Enters Tryz.prog 44:=enters Tryz.func44 rfl (by decide)
theorem Tx:Enters Tryz.prog 80:=enters Tryz.func80 rfl (by decide)
theorem ZV:Enters Tryz.prog 93:=enters Tryz.func93 rfl (by decide)
theorem ZW:Enters Tryz.prog 94:=enters Tryz.func94 rfl (by decide)
theorem UO:Enters Tryz.prog 128:=enters Tryz.func128 rfl (by decide)
theorem UP:Enters Tryz.prog 129:=enters Tryz.func129 rfl (by decide)
theorem UQ:Enters Tryz.prog 130:=enters Tryz.func130 rfl (by decide)
theorem UR:Enters Tryz.prog 131:=enters Tryz.func131 rfl (by decide)
theorem PI:Enters Tryz.prog 132:=enters Tryz.func132 rfl (by decide)
theorem US:Enters Tryz.prog 136:=enters Tryz.func136 rfl (by decide)
theorem UT:Enters Tryz.prog 137:=enters Tryz.func137 rfl (by decide)
theorem UU:Enters Tryz.prog 138:=enters Tryz.func138 rfl (by decide)
theorem UW:Enters Tryz.prog 139:=enters Tryz.func139 rfl (by decide)
theorem UX:Enters Tryz.prog 148:=enters Tryz.func148 rfl (by decide)
theorem PJ:Enters Tryz.prog 183:=enters Tryz.func183 rfl (by decide)
theorem UY:Enters Tryz.prog 184:=enters Tryz.func184 rfl (by decide)
theorem UZ:Enters Tryz.prog 185:=enters Tryz.func185 rfl (by decide)
theorem U0:Enters Tryz.prog 186:=enters Tryz.func186 rfl (by decide)
theorem U1:Enters Tryz.prog 187:=enters Tryz.func187 rfl (by decide)
theorem U2:Enters Tryz.prog 188:=enters Tryz.func188 rfl (by decide)
theorem U3:Enters Tryz.prog 190:=enters Tryz.func190 rfl (by decide)
theorem U4:Enters Tryz.prog 193:=enters Tryz.func193 rfl (by decide)
theorem U5:Enters Tryz.prog 194:=enters Tryz.func194 rfl (by decide)
theorem LO:Enters Tryz.prog 195:=enters Tryz.func195 rfl (by decide)
theorem U6:Enters Tryz.prog 196:=enters Tryz.func196 rfl (by decide)
theorem U7:Enters Tryz.prog 201:=enters Tryz.func201 rfl (by decide)
theorem PK:Enters Tryz.prog 222:=enters Tryz.func222 rfl (by decide)
theorem U8:Enters Tryz.prog 223:=enters Tryz.func223 rfl (by decide)
theorem PL:Enters Tryz.prog 224:=enters Tryz.func224 rfl (by decide)
theorem U9:Enters Tryz.prog 225:=enters Tryz.func225 rfl (by decide)
theorem Va:Enters Tryz.prog 226:=enters Tryz.func226 rfl (by decide)
theorem PM:Enters Tryz.prog 227:=enters Tryz.func227 rfl (by decide)
theorem Vb:Enters Tryz.prog 228:=enters Tryz.func228 rfl (by decide)
theorem Vc:Enters Tryz.prog 229:=enters Tryz.func229 rfl (by decide)
theorem Vd:Enters Tryz.prog 237:=enters Tryz.func237 rfl (by decide)
theorem Ve:Enters Tryz.prog 249:=enters Tryz.func249 rfl (by decide)
theorem Vf:Enters Tryz.prog 250:=enters Tryz.func250 rfl (by decide)
theorem Vg:Enters Tryz.prog 251:=enters Tryz.func251 rfl (by decide)
theorem PN:Enters Tryz.prog 252:=enters Tryz.func252 rfl (by decide)
theorem Vh:Enters Tryz.prog 253:=enters Tryz.func253 rfl (by decide)
theorem PO:Enters Tryz.prog 254:=enters Tryz.func254 rfl (by decide)
theorem PQ:Enters Tryz.prog 263:=enters Tryz.func263 rfl (by decide)
theorem Vi:Enters Tryz.prog 264:=enters Tryz.func264 rfl (by decide)
theorem Vj:Enters Tryz.prog 265:=enters Tryz.func265 rfl (by decide)
theorem Vk:Enters Tryz.prog 266:=enters Tryz.func266 rfl (by decide)
theorem Vl:Enters Tryz.prog 267:=enters Tryz.func267 rfl (by decide)
theorem Vm:Enters Tryz.prog 284:=enters Tryz.func284 rfl (by decide)
theorem Vn:Enters Tryz.prog 285:=enters Tryz.func285 rfl (by decide)
theorem PR:Enters Tryz.prog 287:=enters Tryz.func287 rfl (by decide)
theorem Vo:Enters Tryz.prog 290:=enters Tryz.func290 rfl (by decide)
end Go.K
namespace Go.K
open Go.Proofs
namespace TKEmpty16
theorem xE:TI Tryz.prog 151 (.map none) 1 8:=by unfold TI;kernel_rfl
theorem LP:TI Tryz.prog 153 (.agg #[(.slice none 0 0),(.map none),(.int .i64 0),(.int .i64 0)]) 4 48:=by unfold TI;kernel_rfl
theorem LQ:TI Tryz.prog 198 (.agg #[(.slice none 0 0),(.slice none 0 0)]) 2 48:=by unfold TI;kernel_rfl
theorem LR:placesOf Tryz.prog 153=[(0,1),(1,1),(2,1),(3,1)].map some:=by kernel_rfl
theorem LS:placesOf Tryz.prog 198=[(0,1),(1,1)].map some:=by kernel_rfl
theorem Vp:Enters Tryz.prog 90:=enters Tryz.func90 rfl (by decide)
theorem Vq:Enters Tryz.prog 91:=enters Tryz.func91 rfl (by decide)
theorem LU:Enters Tryz.prog 197:=enters Tryz.func197 rfl (by decide)
theorem LV:Enters Tryz.prog 198:=enters Tryz.func198 rfl (by decide)
theorem LW:Enters Tryz.prog 199:=enters Tryz.func199 rfl (by decide)
theorem LX:Enters Tryz.prog 200:=enters Tryz.func200 rfl (by decide)
end TKEmpty16
open TKEmpty16
set_option maxRecDepth 10000
theorem oO (w0:World):
  Spec Tryz.prog 51 #[.slice none 0 0] w0 (fun v w=>v= .slice none 0 0∧w=w0):=by
 refine aR (args:=[_]) (fn:=Tryz.f51) Tryz.func51 rfl (n:=8) Tryz.ntmps51 (ai (ad (ah rfl rfl (ab (ai (ai (ad (ae rfl rfl (Rg.kC ar rfl rfl rfl (ab (T.EO rfl (rfl) ?_)))))))))));refine ai (ad (ah rfl rfl (ab (aI ?_))));exact aO rfl rfl ⟨rfl,rfl⟩
theorem Ba (w0:World):
  Spec Tryz.prog 199 #[.slice none 0 0] w0 (fun v w=>v= .slice none 0 0∧w=w0):=by
 refine aR (args:=[_]) (fn:=Tryz.f199) Tryz.func199 rfl (n:=8) Tryz.ntmps199 (ai (ad (ah rfl rfl (ab (ai (ai (ad (ae rfl rfl (Rg.kC aV rfl rfl rfl (ab (T.EO rfl (rfl) ?_)))))))))));refine ai (ad (ah rfl rfl (ab (aI ?_))));exact aO rfl rfl ⟨rfl,rfl⟩
theorem Bb (w0:World):
  Spec Tryz.prog 200 #[.slice none 0 0] w0 (fun v w=>v= .slice none 0 0∧w=w0):=by
 refine aR (args:=[_]) (fn:=Tryz.f200) Tryz.func200 rfl (n:=8) Tryz.ntmps200 (ai (ad (ah rfl rfl (ab (ai (ai (ad (ae rfl rfl (Rg.kC cZ rfl rfl rfl (ab (T.EO rfl (rfl) ?_)))))))))));refine ai (ad (ah rfl rfl (ab (aI ?_))));exact aO rfl rfl ⟨rfl,rfl⟩
theorem Fk (w0:World):
  Spec Tryz.prog 143 #[.slice none 0 0] w0 (fun v w=>v= .bool true∧w=w0):=by
 refine aR (args:=[_]) (fn:=Tryz.f143) Tryz.func143 rfl (n:=28) Tryz.ntmps143 (ai (ad (ah rfl rfl (ab (ai (ai (ad (ae rfl rfl (bM ar rfl (A:=RT.int .i64) (hn:=by decide) (M:=aw) (w1:=w0) (xs:=[]) fZ rfl (ae rfl rfl (ab ?_)))))))))));refine a7 ?_;refine dd (σ:=Unit) (fun _=>[(5,.slice none 0 0),(6,.int .i64 0),(7,.int .i64 0)]) (fun _ w=>w=w0) (fun _=>0) () (.cons rfl (.cons rfl (.cons rfl .nil))) ?_ ?_
 ·rfl
 ·rintro _ w rfl;refine ai (ad (bY rfl rfl rfl (ab (ai (mC rfl ((by decide)) (cB (ai (ad (ah rfl rfl (ab (aI ?_)))))))))));exact aO rfl rfl ⟨rfl,rfl⟩
theorem DH (w0:World):
  Spec Tryz.prog 198 #[.slice none 0 0] w0 (fun v w=>v= .bool true∧w=w0):=by
 refine aR (args:=[_]) (fn:=Tryz.f198) Tryz.func198 rfl (n:=24) Tryz.ntmps198 (ai (ad (ah rfl rfl (ab (ai (ai (ad (ae rfl rfl (bM aV rfl (A:=RT.str) (hn:=by decide) (M:=aw) (w1:=w0) (xs:=[]) fZ rfl (ae rfl rfl (ab ?_)))))))))));refine a7 ?_;refine dd (σ:=Unit) (fun _=>[(5,.slice none 0 0),(6,.int .i64 0),(7,.int .i64 0)]) (fun _ w=>w=w0) (fun _=>0) () (.cons rfl (.cons rfl (.cons rfl .nil))) ?_ ?_
 ·rfl
 ·rintro _ w rfl;refine ai (ad (bY rfl rfl rfl (ab (ai (mC rfl ((by decide)) (cB (ai (ad (ah rfl rfl (ab (aI ?_)))))))))));exact aO rfl rfl ⟨rfl,rfl⟩
theorem DI (g:Value) (w0:World):
  Spec Tryz.prog 197 #[.slice none 0 0,g] w0 (fun v w=>v= .int .i64 (-1)∧w=w0):=by
 refine aR (args:=[_,_]) (fn:=Tryz.f197) Tryz.func197 rfl (n:=19) Tryz.ntmps197 (ai (ad (ah rfl rfl (ab (ai (ai (ad (ae rfl rfl (bM k4 rfl (A:=(RT.po).sl) (hn:=by decide) (M:=aw) (w1:=w0) (xs:=[]) fZ rfl (ae rfl rfl (ab ?_)))))))))));refine a7 ?_;refine dd (σ:=Unit) (fun _=>[(6,.slice none 0 0),(7,.int .i64 0),(8,.int .i64 0)]) (fun _ w=>w=w0) (fun _=>0) () (.cons rfl (.cons rfl (.cons rfl .nil))) ?_ ?_
 ·rfl
 ·rintro _ w rfl;refine ai (ad (bY rfl rfl rfl (ab (ai (mC rfl ((by decide)) (cB (ai (ad (ah rfl rfl (ab (aI ?_)))))))))));exact aO rfl rfl ⟨rfl,rfl⟩
theorem contains_nil (g:Value) (w0:World):
  Spec Tryz.prog 146 #[.slice none 0 0,g] w0 (fun v w=>v= .bool false∧w=w0):=by
 refine aR (args:=[_,_]) (fn:=Tryz.f146) Tryz.func146 rfl (n:=9) Tryz.ntmps146 (ai (ad (ah rfl rfl (ab (ai (ad (ae rfl rfl (ae rfl rfl ?_))))))));refine aJ rfl rfl LU (DI _ _) (fun r wc hc=>?_);obtain⟨rfl,rfl⟩:=hc;refine dh rfl rfl rfl (ah rfl rfl (ab (aI ?_)));exact aO rfl rfl ⟨by simp,rfl⟩
def Fl (w:World) (b:Nat):Prop:=∃mb,w.heap[b]? =some (.cells #[.slice none 0 0,.map (some mb),.int .i64 0,.int .i64 (-1)] 153 (0,0))∧jn Tryz.prog 9 ng allM w mb []
theorem Fl.aW {w w':World} {b:Nat} (h:Fl w b) (s:Step allM w allM w' aw):Fl w' b:=by
 obtain⟨mb,h1,h2⟩:=h;exact⟨mb,s.aE h1,h2.aW s⟩
theorem y5 (w0:World):
  Spec Tryz.prog 39 #[] w0 (fun v w=>∃b,v= .pointer (some ⟨b,0,none⟩)∧Fl w b∧Step allM w0 allM w aw∧w0.heap.size≤b):=by
 refine aR (args:=[]) (fn:=Tryz.f39) Tryz.func39 rfl (n:=4) Tryz.ntmps39 ?_;have S:Step allM w0 allM w0 aw:=(al _ _).bN (fun _ h=>h.elim) (fun _ _=>trivial);refine ai (ad (ah rfl rfl (ab (ai (ad ?_)))));refine Rg.makeMap allM eu rfl ng (fun mb w1 p1 q1 hm s1=>?_);replace s1:=s1.all;replace hm:=hm.all;have:=S.size;replace S:=S.ax s1;refine dO (places:=[(0,1),(1,1),(2,1),(3,1)]) cE LP LR rfl ⟨_,_,rfl,rfl,_,_,rfl,rfl,rfl⟩ (out:=[.slice none 0 0,_,.int .i64 0,_]) ⟨1,[_],rfl,rfl,by simp[Value.cells],3,[_],rfl,rfl,by simp[Value.cells],rfl⟩ ?_;refine iJ allM rfl rfl (fun Bc y6 PS PT fu iM=>?_);replace iM:=iM.all;change y6.heap[Bc]? =some (.cells #[.slice none 0 0,.map (some mb),.int .i64 0,.int .i64 (-1)] _ _)at fu;replace hm:=hm.aW iM;have:=S.size;replace S:=S.ax iM;refine ah rfl rfl (ab (aI ?_));exact aO rfl rfl ⟨_,rfl,⟨mb,fu,hm⟩,S,by omega⟩
theorem xF (b:Nat) (w0:World) (hb:Fl w0 b):
  Spec Tryz.prog 41 #[.pointer (some ⟨b,0,none⟩)] w0 (fun v w=>v= .slice none 0 0∧Step allM w0 allM w aw):=by
 obtain⟨mb,g0,hm⟩:=hb;refine aR (args:=[_]) (fn:=Tryz.f41) Tryz.func41 rfl (n:=9) Tryz.ntmps41 ?_;have S:Step allM w0 allM w0 aw:=(al _ _).bN (fun _ h=>h.elim) (fun _ _=>trivial);refine ai (ad (ah rfl rfl (ab (ai (ad (ae rfl rfl (aC rfl ⟨_,rfl⟩ rfl (aB (o':=1) cE rfl rfl xE (by decide) rfl rfl (az eu rfl rfl rfl (by assumption) rfl ?_)))))))));refine aJ rfl rfl Vq (sN _ _) (fun r w1 hc=>?_);obtain⟨rfl,Iw⟩:=hc;have s1:Step allM w0 allM w1 aw:=by rw[Iw];exact cL _ w0 _
 have yy:=kQ Iw;have:=aj g0;replace g0:=s1.aE g0;replace hm:=hm.aW s1;have:=S.size;replace S:=S.ax s1;refine aJ rfl rfl Vp (px hm yy (by decide)) (fun r2 w2 hc=>?_);obtain⟨⟨ss,PU,_,qg⟩,s2⟩:=hc;obtain rfl:r2= .slice none 0 0:=qg.2 (by have:=PU.length_eq;simpa[strKeys]using this);replace s2:=s2.all;have:=aj g0;replace g0:=s2.aE g0;replace hm:=hm.aW s2;have:=S.size;replace S:=S.ax s2;refine ah rfl rfl (ab (aI ?_));exact aO rfl rfl ⟨rfl,S⟩
theorem xG (w0:World):
  Spec Tryz.prog 147 #[.slice none 0 0,.slice none 0 0] w0 (fun v w=>∃b,v= .tuple #[.pointer (some ⟨b,0,none⟩),.int .i64 0]∧Step allM w0 allM w aw):=by
 refine aR (args:=[_,_]) (fn:=Tryz.f147) Tryz.func147 rfl (n:=22) Tryz.ntmps147 ?_;have S:Step allM w0 allM w0 aw:=(al _ _).bN (fun _ h=>h.elim) (fun _ _=>trivial);refine ai (ad (ah rfl rfl (ah rfl rfl (ab (ai (ai (ad (ae rfl rfl (bM aV rfl (A:=RT.str) (hn:=by decide) (M:=aw) (w1:=w0) (xs:=[]) fZ rfl (ae rfl rfl (bM cZ rfl (A:=RT.str) (hn:=by decide) (M:=aw) (w1:=w0) (xs:=[]) fZ rfl ?_)))))))))));refine eg rfl rfl rfl (ae rfl rfl (Rg.lL (g:=11) rfl ((by decide)) (ak rfl rfl (ae rfl rfl (ak rfl rfl ?_)))));refine aJ rfl rfl LV (DH _) (fun r wc hc=>?_);obtain⟨rfl,rfl⟩:=hc;refine ak rfl rfl (km rfl rfl (br (v':= .bool false) rfl (av rfl rfl rfl (ab (fL rfl (aT (ai (ad (ae rfl rfl ?_)))))))));refine aJ rfl rfl LW (Ba _) (fun r wc hc=>?_);obtain⟨rfl,rfl⟩:=hc;refine ae rfl rfl ?_;refine aJ rfl rfl LX (Bb _) (fun r wc hc=>?_);obtain⟨rfl,rfl⟩:=hc;refine dO (places:=[(0,1),(1,1)]) oB LQ LS rfl ⟨_,_,rfl,rfl,_,_,rfl,rfl,rfl⟩ (out:=[_,_]) ⟨0,[_],rfl,rfl,by simp[Value.cells],1,[_],rfl,rfl,by simp[Value.cells],rfl⟩ ?_;refine iJ allM rfl rfl (fun Vr LY adf adg Ix qu=>?_);replace qu:=qu.all;change LY.heap[Vr]? =some (.cells #[.slice none 0 0,.slice none 0 0] _ _)at Ix;have:=S.size;replace S:=S.ax qu;refine ah rfl rfl (ah rfl rfl (ab (aI ?_)));exact dX rfl rfl rfl ⟨_,rfl,S⟩
end Go.K
namespace Go.K
open Go.Proofs
namespace TKBuild16
theorem Ka:TI Tryz.prog 58 (.slice none 0 0) 1 24:=by unfold TI;kernel_rfl
theorem Kb:TI Tryz.prog 72 (.agg #[(.slice none 0 0),(.slice none 0 0),(.slice none 0 0),(.slice none 0 0)]) 4 96:=by unfold TI;kernel_rfl
theorem LZ:TI Tryz.prog 141 (.agg #[(.slice none 0 0),(.slice none 0 0),(.pointer none)]) 3 56:=by unfold TI;kernel_rfl
theorem xH:TI Tryz.prog 196 (.slice none 0 0) 1 24:=by unfold TI;kernel_rfl
theorem L0:placesOf Tryz.prog 141=[(0,1),(1,1),(2,1)].map some:=by kernel_rfl
theorem Vs:Enters Tryz.prog 39:=enters Tryz.func39 rfl (by decide)
theorem Vt:Enters Tryz.prog 41:=enters Tryz.func41 rfl (by decide)
theorem Vu:Enters Tryz.prog 43:=enters Tryz.func43 rfl (by decide)
theorem Iy:Enters Tryz.prog 51:=enters Tryz.func51 rfl (by decide)
theorem Vv:Enters Tryz.prog 92:=enters Tryz.func92 rfl (by decide)
theorem L3:Enters Tryz.prog 143:=enters Tryz.func143 rfl (by decide)
theorem L4:Enters Tryz.prog 146:=enters Tryz.func146 rfl (by decide)
theorem L5:Enters Tryz.prog 147:=enters Tryz.func147 rfl (by decide)
end TKBuild16
open TKBuild16
set_option maxRecDepth 10000
theorem DJ (w0:World):
  Spec Tryz.prog 92 #[.agg #[.slice none 0 0,.slice none 0 0,.slice none 0 0,.slice none 0 0]] w0 (fun v w=>∃b,v= .pointer (some ⟨b,0,none⟩)∧Step allM w0 allM w aw):=by
 refine aR (args:=[_]) (fn:=Tryz.f92) Tryz.func92 rfl (n:=45) Tryz.ntmps92 ?_;have S:Step allM w0 allM w0 aw:=(al _ _).bN (fun _ h=>h.elim) (fun _ _=>trivial);refine ai (ad ?_);refine iJ allM rfl rfl (fun sU Fm L6 L7 dD kR=>?_);replace kR:=kR.all
 try simp only[Value.cells]at dD
 have:=S.size;replace S:=S.ax kR;refine ah rfl rfl (ab (ai (ad (aB (o':=0) bF rfl rfl lI (by decide) rfl rfl (az ar rfl rfl rfl (by assumption) rfl (bM ar rfl (A:=RT.int .i64) (hn:=by decide) (M:=aw) (w1:=w0) (xs:=[]) fZ rfl ?_))))));refine ew allM I3 rfl (fun jq uI L8 L9 eC s1_3=>?_);replace s1_3:=s1_3.all;change uI.heap[jq]? =some (.cells #[.int .i64 0] _ _)at eC;have:=aj dD;replace dD:=s1_3.aE dD;have:=S.size;replace S:=S.ax s1_3;refine bL (M:=allM) I3 rfl rfl eC rfl (rfl) trivial (fun Fo uJ gI=>?_)
 try simp only[kI,List.set_cons_zero,List.set_cons_succ]at uJ
 replace dD:=gI.bB dD (fun hk=>by have hk:_=_:=hk;omega);have:=S.size;replace S:=S.trans gI (fun k hk h=>by have h:_=_:=h;subst h;first|(exfalso;omega)|(show _≤_;omega)|exact .inl rfl|exact .inr rfl|exact .inr (.inl rfl)|exact .inr (.inr rfl)|exact .inr (.inr (.inl rfl))|exact rfl);have nj:=uJ;clear eC;have eC:=nj;clear nj;refine ab (ai (ai (ad (aB (o':=1) bF rfl rfl lI (by decide) rfl rfl (az ar rfl rfl rfl (by assumption) rfl (bM ar rfl (A:=RT.int .i64) (hn:=by decide) (M:=aw) (w1:=w0) (xs:=[]) fZ rfl (az an rfl rfl rfl (by assumption) rfl (eg rfl rfl rfl (ae rfl rfl (Rg.lL (g:=16) rfl ((by simp)) (ak rfl rfl ?_)))))))))));refine aB (o':=1) bF rfl rfl lI (by decide) rfl rfl (ak rfl rfl (az ar rfl rfl rfl (by assumption) rfl (ak rfl rfl ?_)));refine aJ rfl rfl L3 (Fk _) (fun r wc hc=>?_);obtain⟨rfl,rfl⟩:=hc;refine ak rfl rfl (km rfl rfl (br (v':= .bool false) rfl (av rfl rfl rfl (ab (fL rfl (aT (ai (ad ?_))))))));refine ew allM xH rfl (fun Bd Be Vw Vx lZ ia=>?_);replace ia:=ia.all;change Be.heap[Bd]? =some (.cells #[.slice none 0 0] _ _)at lZ;have:=aj dD;replace dD:=ia.aE dD;have:=aj eC;replace eC:=ia.aE eC;have:=S.size;replace S:=S.ax ia;refine ab (ai (ad (gG (xs:=[]) rfl rfl rfl (ah rfl rfl (ab (ai (ai (ad (aB (o':=3) bF rfl rfl Ka (by decide) rfl rfl (az k4 rfl rfl rfl (by assumption) rfl (ae rfl rfl ?_)))))))))));refine aJ rfl rfl L4 (contains_nil _ _) (fun r wc hc=>?_);obtain⟨rfl,rfl⟩:=hc;refine ab (fL rfl (aT (ai (ad (aB (o':=2) bF rfl rfl CD (by decide) rfl rfl (az aV rfl rfl rfl (by assumption) rfl (az cZ rfl rfl rfl (by assumption) rfl ?_)))))))
 refine aJ rfl rfl L5 (xG _) (fun r8 w8 hc=>?_);obtain⟨b8,rfl,s8⟩:=hc;have:=aj dD;replace dD:=s8.aE dD;have:=aj eC;replace eC:=s8.aE eC;have:=aj lZ;replace lZ:=s8.aE lZ;have:=S.size;replace S:=S.ax s8;refine ae rfl rfl (bu rfl rfl rfl (bu rfl rfl rfl (ah rfl rfl (ah rfl rfl (ab (ai (ai (ad (ae rfl rfl (eg rfl rfl rfl (ab ?_)))))))))));refine mC rfl ((by simp)) (aT (ai ?_));apply T.Fh [0,1,3,4,6,2,5,7,8,9] 5 [2,3,4] 2 aw mixed
 ·simp+decide only[vU,qq,eL,List.map_nil,ur,uu,p6,ek,mL,List.idxOf_cons,cond_true,cond_false,Nat.reduceBEq,Nat.reduceAdd,beq_self_eq_true];rfl
 ·rfl
 ·rfl
 ·rfl
 ·rfl
 ·rfl
 ·rfl
 intro DK Fp;have gS:=Fp allM;have:=aj dD;replace dD:=gS.aE dD;have:=aj eC;replace eC:=gS.aE eC;have:=aj lZ;replace lZ:=gS.aE lZ;have:=S.size;replace S:=S.ax gS;refine aB (o':=0) bF rfl rfl lI (by decide) rfl rfl ?_;refine ab ⟨rfl,rfl,rfl,?_⟩;refine az ar rfl rfl rfl (by first|assumption|exact bQ gS (by assumption)) rfl ?_;refine ab ⟨rfl,rfl,rfl,?_⟩;refine aB (o':=1) bF rfl rfl lI (by decide) rfl rfl ?_;refine ab ⟨rfl,rfl,rfl,?_⟩;refine az ar rfl rfl rfl (by first|assumption|exact bQ gS (by assumption)) rfl ?_;refine ab ⟨rfl,rfl,rfl,?_⟩;refine ae rfl rfl ?_;refine ab ⟨rfl,rfl,rfl,?_⟩;refine fo ?_;refine⟨gO ⟨fQ bF rfl lI (by decide),⟨ey rfl (by assumption) (by first|assumption|exact fun h=>h|(intro h;have h:_=_:=h;omega)),⟨eN,trivial⟩⟩⟩,?_⟩;have kp:=iw aw DK;refine aJ rfl rfl Iy (oO _) (fun r11 wc hc=>?_);obtain⟨rfl,rfl⟩:=hc;refine(fun(kp:ed _ _ _)=>ab ⟨rfl,rfl,fun _=>kp,?_⟩) (by first|exact kp|exact kp.o0 (by assumption)|exact kp.goN (by assumption)|exact kp.go (by assumption) (fun _ _ h=>by first|exact h|exact h.elim));refine aJ rfl rfl Iy (oO _) (fun Ty wc hc=>?_);obtain⟨rfl,rfl⟩:=hc;refine(fun(kp:ed _ _ _)=>ab ⟨rfl,rfl,fun _=>kp,?_⟩) (by first|exact kp|exact kp.o0 (by assumption)|exact kp.goN (by assumption)|exact kp.go (by assumption) (fun _ _ h=>by first|exact h|exact h.elim));refine dO (places:=[(0,1),(1,1),(2,1)]) Tryz.underlying141 LZ L0 rfl ⟨_,_,rfl,rfl,_,_,rfl,rfl,_,_,rfl,rfl,rfl⟩ (out:=[_,_,_]) ⟨0,[_],rfl,rfl,by simp[Value.cells],1,[_],rfl,rfl,by simp[Value.cells],2,[_],rfl,rfl,by simp[Value.cells],rfl⟩ ?_;refine ab ⟨rfl,rfl,fun h=>absurd rfl h,?_⟩;refine iJ allM rfl rfl (fun ZX ZY ZZ Z0 PV vW=>?_);replace vW:=vW.all
 try simp only[Value.cells]at PV
 have:=aj dD;replace dD:=vW.aE dD;have:=aj eC;replace eC:=vW.aE eC;have:=aj lZ;replace lZ:=vW.aE lZ;have:=S.size;replace S:=S.ax vW;refine ab ⟨rfl,rfl,fun h=>absurd rfl h,?_⟩;refine ah rfl rfl ?_;refine ab ⟨rfl,rfl,fun h=>absurd rfl h,?_⟩;refine oC (aI ?_);exact aO rfl rfl ⟨_,rfl,S⟩
theorem Fq (w0:World):
  Spec Tryz.prog 43 #[.agg #[.slice none 0 0,.slice none 0 0,.slice none 0 0,.slice none 0 0]] w0 (fun v w=>∃b,v= .tuple #[.pointer (some ⟨b,0,none⟩),.int .i64 0]∧Step allM w0 allM w aw):=by
 refine aR (args:=[_]) (fn:=Tryz.f43) Tryz.func43 rfl (n:=10) Tryz.ntmps43 ?_;have S:Step allM w0 allM w0 aw:=(al _ _).bN (fun _ h=>h.elim) (fun _ _=>trivial);refine ai (ad ?_);refine iJ allM rfl rfl (fun sU Fm L6 L7 dD kR=>?_);replace kR:=kR.all
 try simp only[Value.cells]at dD
 have:=S.size;replace S:=S.ax kR;refine ah rfl rfl (ah rfl rfl (ab (ai (ad (fX (vs:=[.slice none 0 0,.slice none 0 0,.slice none 0 0,.slice none 0 0]) bF rfl Kb rfl rfl rfl dD ?_)))));refine aJ rfl rfl Vv (DJ _) (fun r w1 hc=>?_);obtain⟨b1,rfl,s1⟩:=hc;have:=aj dD;replace dD:=s1.aE dD;have:=S.size;replace S:=S.ax s1;refine ah rfl rfl (ab (ai (ai (ad (ae rfl rfl (Rg.sC qQ rfl ⟨_,rfl⟩ rfl rfl (ab (fL rfl (aT (ai (ad ?_)))))))))));refine ae rfl rfl (ah rfl rfl (ah rfl rfl (ab (aI ?_))));exact dX rfl rfl rfl ⟨_,rfl,S⟩
theorem DL (w0:World):
  Spec Tryz.prog 11 #[.slice none 0 0] w0 (fun v w=>∃b,v= .tuple #[.pointer (some ⟨b,0,none⟩),.int .i64 0]∧Step allM w0 allM w aw):=by
 refine aR (args:=[_]) (fn:=Tryz.f11) Tryz.func11 rfl (n:=63) Tryz.ntmps11 ?_;have S:Step allM w0 allM w0 aw:=(al _ _).bN (fun _ h=>h.elim) (fun _ _=>trivial);refine ai (ad (ah rfl rfl (ah rfl rfl (ab (ai (ad ?_))))));refine aJ rfl rfl Vs (y5 _) (fun r w1 hc=>?_);obtain⟨b1,rfl,py,s1,p1⟩:=hc;have:=S.size;replace S:=S.ax s1;refine ah rfl rfl (ab (ai (ad ?_)));refine ew allM Kb rfl (fun eS DM PW PX ll nU=>?_);replace nU:=nU.all;change DM.heap[eS]? =some (.cells #[.slice none 0 0,.slice none 0 0,.slice none 0 0,.slice none 0 0] _ _)at ll;replace py:=py.aW nU;have:=S.size;replace S:=S.ax nU;refine ab (ai (ai (ad (ae rfl rfl (bM gw rfl (A:=RT.int .i64) (hn:=by decide) (M:=aw) (w1:=w0) (xs:=[]) fZ rfl (ae rfl rfl (ab (a7 ?_))))))));refine dd (σ:=Unit) (fun _=>[(4,.pointer (some ⟨b1,0,none⟩)),(5,.pointer (some ⟨eS,0,none⟩)),(12,.slice none 0 0),(13,.int .i64 0),(14,.int .i64 0)]) (fun _ w=>w=DM) (fun _=>0) () (.cons rfl (.cons rfl (.cons rfl (.cons rfl (.cons rfl .nil))))) ?_ ?_
 ·rfl
 ·rintro _ w rfl;refine ai (ad (bY rfl rfl rfl (ab (ai (mC rfl ((by decide)) (cB (ai (ad (ae rfl rfl ?_)))))))));refine aJ rfl rfl Vt (xF _ _ py) (fun r PY hc=>?_);obtain⟨rfl,oP⟩:=hc;have:=aj ll;replace ll:=oP.aE ll;replace py:=py.aW oP;have:=S.size;replace S:=S.ax oP;refine aB (o':=2) bF rfl rfl CD (by decide) rfl rfl ?_;refine bL (M:=allM) CD rfl rfl ll rfl (rfl) trivial (fun sV cj ep=>?_)
  try simp only[kI,List.set_cons_zero,List.set_cons_succ]at cj
  have:=S.size;replace S:=S.trans ep (fun k hk h=>by have h:_=_:=h;subst h;first|(exfalso;omega)|(show _≤_;omega)|exact .inl rfl|exact .inr rfl|exact .inr (.inl rfl)|exact .inr (.inr rfl)|exact .inr (.inr (.inl rfl))|exact rfl);have Kc:=cj;clear ll;have ll:=Kc;clear Kc;refine ab (ai (ai (ad (aB (o':=2) bF rfl rfl CD (by decide) rfl rfl (az aV rfl rfl rfl (by assumption) rfl (bM aV rfl (A:=RT.str) (hn:=by decide) (M:=aw) (w1:=w0) (xs:=[]) fZ rfl (ae rfl rfl (ab (a7 ?_)))))))));refine dd (σ:=Unit) (fun _=>[(4,.pointer (some ⟨b1,0,none⟩)),(5,.pointer (some ⟨eS,0,none⟩)),(44,.slice none 0 0),(45,.int .i64 0),(46,.int .i64 0)]) (fun _ w=>w=sV) (fun _=>0) () (.cons rfl (.cons rfl (.cons rfl (.cons rfl (.cons rfl .nil))))) ?_ ?_
  ·rfl
  ·rintro _ w rfl;refine ai (ad (bY rfl rfl rfl (ab (ai (mC rfl ((by decide)) (cB (ai (ad (fX (vs:=[.slice none 0 0,.slice none 0 0,.slice none 0 0,.slice none 0 0]) bF rfl Kb rfl rfl rfl ll ?_)))))))));refine aJ rfl rfl Vu (Fq _) (fun r Z1 hc=>?_);obtain⟨b17,rfl,OM⟩:=hc;have:=aj ll;replace ll:=OM.aE ll;have:=S.size;replace S:=S.ax OM;refine bu rfl rfl rfl (bu rfl rfl rfl (ah rfl rfl (ah rfl rfl (ab (aI ?_)))));exact dX rfl rfl rfl ⟨_,rfl,S⟩
end Go.K
namespace Go.K
def Bf (at':Nat→Nat) (cont:Nat→Bool):Nat×Nat:=
 if at' 0<0x80 then(at' 0,1)
 else if at' 0/32==6&&cont 1 then
  if(at' 0%32)*64+at' 1%64≥0x80 then((at' 0%32)*64+at' 1%64,2)else(65533,1)
 else if at' 0/16==14&&cont 1&&cont 2 then
  if(at' 0%16)*4096+(at' 1%64)*64+at' 2%64≥0x800&&Utf8.valid ((at' 0%16)*4096+(at' 1%64)*64+at' 2%64:Nat)then((at' 0%16)*4096+(at' 1%64)*64+at' 2%64,3)else(65533,1)
 else if at' 0/8==30&&cont 1&&cont 2&&cont 3 then
  if(at' 0%8)*262144+(at' 1%64)*4096+(at' 2%64)*64+at' 3%64≥0x10000&&Utf8.valid ((at' 0%8)*262144+(at' 1%64)*4096+(at' 2%64)*64+at' 3%64:Nat)then((at' 0%8)*262144+(at' 1%64)*4096+(at' 2%64)*64+at' 3%64,4)else(65533,1)
 else(65533,1)
theorem DN (s:ByteArray) (i:Nat):Utf8.decode s i=Bf (fun k=>(s.get! (i+k)).toNat) (fun k=>decide (i+k<s.size)&&(s.get! (i+k)).toNat/64==2):=rfl
def iv (l:List UInt8) (k:Nat):Nat:=(l.getD k 0).toNat
def iD (l:List UInt8) (k:Nat):Bool:=decide (k<l.length)&&iv l k/64==2
def dec (l:List UInt8):Nat×Nat:=Bf (iv l) (iD l)
theorem DO (l:List UInt8) (j:Nat):(⟨l.toArray⟩:ByteArray).get! j=l.getD j 0:=by
 show l.toArray[j]! =_;rw[bH,getElem!_def];simp only[gM]
 cases l[j]? <;>rfl
theorem Bg (l:List UInt8) (pos:Nat):Utf8.decode ⟨l.toArray⟩ pos=dec (l.drop pos):=by
 rw[DN,dec]
 have h1:(fun k=>((⟨l.toArray⟩:ByteArray).get! (pos+k)).toNat)=iv (l.drop pos):=by
  funext k;rw[DO,iv,bH,bH,List.getElem?_drop]
 have h2:(fun k=>decide (pos+k<(⟨l.toArray⟩:ByteArray).size)&&((⟨l.toArray⟩:ByteArray).get! (pos+k)).toNat/64==2)=iD (l.drop pos):=by
  funext k;have:=congrFun h1 k;rw[this,iD,cT];congr 1;have hs:(⟨l.toArray⟩:ByteArray).size=l.length:=by simp[ByteArray.size]
  rw[hs];exact decide_eq_decide.2 (by omega)
 rw[h1,h2]
theorem sY {l:List UInt8} {k:Nat} (h:iD l k=true):k<l.length:=by
 simp only[iD,bD,decide_eq_true_eq]at h;exact h.1
theorem jJ {l:List UInt8} (hl:l≠[]):1≤(dec l).2∧(dec l).2≤l.length:=by
 have h0:0<l.length:=lJ.2 hl;unfold dec Bf
 split
 ·exact⟨aZ _,h0⟩
 ·split
  ·rename_i h
   simp only[bD]at h;have:=sY h.2
   split<;>(simp only;omega)
  ·split
   ·rename_i h
    simp only[bD]at h;have:=sY h.2
    split<;>(simp only;omega)
   ·split
    ·rename_i h
     simp only[bD]at h;have:=sY h.2
     split<;>(simp only;omega)
    ·exact⟨aZ _,h0⟩
theorem l0 (l:List UInt8) (k:Nat):iv l k<256:=by unfold iv;exact UInt8.toNat_lt _
theorem qv (l:List UInt8):(dec l).1≤1114111:=by
 unfold dec Bf
 split
 ·simp only;omega
 ·split
  ·have:=l0 l 0
   split<;>(simp only;omega)
  ·split
   ·have:=l0 l 0
    split<;>(simp only;omega)
   ·split
    ·split
     ·rename_i h
      simp only[bD,Utf8.valid,Bool.or_eq_true,decide_eq_true_eq]at h;simp only;omega
     ·simp only;omega
    ·simp only;omega
def ei (l:List UInt8):List Int:=match l with
 |[]=>[]
 |c::r=>((dec (c::r)).1:Int)::ei ((c::r).drop (dec (c::r)).2)
termination_by l.length
decreasing_by
 have:=(jJ (l:=c::r) (by simp)).1;simp only[cT,cq];omega
theorem qw:ei []=[]:=by unfold ei;rfl
theorem oQ {l:List UInt8} (h:l≠[]):ei l=((dec l).1:Int)::ei (l.drop (dec l).2):=by
 cases l with
 |nil=>exact absurd rfl h
 |cons c r=>rw[ei]
theorem gr (l:List UInt8):(ei l).length≤l.length:=by
 induction hn:l.length using Nat.strongRecOn generalizing l with
 |_ n ih=>
  by_cases h:l=[]
  ·subst h;rw[qw];simp
  ·rw[oQ h,cq];have hw:=jJ h;have:=ih _ (by rw[cT];omega) (l.drop (dec l).2) rfl;rw[cT]at this;omega
section
variable {P:Program} {r:Option Nat} {n:Nat} {L:Sl} {ds:List Deferred} {w:World} {K:Kt} {ops:Array Oper} {rest:List Oper} {d:Nat} {x:Operand} {ty:TypeId} {pos:String} {af:Array Edge}
theorem Rg.Fs {t:TypeId} {l:List UInt8} (M:aD) (ht:P.underlying t=some .string) (hx:ev L x=some (.string ⟨l.toArray⟩)) (hd:Nat.blt d n=true)
  (k:∀b w',w.heap.size≤b→b<w'.heap.size→w'.heap[b]? =some (.stringIter ⟨l.toArray⟩ 0)→Step M w (ins M b) w' aw→Rg P r n ops rest ((d,.pointer (some ⟨b,0,none⟩))::L) ds w' K):
  Rg P r n ops ({dst:=some d,op:= .range t x,type:=ty,pos,after:=af,guard:=none}::rest) L ds w K:=by
 refine .op (fun _ h=>by cases h) rfl rfl hd (.pointer (some ⟨w.heap.size,0,none⟩)) (w.alloc (.stringIter ⟨l.toArray⟩ 0)) (fun ρ hρ=>?_) (k w.heap.size _ (aZ _) (by simp) (cu w _) ((cL M w _).own (aZ _) (by simp)));simp only[execOp,hρ x _ hx];simp[Instr.range,cz,run_underlying ht,newObj,Sem.run]
theorem gB (M:aD) {b:Nat} {o:Obj} (hm:M b):Step M w M {w with heap:=w.heap.setIfInBounds b o} (fun k=>k=b):=
 ⟨fun h b hb=>by simpa using h b hb,rfl,rfl,rfl,by simp,fun _ _=>Iff.rfl,fun k _ hn=>by simp[cH,Ne.symm hn],fun k hk=>by subst hk;exact hm⟩
theorem nk {b p:Nat} {s:ByteArray} (hb:w.heap[b]? =some (.stringIter s p)):(getObj b).run P w= .ok (.stringIter s p) w:=by simp[getObj,Sem.run,hb]
theorem Rg.Iz {l:List UInt8} {b p:Nat} {M:aD} (hx:ev L x=some (.pointer (some ⟨b,0,none⟩))) (hb:w.heap[b]? =some (.stringIter ⟨l.toArray⟩ p)) (hm:M b) (hd:Nat.blt d n=true)
  (k1:p<l.length→∀w',w'.heap[b]? =some (.stringIter ⟨l.toArray⟩ (p+(dec (l.drop p)).2))→Step M w M w' (fun k=>k=b)→Rg P r n ops rest ((d,.tuple #[.bool true,.int .i64 p,.int .i32 ((dec (l.drop p)).1:Nat)])::L) ds w' K)
  (k2: ¬p<l.length→Rg P r n ops rest ((d,.tuple #[.bool false])::L) ds w K):
  Rg P r n ops ({dst:=some d,op:= .next x true,type:=ty,pos,after:=af,guard:=none}::rest) L ds w K:=by
 have hs:(⟨l.toArray⟩:ByteArray).size=l.length:=by simp[ByteArray.size]
 have dA:=aj hb;by_cases h:p<l.length
 ·have key:=k1 h {w with heap:=w.heap.setIfInBounds b (.stringIter ⟨l.toArray⟩ (p+(dec (l.drop p)).2))} (by simp[cH,dA]) (gB M hm);refine .op (fun _ h=>by cases h) rfl rfl hd _ _ (fun ρ hρ=>?_) key;simp only[execOp,hρ x _ hx,Instr.next,cz,nk hb,cY];rw[if_pos (by rw[hs];exact h)];simp[Bg,setObj,Sem.run,goInt,hb]
 ·refine .op (fun _ h=>by cases h) rfl rfl hd _ w (fun ρ hρ=>?_) (k2 h);simp only[execOp,hρ x _ hx,Instr.next,cz,nk hb,cY];rw[if_neg (by rw[hs];exact h)];simp
theorem Rg.CF {t:TypeId} {i:Operand} {l:List UInt8} {κ:IntKind} {j:Int} {c:UInt8} (ht:P.underlying t=some .string) (hx:ev L x=some (.string ⟨l.toArray⟩)) (hi:ev L i=some (.int κ j)) (hd:Nat.blt d n=true) (hj:0≤j) (hc:l[j.toNat]? =some c)
  (k:Rg P r n ops rest ((d,.int .u8 (c.toNat:Int))::L) ds w K):
  Rg P r n ops ({dst:=some d,op:= .index t x i,type:=ty,pos,after:=af,guard:=none}::rest) L ds w K:=by
 have dA:=(au.1 hc).1;have hs:(⟨l.toArray⟩:ByteArray).size=l.length:=by simp[ByteArray.size]
 have hg:(⟨l.toArray⟩:ByteArray)[j.toNat]? =some c:=by
  rw[getElem?_pos _ _ (by rw[hs];exact dA)];congr 1;have:=(au.1 hc).2;rw[←this];rfl
 refine .op (fun _ h=>by cases h) rfl rfl hd _ w (fun ρ hρ=>?_) k;simp only[execOp,hρ x _ hx,hρ i _ hi,Instr.index,cz,asIntOf,Sem.run_pure,cY,run_underlying ht];simp[hj,hg]
theorem oc (l:List UInt8) (a b:Nat):(⟨l.toArray⟩:ByteArray).extract a b=⟨((l.take b).drop a).toArray⟩:=by
 have:((⟨l.toArray⟩:ByteArray).extract a b).data=((l.take b).drop a).toArray:=by
  rw[ByteArray.data_extract];apply Array.toList_inj.1;rw[Array.toList_extract,List.extract_eq_take_drop,List.drop_take]
 exact congrArg ByteArray.mk this
theorem Rg.IA {t:TypeId} {i:Operand} {l:List UInt8} {κ:IntKind} {j:Int} (ht:P.underlying t=some .string) (hx:ev L x=some (.string ⟨l.toArray⟩)) (hi:ev L i=some (.int κ j)) (hd:Nat.blt d n=true) (hj:0≤j∧j≤l.length)
  (k:Rg P r n ops rest ((d,.string ⟨(l.drop j.toNat).toArray⟩)::L) ds w K):
  Rg P r n ops ({dst:=some d,op:= .slice t x (some i) none none,type:=ty,pos,after:=af,guard:=none}::rest) L ds w K:=by
 have hs:(⟨l.toArray⟩:ByteArray).size=l.length:=by simp[ByteArray.size]
 refine .op (fun _ h=>by cases h) rfl rfl hd _ w (fun ρ hρ=>?_) k;simp only[execOp,hρ x _ hx,ek,mL,hρ i _ hi];rw[cz,run_sliceAt_string _ _ _ _ _ _ ht,run_slice_string_l _ _ _ ht _ _ hj.1 (by rw[hs];exact hj.2),oc,hs,List.take_length];simp
theorem Rg.Kd {t:TypeId} {i:Operand} {l:List UInt8} {κ:IntKind} {j:Int} (ht:P.underlying t=some .string) (hx:ev L x=some (.string ⟨l.toArray⟩)) (hi:ev L i=some (.int κ j)) (hd:Nat.blt d n=true) (hj:0≤j∧j≤l.length)
  (k:Rg P r n ops rest ((d,.string ⟨(l.take j.toNat).toArray⟩)::L) ds w K):
  Rg P r n ops ({dst:=some d,op:= .slice t x none (some i) none,type:=ty,pos,after:=af,guard:=none}::rest) L ds w K:=by
 have hs:(⟨l.toArray⟩:ByteArray).size=l.length:=by simp[ByteArray.size]
 refine .op (fun _ h=>by cases h) rfl rfl hd _ w (fun ρ hρ=>?_) k;simp only[execOp,hρ x _ hx,ek,mL,hρ i _ hi];rw[cz,run_sliceAt_string _ _ _ _ _ _ ht,run_slice_string_h _ _ _ ht _ _ hj.1 (by rw[hs];exact hj.2),oc,List.drop_zero];simp
end
theorem Own.dF {α:Type} {A:RT α} {e:TypeId} {M:aD} {w:World} {base b p:Nat} {s:ByteArray} {v:Value} {xs:List α} (h:Own A e M w base v xs) (hb:w.heap[b]? =some (.stringIter s p)):v.ownBlock≠some b:=fun hv=>by
 obtain⟨⟨C,h1,_⟩,_⟩:=h;rcases h1.2 with⟨h2,_⟩|⟨g,cap,cur,h2,_,h3,_⟩
 ·rw[h2]at hv;cases hv
 ·rw[h2]at hv;cases hv;rw[h3]at hb;cases hb
theorem Own.iE {α β:Type} {A:RT α} {B:RT β} {e e':TypeId} {M M':aD} {w:World} {base Cs:Nat} {v u:Value} {xs:List α} {ys:List β} (h:Own A e M w base v xs) (h':Own B e' M' w Cs u ys) (ht:e≠e') {b:Nat} (hb:v.ownBlock=some b):u.ownBlock≠some b:=fun hu=>by
 obtain⟨⟨C,h1,_⟩,_⟩:=h;obtain⟨⟨C',LF,_⟩,_⟩:=h';rcases h1.2 with⟨h2,_⟩|⟨g,cap,cur,h2,_,h3,_⟩
 ·rw[h2]at hb;cases hb
 ·rcases LF.2 with⟨xn,_⟩|⟨g',Pf,Pg,xn,_,Z2,_⟩
  ·rw[xn]at hu;cases hu
  ·rw[h2]at hb;rw[xn]at hu;cases hb;cases hu;rw[h3]at Z2;cases Z2;exact ht rfl
theorem Own.ef {α:Type} {A:RT α} {e t:TypeId} {M:aD} {w:World} {base b:Nat} {v:Value} {xs:List α} {cs:Array Value} {fr:Nat×Nat} (h:Own A e M w base v xs) (hb:w.heap[b]? =some (.cells cs t fr)) (ht:t≠e):v.ownBlock≠some b:=fun hv=>by
 obtain⟨⟨C,h1,_⟩,_⟩:=h;rcases h1.2 with⟨h2,_⟩|⟨g,cap,cur,h2,_,h3,_⟩
 ·rw[h2]at hv;cases hv
 ·rw[h2]at hv;cases hv;rw[h3]at hb;cases hb;exact ht rfl
end Go.K
namespace Go.K
open Go.Proofs
namespace TKSnapF
theorem CG:TI Tryz.prog 89 (.map none) 1 8:=by unfold TI;kernel_rfl
theorem I91:TI Tryz.prog 91 (.agg #[(.map none),(.int .i64 0),(.slice none 0 0)]) 3 40:=by unfold TI;kernel_rfl
theorem HW:TI Tryz.prog 97 (.pointer none) 1 8:=by unfold TI;kernel_rfl
theorem EC:TI Tryz.prog 99 (.agg #[(.int .i64 0)]) 1 8:=by unfold TI;kernel_rfl
theorem Vy:TI Tryz.prog 101 (.agg #[(.int .i64 0),(.pointer none)]) 2 16:=by unfold TI;kernel_rfl
theorem B91:placesOf Tryz.prog 91=[(0,1),(1,1),(2,1)].map some:=by kernel_rfl
theorem Vz:placesOf Tryz.prog 99=[(0,1)].map some:=by kernel_rfl
theorem VA:placesOf Tryz.prog 101=[(0,1),(1,1)].map some:=by kernel_rfl
theorem VB:Enters Tryz.prog 49:=enters Tryz.func49 rfl (by decide)
theorem Tz:Enters Tryz.prog 50:=enters Tryz.func50 rfl (by decide)
theorem Iy:Enters Tryz.prog 51:=enters Tryz.func51 rfl (by decide)
theorem E53:Enters Tryz.prog 53:=enters Tryz.func53 rfl (by decide)
theorem E54:Enters Tryz.prog 54:=enters Tryz.func54 rfl (by decide)
end TKSnapF
open TKSnapF
set_option maxRecDepth 10000
open Go.Maps (int_keyed keyOf_int_mk)
theorem uK {x:Int} (h: -9223372036854775808≤x∧x≤9223372036854775807):(Lit.int .i64 x).wf=true:=by
 simp only[Lit.wf,bD,decide_eq_true_eq];exact h
theorem jn.xI {P:Program} {k e:TypeId} {R:Value→Option (DU×List MemPlace)} {α:Type} {A:RT α} {M M':aD} {w:World} {b base:Nat} {m:List (Lit×DU)} {v:Value} {xs:List α} (h:jn P k R M w b m) (ho:Own A e M' w base v xs):v.ownBlock≠some b:=fun hv=>by
 obtain⟨⟨C,h1,_⟩,_⟩:=ho;rcases h1.2 with⟨h2,_⟩|⟨g,cap,cur,h2,_,h3,_⟩
 ·rw[h2]at hv;cases hv
 ·rw[h2]at hv;cases hv;exact h.ne h3 rfl
def dK (w:World) (hb:Nat) (c:Int) (x:Value):Prop:=w.heap[hb]? =some (.cells #[.int .i64 c,x] 101 (0,0))
structure Rest (w:World) (B:Nat) (mb:Nat) (u:Value) (ml:List (Int×Nat)) (fr:List Int):Prop where
 m:jn Tryz.prog 3 ng allM w mb (ml.map lW)
 o:Own (RT.int .i64) 3 allM w B u fr
 h:∀p∈ml,∃c x,dK w p.2 c x
theorem Rest.step {w w':World} {B mb:Nat} {u:Value} {ml:List (Int×Nat)} {fr:List Int} {N:aD} (h:Rest w B mb u ml fr) (s:Step allM w allM w' N) (hN:∀b,N b→∃cs t,t≠3∧t≠101∧w.heap[b]? =some (.cells cs t (0,0))):Rest w' B mb u ml fr:=
 ⟨h.m.step s fun hn=>by obtain⟨cs,t,h1,h2,h3⟩:=hN _ hn;exact h.m.ne h3 rfl,h.o.vV s fun b hb hn=>by obtain⟨cs,t,h1,h2,h3⟩:=hN _ hn;exact h.o.ef h3 h1 hb,
  fun p hp=>by
  obtain⟨c,x,hx⟩:=h.h p hp;exact⟨c,x,s.bB hx fun hn=>by obtain⟨cs,t,h1,h2,h3⟩:=hN _ hn;rw[hx]at h3;cases h3;exact h2 rfl⟩⟩
theorem Rest.aW {w w':World} {B mb:Nat} {u:Value} {ml:List (Int×Nat)} {fr:List Int} (h:Rest w B mb u ml fr) (s:Step allM w allM w' aw):Rest w' B mb u ml fr:=h.step s fun _ h=>h.elim
theorem Rest.count {w w':World} {B mb hb:Nat} {u:Value} {ml:List (Int×Nat)} {fr:List Int} {c c':Int} {x x':Value} (h:Rest w B mb u ml fr) (s:Step allM w allM w' (fun k=>k=hb)) (h0:dK w hb c x) (h1:dK w' hb c' x'):Rest w' B mb u ml fr:=
 ⟨h.m.step s fun hn=>h.m.ne h0 hn,h.o.vV s fun b yy hn=>by subst hn;exact h.o.ef h0 (by decide) yy,
  fun p hp=>by
  obtain⟨c2,x2,hx⟩:=h.h p hp;by_cases e:p.2=hb
  ·rw[e];exact⟨_,_,h1⟩
  ·exact⟨c2,x2,s.bB hx e⟩⟩
structure St (w:World) (B:Nat) (sb mb:Nat) (u:Value) (n:Int) (ml:List (Int×Nat)) (fr:List Int):Prop where
 s:w.heap[sb]? =some (.cells #[.map (some mb),.int .i64 n,u] 91 (0,0))
 r:Rest w B mb u ml fr
 d:xB ml
 b:∀p∈ml,1≤p.1∧p.1≤n
 z:0≤n∧n≤1000000
 k:(ml.length:Int)+fr.length=n
 bs:B≤sb∧B≤mb∧∀p∈ml,B≤p.2
theorem St.aW {w w':World} {B sb mb:Nat} {u:Value} {n:Int} {ml:List (Int×Nat)} {fr:List Int} (h:St w B sb mb u n ml fr) (s:Step allM w allM w' aw):St w' B sb mb u n ml fr:=⟨s.aE h.s,h.r.aW s,h.d,h.b,h.z,h.k,h.bs⟩
theorem vX (w0:World):
  Spec Tryz.prog 10 #[] w0 (fun v w=>∃sb mb,v= .pointer (some ⟨sb,0,none⟩)∧St w w0.heap.size sb mb (.slice none 0 0) 0 [] []∧Step allM w0 allM w aw):=by
 refine aR (args:=[]) (fn:=Tryz.f10) Tryz.func10 rfl (n:=4) Tryz.ntmps10 ?_;have S:Step allM w0 allM w0 aw:=(al _ _).bN (fun _ h=>h.elim) (fun _ _=>trivial);refine ai (ad (ah rfl rfl (ab (ai (ad ?_)))));refine Rg.makeMap allM cc rfl ng (fun mb w1 p1 q1 hm s1=>?_);replace s1:=s1.all;replace hm:=hm.all;have:=S.size;replace S:=S.ax s1;refine dO (places:=[(0,1),(1,1),(2,1)]) cr I91 B91 rfl ⟨_,_,rfl,rfl,rfl⟩ (out:=[_,.int .i64 0,.slice none 0 0]) ⟨0,[_],rfl,rfl,by simp[Value.cells],rfl⟩ ?_;refine iJ allM rfl rfl (fun Bc y6 PS PT fu iM=>?_);replace iM:=iM.all;change y6.heap[Bc]? =some (.cells #[.map (some mb),.int .i64 0,.slice none 0 0] _ _)at fu;replace hm:=hm.aW iM;have:=S.size;replace S:=S.ax iM;refine ah rfl rfl (ab (aI ?_));exact aO rfl rfl ⟨_,mb,rfl,⟨fu,⟨hm,eh _ _ _ _ _,(fun p hp=>by cases hp)⟩,List.Pairwise.nil,(fun p hp=>by cases hp),by omega,rfl,by omega,p1,(fun p hp=>by cases hp)⟩,S⟩
theorem y7 {B sb mb:Nat} {u:Value} {n:Int} {ml:List (Int×Nat)} {fr:List Int} {xv:Option Addr} (w0:World) (hs:St w0 B sb mb u n ml fr) (hn:n<1000000):
  Spec Tryz.prog 13 #[.pointer (some ⟨sb,0,none⟩),.pointer xv] w0 (fun v w=>∃hb,v= .int .i64 (n+1)∧St w B sb mb u (n+1) (qp (n+1,hb) ml) fr∧dK w hb 1 (.pointer xv)∧w0.heap.size≤hb∧Step allM w0 allM w (fun k=>k=sb∨k=mb)):=by
 have jz:=hs.b;have yz:=hs.z;have qx:=hs.d;have y8:=hs.k;have xJ:=hs.bs;have g0:=hs.s;have hr:=hs.r;obtain⟨qd,mU,oR⟩:=xJ;clear hs;refine aR (args:=[_,_]) (fn:=Tryz.f13) Tryz.func13 rfl (n:=28) Tryz.ntmps13 ?_;have S:Step allM w0 allM w0 (fun k=>k=sb∨k=mb):=(al _ _).bN (fun _ h=>h.elim) (fun _ _=>trivial);refine ai (ad (ah rfl rfl (ab (ai (ad (ae rfl rfl (aC rfl ⟨_,rfl⟩ rfl (aB (o':=1) cr rfl rfl I3 (by decide) rfl rfl (az an rfl rfl rfl (by assumption) rfl (bA rfl rfl rfl (by omega) (aC rfl ⟨_,rfl⟩ rfl ?_)))))))))));refine aB (o':=1) cr rfl rfl I3 (by decide) rfl rfl ?_;refine bL (M:=allM) I3 rfl rfl g0 rfl (rfl) trivial (fun Ft uL DP=>?_);change Ft.heap[_]? =some (Obj.cells #[.map (some mb),.int .i64 (n+1),u] _ _)at uL;replace hr:=hr.step DP (fun b hb=>by cases hb;exact⟨_,_,by decide,by decide,g0⟩);have:=S.size;replace S:=S.trans DP (fun k hk h=>by have h:_=_:=h;subst h;first|(exfalso;omega)|(show _≤_;omega)|exact .inl rfl|exact .inr rfl|exact .inr (.inl rfl)|exact .inr (.inr rfl)|exact .inr (.inr (.inl rfl))|exact rfl);have PZ:=uL;clear g0;have g0:=PZ;clear PZ;refine ab (ai ?_);apply T.mW 11 [0,1,2,3,4,5,6,7] 1 (fun k=>k=mb) mixed rfl rfl rfl rfl;intro TA VC;have vY:=VC allM;have:=aj g0;replace g0:=vY.aE g0;replace hr:=hr.aW vY;have:=S.size;replace S:=S.ax vY;have ns:sb≠mb:=fun e=>hr.m.ne g0 e.symm
 refine ae rfl rfl ?_;refine ab ⟨rfl,rfl,rfl,?_⟩;refine aC rfl ⟨_,rfl⟩ rfl ?_;refine ab ⟨rfl,rfl,rfl,?_⟩;refine aB (o':=0) cr rfl rfl CG (by decide) rfl rfl ?_;refine ab ⟨rfl,rfl,rfl,?_⟩;refine az cc rfl rfl rfl (by first|assumption|exact bQ vY (by assumption)) rfl ?_;refine ab ⟨rfl,rfl,rfl,?_⟩;refine ae rfl rfl ?_;refine ab ⟨rfl,rfl,rfl,?_⟩;refine aC rfl ⟨_,rfl⟩ rfl ?_;refine ab ⟨rfl,rfl,rfl,?_⟩;refine aB (o':=1) cr rfl rfl I3 (by decide) rfl rfl ?_;refine ab ⟨rfl,rfl,rfl,?_⟩;refine az an rfl rfl rfl (by first|assumption|exact bQ vY (by assumption)) rfl ?_;refine ab ⟨rfl,rfl,rfl,?_⟩;refine dO (places:=[(0,1)]) eO EC Vz rfl ⟨_,_,rfl,rfl,rfl⟩ (out:=[_]) ⟨0,[_],rfl,rfl,by simp[Value.cells],rfl⟩ ?_;refine ab ⟨rfl,rfl,rfl,?_⟩;refine ae rfl rfl ?_;refine ab ⟨rfl,rfl,rfl,?_⟩;refine dO (places:=[(0,1),(1,1)]) oD Vy VA rfl ⟨_,_,rfl,rfl,_,_,rfl,rfl,rfl⟩ (out:=[_,_]) ⟨0,[_],rfl,rfl,by simp[Value.cells],1,[_],rfl,rfl,by simp[Value.cells],rfl⟩ ?_;refine ab ⟨rfl,rfl,rfl,?_⟩;refine fo ?_;refine⟨gO ⟨eN,⟨oE rfl,⟨fQ cr rfl CG (by decide),⟨ey rfl (by assumption) (by first|assumption|exact fun h=>h|(intro h;have h:_=_:=h;omega)),⟨eN,⟨oE rfl,⟨fQ cr rfl I3 (by decide),⟨ey rfl (by assumption) (by first|assumption|exact fun h=>h|(intro h;have h:_=_:=h;omega)),trivial⟩⟩⟩⟩⟩⟩⟩⟩,?_⟩;have kp:=iw (fun k=>k=mb) TA;refine iJ allM rfl rfl (fun CH P0 Z3 Z4 vZ y9=>?_);replace y9:=y9.all;change P0.heap[CH]? =some (.cells #[.int .i64 1,.pointer xv] _ _)at vZ;have:=aj g0;replace g0:=y9.aE g0;replace hr:=hr.aW y9;have:=S.size;replace S:=S.ax y9;refine(fun(kp:ed _ _ _)=>ab ⟨rfl,rfl,fun _=>kp,?_⟩) (by first|exact kp|exact kp.o0 (by assumption)|exact kp.goN (by assumption)|exact kp.go (by assumption) (fun _ _ h=>by first|exact h|exact h.elim))
 refine Rg.LJ (R:=ng) cc (int_keyed an) rfl rfl rfl (keyOf_int_mk an (uK (by omega))) rfl hr.m (by rw[de];unfold maxLen;omega) (fun w2 Z5 s2=>?_);have nb:CH≠mb:=fun e=>hr.m.ne vZ e.symm
 rw[A5,filter_none (fun q hq=>by have:=jz q hq;omega)]at Z5;have VD:=hr.o.vV s2 (fun b yy hn=>hr.m.xI hr.o (hn▸yy))
 have hh2:∀p∈ml,∃c x,dK w2 p.2 c x:=fun p hp=>by
  obtain⟨c,x,hx⟩:=hr.h p hp;exact⟨c,x,s2.bB hx fun e=>hr.m.ne hx e.symm⟩
 replace g0:=s2.bB g0 (fun hk=>by have hk:_=_:=hk;omega);replace vZ:=s2.bB vZ (fun hk=>by have hk:_=_:=hk;omega);have:=S.size;replace S:=S.trans s2 (fun k hk h=>by have h:_=_:=h;subst h;first|(exfalso;omega)|(show _≤_;omega)|exact .inl rfl|exact .inr rfl|exact .inr (.inl rfl)|exact .inr (.inr rfl)|exact .inr (.inr (.inl rfl))|exact rfl);refine ab ⟨rfl,rfl,fun h=>absurd rfl h,?_⟩;refine oC (ai (ad (ae rfl rfl (aC rfl ⟨_,rfl⟩ rfl (aB (o':=1) cr rfl rfl I3 (by decide) rfl rfl (az an rfl rfl rfl (by first|assumption|exact bQ vY (by assumption)) rfl (ah rfl rfl (ab (aI ?_)))))))))
 exact aO rfl rfl ⟨CH,rfl,⟨g0,⟨Z5,VD,fun p hp=>by
  rcases(gR _ _ _).1 hp with rfl|hp
  ·exact⟨_,_,vZ⟩
  ·exact hh2 p hp⟩,qx.ins (fun q hq=>by have:=jz q hq;omega),(fun p hp=>by
  rcases(gR _ _ _).1 hp with rfl|hp
  ·exact⟨by omega,Int.le_refl _⟩
  ·have:=jz p hp;omega),by omega,by rw[yZ];omega,qd,mU,fun p hp=>by
  rcases(gR _ _ _).1 hp with rfl|hp
  ·show B≤CH;omega
  ·exact oR p hp⟩,vZ,by omega,S⟩
theorem ta {hb:Nat} {c:Int} {x:Value} (w0:World) (h0:dK w0 hb c x) (hc: -1000000≤c∧c≤1000000):
  Spec Tryz.prog 50 #[.pointer (some ⟨hb,0,none⟩)] w0 (fun v w=>v= .bool (decide (c-1=0))∧dK w hb (c-1) x∧Step allM w0 allM w (fun k=>k=hb)):=by
 have gh:w0.heap[hb]? =some (.cells #[.int .i64 c,x] 101 (0,0)):=h0;refine aR (args:=[_]) (fn:=Tryz.f50) Tryz.func50 rfl (n:=15) Tryz.ntmps50 ?_;have S:Step allM w0 allM w0 (fun k=>k=hb):=(al _ _).bN (fun _ h=>h.elim) (fun _ _=>trivial);refine ai (ad (ah rfl rfl (ab (ai (ad (ae rfl rfl (aC rfl ⟨_,rfl⟩ rfl (aB (o':=0) eO rfl rfl I3 (by decide) rfl rfl (az an rfl rfl rfl (by assumption) rfl (gj rfl rfl rfl (by omega) (aC rfl ⟨_,rfl⟩ rfl ?_)))))))))));refine aB (o':=0) eO rfl rfl I3 (by decide) rfl rfl ?_;refine bL (M:=allM) I3 rfl rfl gh rfl (rfl) trivial (fun Ft uL DP=>?_);change Ft.heap[_]? =some (Obj.cells #[.int .i64 (c-1),x] _ _)at uL;have:=S.size;replace S:=S.trans DP (fun k hk h=>by have h:_=_:=h;subst h;first|(exfalso;omega)|(show _≤_;omega)|exact .inl rfl|exact .inr rfl|exact .inr (.inl rfl)|exact .inr (.inr rfl)|exact .inr (.inr (.inl rfl))|exact rfl);have wa:=uL;clear gh;have gh:=wa;clear wa;refine ab (ai (ad (ae rfl rfl (aC rfl ⟨_,rfl⟩ rfl (aB (o':=0) eO rfl rfl I3 (by decide) rfl rfl (az an rfl rfl rfl (by assumption) rfl (jD rfl rfl rfl (ah rfl rfl (ab (aI ?_))))))))));exact aO rfl rfl ⟨rfl,gh,S⟩
theorem we {hb:Nat} {c:Int} {x:Value} (w0:World) (h0:dK w0 hb c x) (hc: -1000000≤c∧c≤1000000):
  Spec Tryz.prog 49 #[.pointer (some ⟨hb,0,none⟩)] w0 (fun v w=>dK w hb (c+1) x∧Step allM w0 allM w (fun k=>k=hb)):=by
 have gh:w0.heap[hb]? =some (.cells #[.int .i64 c,x] 101 (0,0)):=h0;refine aR (args:=[_]) (fn:=Tryz.f49) Tryz.func49 rfl (n:=9) Tryz.ntmps49 ?_;have S:Step allM w0 allM w0 (fun k=>k=hb):=(al _ _).bN (fun _ h=>h.elim) (fun _ _=>trivial);refine ad (ae rfl rfl (aC rfl ⟨_,rfl⟩ rfl (aB (o':=0) eO rfl rfl I3 (by decide) rfl rfl (az an rfl rfl rfl (by assumption) rfl (bA rfl rfl rfl (by omega) (aC rfl ⟨_,rfl⟩ rfl (aB (o':=0) eO rfl rfl I3 (by decide) rfl rfl ?_)))))));refine bL (M:=allM) I3 rfl rfl gh rfl (rfl) trivial (fun adn P1 VE=>?_)
 try simp only[kI,List.set_cons_zero,List.set_cons_succ]at P1
 have:=S.size;replace S:=S.trans VE (fun k hk h=>by have h:_=_:=h;subst h;first|(exfalso;omega)|(show _≤_;omega)|exact .inl rfl|exact .inr rfl|exact .inr (.inl rfl)|exact .inr (.inr rfl)|exact .inr (.inr (.inl rfl))|exact rfl);have wa:=P1;clear gh;have gh:=wa;clear wa;refine ab ?_
 first|refine fF.nil ?_|simp+decide only[rz,jO,if_true,if_false]|skip
 exact jx rfl ⟨gh,S⟩
theorem wg {B sb mb:Nat} {u:Value} {n:Int} {ml:List (Int×Nat)} {fr:List Int} {k:Int} (w0:World) (hs:St w0 B sb mb u n ml fr) {hb:Nat} {c:Int} {x:Value} (hm:(k,hb)∈ml) (h0:dK w0 hb c x) (hc: -1000000≤c∧c≤1000000) (HX:c≠1):
  Spec Tryz.prog 17 #[.pointer (some ⟨sb,0,none⟩),.int .i64 k] w0 (fun v w=>v= .tuple #[.bool false,.int .i64 0]∧St w B sb mb u n ml fr∧dK w hb (c-1) x∧Step allM w0 allM w (fun k=>k=hb)):=by
 have jz:=hs.b;have yz:=hs.z;have qx:=hs.d;have y8:=hs.k;have xJ:=hs.bs;have g0:=hs.s;have hr:=hs.r;obtain⟨qd,mU,oR⟩:=xJ;have gh:w0.heap[hb]? =some (.cells #[.int .i64 c,x] 101 (0,0)):=h0;have nh:sb≠hb:=fun e=>by subst e;rw[g0]at gh;cases gh
 have Fu:=oR _ hm;have Fv:=jz _ hm;simp only[]at Fu Fv;refine aR (args:=[_,_]) (fn:=Tryz.f17) Tryz.func17 rfl (n:=37) Tryz.ntmps17 ?_;have S:Step allM w0 allM w0 (fun k=>k=hb):=(al _ _).bN (fun _ h=>h.elim) (fun _ _=>trivial);refine ai (ad (ah rfl rfl (ah rfl rfl (ab (ai (ad (ae rfl rfl (aC rfl ⟨_,rfl⟩ rfl (aB (o':=0) cr rfl rfl CG (by decide) rfl rfl (az cc rfl rfl rfl (by assumption) rfl (ae rfl rfl ?_)))))))))));refine Rg.nf (R:=ng) cc (int_keyed an) HW rfl rfl rfl rfl (keyOf_int_mk an (uK (by omega))) hr.m (fun v ps hv=>?_);rw[atKey_mem qx hm]at hv;obtain rfl:=iV hv;refine ah rfl rfl (ab (ai (a7 (ai (ad (ae rfl rfl (Rg.oa Tryz.underlying97 rfl rfl rfl (ah rfl rfl (ab (mC rfl ((by simp)) (ai ?_)))))))))));refine ad (ae rfl rfl (aC rfl ⟨_,rfl⟩ rfl (aB (o':=0) oD rfl rfl EC (by decide) rfl rfl ?_)));refine aJ rfl rfl Tz (ta _ gh hc) (fun r4 w4 h4=>?_);obtain⟨rfl,g4,s4⟩:=h4;replace hr:=hr.count s4 gh g4;replace g0:=s4.bB g0 (fun hk=>by have hk:_=_:=hk;omega);have:=S.size;replace S:=S.trans s4 (fun k hk h=>by have h:_=_:=h;subst h;first|(exfalso;omega)|(show _≤_;omega)|exact .inl rfl|exact .inr rfl|exact .inr (.inl rfl)|exact .inr (.inr rfl)|exact .inr (.inr (.inl rfl))|exact rfl);have wa:=g4;clear gh;have gh:=wa;clear wa;refine km rfl rfl (br (v':= .bool true) (by rw[decide_eq_false (by omega)];rfl) (ah rfl rfl (ab (kY rfl (ai (ad (ah rfl rfl (ah rfl rfl (ab (aI ?_))))))))));exact dX rfl rfl rfl ⟨rfl,⟨g0,hr,qx,jz,yz,y8,qd,mU,oR⟩,gh,S⟩
theorem wh {B sb mb:Nat} {u:Value} {n:Int} {ml:List (Int×Nat)} {fr:List Int} {k:Int} (w0:World) (hs:St w0 B sb mb u n ml fr) {hb:Nat} {c:Int} {x:Value} (hm:(k,hb)∈ml) (h0:dK w0 hb c x) (hc: -1000000≤c∧c≤1000000) (HX:c=1):
  Spec Tryz.prog 17 #[.pointer (some ⟨sb,0,none⟩),.int .i64 k] w0 (fun v w=>v= .tuple #[.bool true,.int .i64 0]∧(∃u',St w B sb mb u' n (ml.filter fun p=> !decide (p.1=k)) (fr++[k]))∧Step allM w0 allM w (fun k=>k=sb∨k=mb∨k=hb∨u.ownBlock=some k)):=by
 have jz:=hs.b;have yz:=hs.z;have qx:=hs.d;have y8:=hs.k;have xJ:=hs.bs;have g0:=hs.s;have hr:=hs.r;obtain⟨qd,mU,oR⟩:=xJ;have gh:w0.heap[hb]? =some (.cells #[.int .i64 c,x] 101 (0,0)):=h0;have nh:sb≠hb:=fun e=>by subst e;rw[g0]at gh;cases gh
 have Fu:=oR _ hm;have Fv:=jz _ hm;simp only[]at Fu Fv;refine aR (args:=[_,_]) (fn:=Tryz.f17) Tryz.func17 rfl (n:=37) Tryz.ntmps17 ?_;have S:Step allM w0 allM w0 (fun k=>k=sb∨k=mb∨k=hb∨u.ownBlock=some k):=(al _ _).bN (fun _ h=>h.elim) (fun _ _=>trivial);refine ai (ad (ah rfl rfl (ah rfl rfl (ab (ai (ad (ae rfl rfl (aC rfl ⟨_,rfl⟩ rfl (aB (o':=0) cr rfl rfl CG (by decide) rfl rfl (az cc rfl rfl rfl (by assumption) rfl (ae rfl rfl ?_)))))))))));refine Rg.nf (R:=ng) cc (int_keyed an) HW rfl rfl rfl rfl (keyOf_int_mk an (uK (by omega))) hr.m (fun v ps hv=>?_);rw[atKey_mem qx hm]at hv;obtain rfl:=iV hv;refine ah rfl rfl (ab (ai (a7 (ai (ad (ae rfl rfl (Rg.oa Tryz.underlying97 rfl rfl rfl (ah rfl rfl (ab (mC rfl ((by simp)) (ai ?_)))))))))));refine ad (ae rfl rfl (aC rfl ⟨_,rfl⟩ rfl (aB (o':=0) oD rfl rfl EC (by decide) rfl rfl ?_)));refine aJ rfl rfl Tz (ta _ gh hc) (fun r4 w4 h4=>?_);obtain⟨rfl,g4,s4⟩:=h4;replace hr:=hr.count s4 gh g4;replace g0:=s4.bB g0 (fun hk=>by have hk:_=_:=hk;omega);have:=S.size;replace S:=S.trans s4 (fun k hk h=>by have h:_=_:=h;subst h;first|(exfalso;omega)|(show _≤_;omega)|exact .inl rfl|exact .inr rfl|exact .inr (.inl rfl)|exact .inr (.inr rfl)|exact .inr (.inr (.inl rfl))|exact rfl);have wa:=g4;clear gh;have gh:=wa;clear wa;refine km rfl rfl (br (v':= .bool false) (by rw[decide_eq_true (by omega)];rfl) (ah rfl rfl (ab (fL rfl (aT (ai (ad (ae rfl rfl (aC rfl ⟨_,rfl⟩ rfl (aB (o':=0) cr rfl rfl CG (by decide) rfl rfl (az cc rfl rfl rfl (by assumption) rfl ?_)))))))))));refine ae rfl rfl ?_;refine Rg.LK cc (int_keyed an) rfl rfl (keyOf_int_mk an (uK (by omega))) hr.m (fun w6 Z6 s6=>?_)
 have ns:sb≠mb:=fun e=>hr.m.ne g0 e.symm
 have nbh:hb≠mb:=fun e=>hr.m.ne gh e.symm
 rw[sM]at Z6
 replace hr:Rest w6 B mb u (ml.filter fun p=> !decide (p.1=k)) fr:=⟨Z6,hr.o.vV s6 (fun b yy hn=>hr.m.xI hr.o (hn▸yy)),fun p hp=>by
  obtain⟨c,x,hx⟩:=hr.h p (rT.1 hp).1;exact⟨c,x,s6.bB hx fun e=>hr.m.ne hx e.symm⟩⟩
 replace g0:=s6.bB g0 (fun hk=>by have hk:_=_:=hk;omega);replace gh:=s6.bB gh (fun hk=>by have hk:_=_:=hk;omega);have:=S.size;replace S:=S.trans s6 (fun k hk h=>by have h:_=_:=h;subst h;first|(exfalso;omega)|(show _≤_;omega)|exact .inl rfl|exact .inr rfl|exact .inr (.inl rfl)|exact .inr (.inr rfl)|exact .inr (.inr (.inl rfl))|exact rfl);refine ab (ai (ad (ae rfl rfl (ae rfl rfl (aC rfl ⟨_,rfl⟩ rfl (aB (o':=2) cr rfl rfl lI (by decide) rfl rfl (az ar rfl rfl rfl (by assumption) rfl (ae rfl rfl ?_))))))));have dA:Lt (jo u) w6:=fun b hb=>(hr.o.base b hb).2
 refine fa (A:=RT.int .i64) (hn:=by decide) (M:=jo u) ar I3 (by decide) rfl rfl dA (gu (by omega)) (.inr ⟨rfl,rfl⟩) (fun u7 w7 IB s7=>?_);have t7:=s7;replace s7:=s7.all;replace hr:=hr.aW s7;have:=aj g0;replace g0:=s7.aE g0;have:=aj gh;replace gh:=s7.aE gh;have:=S.size;replace S:=S.ax s7;have VF:B≤w7.heap.size:=by have:=aj g0;omega
 refine cQ (M:=jo u) (base:=B) ar I3 rfl rfl rfl rfl hr.o.lone IB (aq _ _) (by simp;omega) (by simp;omega) VF (fun u8 M8 w8 TB s8=>?_);have hblk:∀b,jw u b→B≤b∧b≠sb∧b≠hb∧b≠mb:=fun b h=>⟨(hr.o.base b h).1,fun e=>hr.o.ef g0 (by decide) (e▸h),fun e=>hr.o.ef gh (by decide) (e▸h),fun e=>hr.m.xI hr.o (e▸h)⟩
 replace s8:=s8.all;replace g0:=s8.bB g0 (fun h=>(hblk _ h).2.1 rfl);have VG:=hr.m.step s8 (fun h=>(hblk _ h).2.2.2 rfl)
 have hh8:∀p∈(ml.filter fun p=> !decide (p.1=k)),∃c x,dK w8 p.2 c x:=fun p hp=>by
  obtain⟨c,x,hx⟩:=hr.h p hp;exact⟨c,x,s8.bB hx fun h=>hr.o.ef hx (by decide) h⟩
 replace TB:=TB.Fj (M':=allM) fun _ _=>trivial
 replace S:=S.trans s8 (fun b _ h=> .inr (.inr (.inr h)));replace hr:Rest w8 B mb u8 (ml.filter fun p=> !decide (p.1=k)) (fr++[k]):=⟨VG,TB,hh8⟩;refine aC rfl ⟨_,rfl⟩ rfl (aB (o':=2) cr rfl rfl lI (by decide) rfl rfl ?_);refine bL (M:=allM) lI rfl rfl g0 rfl ((by obtain⟨_,_,he,_⟩:=TB.isSlice;rw[he];rfl)) trivial (fun P2 Ke Kf=>?_);change P2.heap[_]? =some (Obj.cells #[.map (some mb),.int .i64 n,u8] _ _)at Ke;replace hr:=hr.step Kf (fun b hb=>by cases hb;exact⟨_,_,by decide,by decide,g0⟩);have:=S.size;replace S:=S.trans Kf (fun k hk h=>by have h:_=_:=h;subst h;first|(exfalso;omega)|(show _≤_;omega)|exact .inl rfl|exact .inr rfl|exact .inr (.inl rfl)|exact .inr (.inr rfl)|exact .inr (.inr (.inl rfl))|exact rfl);have PZ:=Ke;clear g0;have g0:=PZ;clear PZ;refine ab (ai (ad (ah rfl rfl (ah rfl rfl (ab (aI ?_))))));have Dh:=A6 qx hm;exact dX rfl rfl rfl ⟨rfl,⟨u8,g0,hr,qx.filter k,(fun p hp=>jz p (rT.1 hp).1),yz,by simp;omega,qd,mU,fun p hp=>oR p (rT.1 hp).1⟩,S⟩
theorem DQ {B sb mb:Nat} {u:Value} {n:Int} {ml:List (Int×Nat)} {fr:List Int} {k:Int} (w0:World) (hs:St w0 B sb mb u n ml fr) {hb:Nat} {c:Int} {x:Value} (hm:(k,hb)∈ml) (h0:dK w0 hb c x) (hc: -1000000≤c∧c≤1000000):
  Spec Tryz.prog 55 #[.pointer (some ⟨sb,0,none⟩),.int .i64 k] w0 (fun v w=>v= .int .i64 0∧St w B sb mb u n ml fr∧dK w hb (c+1) x∧Step allM w0 allM w (fun k=>k=hb)):=by
 have jz:=hs.b;have yz:=hs.z;have qx:=hs.d;have y8:=hs.k;have xJ:=hs.bs;have g0:=hs.s;have hr:=hs.r;obtain⟨qd,mU,oR⟩:=xJ;have gh:w0.heap[hb]? =some (.cells #[.int .i64 c,x] 101 (0,0)):=h0;have nh:sb≠hb:=fun e=>by subst e;rw[g0]at gh;cases gh
 have Fu:=oR _ hm;have Fv:=jz _ hm;simp only[]at Fu Fv;refine aR (args:=[_,_]) (fn:=Tryz.f55) Tryz.func55 rfl (n:=18) Tryz.ntmps55 ?_;have S:Step allM w0 allM w0 (fun k=>k=hb):=(al _ _).bN (fun _ h=>h.elim) (fun _ _=>trivial);refine ai (ad (ah rfl rfl (ab (ai (ad (ae rfl rfl (aC rfl ⟨_,rfl⟩ rfl (aB (o':=0) cr rfl rfl CG (by decide) rfl rfl (az cc rfl rfl rfl (by assumption) rfl (ae rfl rfl ?_))))))))));refine Rg.nf (R:=ng) cc (int_keyed an) HW rfl rfl rfl rfl (keyOf_int_mk an (uK (by omega))) hr.m (fun v ps hv=>?_);rw[atKey_mem qx hm]at hv;obtain rfl:=iV hv;refine ah rfl rfl (ab (ai (ai (ad (ae rfl rfl (Rg.oa Tryz.underlying97 rfl rfl rfl (ab (mC rfl ((by simp)) (aT (ai (ad ?_)))))))))));refine ae rfl rfl (aC rfl ⟨_,rfl⟩ rfl (aB (o':=0) oD rfl rfl EC (by decide) rfl rfl ?_));refine aJ rfl rfl VB (we _ gh hc) (fun r4 w4 h4=>?_);obtain⟨g4,s4⟩:=h4;replace hr:=hr.count s4 gh g4;replace g0:=s4.bB g0 (fun hk=>by have hk:_=_:=hk;omega);have:=S.size;replace S:=S.trans s4 (fun k hk h=>by have h:_=_:=h;subst h;first|(exfalso;omega)|(show _≤_;omega)|exact .inl rfl|exact .inr rfl|exact .inr (.inl rfl)|exact .inr (.inr rfl)|exact .inr (.inr (.inl rfl))|exact rfl);have wa:=g4;clear gh;have gh:=wa;clear wa;refine ab (ai (ad (ah rfl rfl (ab (aI ?_)))));exact aO rfl rfl ⟨rfl,⟨g0,hr,qx,jz,yz,y8,qd,mU,oR⟩,gh,S⟩
theorem DR {B sb mb:Nat} {u:Value} {n:Int} {ml:List (Int×Nat)} {fr:List Int} (w0:World) (hs:St w0 B sb mb u n ml fr):
  Spec Tryz.prog 20 #[.pointer (some ⟨sb,0,none⟩)] w0 (fun v w=>(∃a cap,v= .slice a ml.length cap)∧Step allM w0 allM w aw):=by
 have jz:=hs.b;have yz:=hs.z;have qx:=hs.d;have y8:=hs.k;have xJ:=hs.bs;have g0:=hs.s;have hr:=hs.r;obtain⟨qd,mU,oR⟩:=xJ;refine aR (args:=[_]) (fn:=Tryz.f20) Tryz.func20 rfl (n:=9) Tryz.ntmps20 ?_;have S:Step allM w0 allM w0 aw:=(al _ _).bN (fun _ h=>h.elim) (fun _ _=>trivial);refine ai (ad (ah rfl rfl (ab (ai (ad (ae rfl rfl (aC rfl ⟨_,rfl⟩ rfl (aB (o':=0) cr rfl rfl CG (by decide) rfl rfl (az cc rfl rfl rfl (by assumption) rfl ?_)))))))));refine aJ rfl rfl E54 (A7 _ _) (fun r w1 hc=>?_);obtain⟨rfl,Iw⟩:=hc;have s1:Step allM w0 allM w1 aw:=by rw[Iw];exact cL _ w0 _
 have yy:=kQ Iw;have:=aj g0;replace g0:=s1.aE g0;replace hr:=hr.aW s1;have:=S.size;replace S:=S.ax s1;refine aJ rfl rfl E53 (xC hr.m yy (by rw[de];omega)) (fun r2 w2 hc=>?_);obtain⟨⟨ss,PU,VH,_⟩,s2⟩:=hc;have nL:ss.length=ml.length:=by have:=PU.length_eq;simpa[intKeys]using this
 obtain⟨a2,c2,rfl⟩:∃a cap,r2= .slice a ml.length cap:=by
  rcases VH.2 with⟨h1,h2⟩|⟨g,cap,cur,h1,_⟩
  ·exact⟨none,0,by rw[h1,←nL,h2]⟩
  ·exact⟨_,cap,by rw[h1,nL]⟩
 replace s2:=s2.all;have:=aj g0;replace g0:=s2.aE g0;replace hr:=hr.aW s2;have:=S.size;replace S:=S.ax s2;refine ah rfl rfl (ab (aI ?_));exact aO rfl rfl ⟨⟨_,_,rfl⟩,S⟩
theorem za {B:Nat} {a:Option Addr} {cap:Nat} {xs:List Int} (w0:World) (ho:Own (RT.int .i64) 3 allM w0 B (.slice a xs.length cap) xs) (ha:a≠none) (hl:xs.length≤1000000):
  Spec Tryz.prog 51 #[.slice a xs.length cap] w0 (fun v w=>(∃a cap,v= .slice a xs.length cap)∧Step allM w0 allM w aw):=by
 have hxs:(RT.int .i64).sl (by decide) |>.V aw w0 xs (.slice a xs.length cap):=ho.sl (M0:=aw) Le.none (fun _ _ h=>h) (by omega);refine aR (args:=[_]) (fn:=Tryz.f51) Tryz.func51 rfl (n:=8) Tryz.ntmps51 ?_;have S:Step allM w0 allM w0 aw:=(al _ _).bN (fun _ h=>h.elim) (fun _ _=>trivial);refine ai (ad (ah rfl rfl (ab (ai (ai (ad (ae rfl rfl (Rg.kC ar rfl rfl rfl (ab (mC rfl (ha) (aT ?_)))))))))));refine ai (ad ?_);refine Rg.UH ar I3 aw rfl (fun g w1 z1 Uc g1 s1=>?_);have t1:=s1;replace s1:=s1.all;replace ho:=ho.vV s1 (fun _ _ h=>h);have:=S.size;replace S:=S.ax s1;refine ae rfl rfl ?_;refine cQ (M:=ins aw g) (base:=w0.heap.size) ar I3 rfl rfl rfl rfl (Own.empty g1 z1 (.inl rfl)) (hxs.le t1.le) (aq _ _) (by simp;omega) (by simp;omega) (by omega) (fun v2 M2 w2 VD s2=>?_);obtain⟨a2,c2,rfl,_⟩:=VD.isSlice;replace s2:=s2.all;replace S:=S.trans s2 (fun b hb h=>by have h:some g=some b:=h;cases h;omega);refine ah rfl rfl (ab (aI ?_));exact aO rfl rfl ⟨⟨a2,c2,by simp⟩,S⟩
theorem ze {B:Nat} {v:Value} {xs:List Int} (w0:World) (ho:Own (RT.int .i64) 3 allM w0 B v xs) (hl:xs.length≤1000000):Spec Tryz.prog 51 #[v] w0 (fun v w=>(∃a cap,v= .slice a xs.length cap)∧Step allM w0 allM w aw):=by
 obtain⟨a,cap,rfl,_⟩:=ho.isSlice
 cases a with
 |some a=>exact za w0 ho (by simp) hl
 |none=>
  have hx:xs.length=0∧cap=0:=by
   obtain⟨⟨C,h1,_⟩,_⟩:=ho;rcases h1.2 with⟨h2,h3⟩|⟨g,cap,cur,h2,_⟩
   ·simp at h2;exact⟨by rw[h2.1];rfl,h2.2⟩
   ·cases h2
  rw[hx.1,hx.2];exact(oO w0).mono fun v w ⟨h1,h2⟩=>⟨⟨none,0,h1⟩,by rw[h2];exact al _ _⟩
theorem oS {B sb mb:Nat} {u:Value} {n:Int} {ml:List (Int×Nat)} {fr:List Int} (w0:World) (hs:St w0 B sb mb u n ml fr):
  Spec Tryz.prog 18 #[.pointer (some ⟨sb,0,none⟩)] w0 (fun v w=>(∃a cap,v= .slice a fr.length cap)∧Step allM w0 allM w aw):=by
 have jz:=hs.b;have yz:=hs.z;have qx:=hs.d;have y8:=hs.k;have xJ:=hs.bs;have g0:=hs.s;have hr:=hs.r;obtain⟨qd,mU,oR⟩:=xJ;refine aR (args:=[_]) (fn:=Tryz.f18) Tryz.func18 rfl (n:=8) Tryz.ntmps18 ?_;have S:Step allM w0 allM w0 aw:=(al _ _).bN (fun _ h=>h.elim) (fun _ _=>trivial);refine ai (ad (ah rfl rfl (ab (ai (ad (ae rfl rfl (aC rfl ⟨_,rfl⟩ rfl (aB (o':=2) cr rfl rfl lI (by decide) rfl rfl (az ar rfl rfl rfl (by assumption) rfl ?_)))))))));refine aJ rfl rfl Iy (ze _ hr.o (by omega)) (fun r w1 hc=>?_);obtain⟨⟨a1,c1,rfl⟩,s1⟩:=hc;have:=aj g0;replace g0:=s1.aE g0;replace hr:=hr.aW s1;have:=S.size;replace S:=S.ax s1;refine ah rfl rfl (ab (aI ?_));exact aO rfl rfl ⟨⟨_,_,rfl⟩,S⟩
end Go.K
namespace Go.K
open Go.Proofs
namespace TKSnapP
theorem CG:TI Tryz.prog 89 (.map none) 1 8:=by unfold TI;kernel_rfl
theorem HW:TI Tryz.prog 97 (.pointer none) 1 8:=by unfold TI;kernel_rfl
theorem EC:TI Tryz.prog 99 (.agg #[(.int .i64 0)]) 1 8:=by unfold TI;kernel_rfl
theorem E46:Enters Tryz.prog 46:=enters Tryz.func46 rfl (by decide)
theorem E95:Enters Tryz.prog 95:=enters Tryz.func95 rfl (by decide)
theorem E96:Enters Tryz.prog 96:=enters Tryz.func96 rfl (by decide)
end TKSnapP
open TKSnapP
set_option maxRecDepth 10000
open Go.Maps (int_keyed keyOf_int_mk)
theorem tb {B sb mb:Nat} {u:Value} {n:Int} {ml:List (Int×Nat)} {fr:List Int} {k:Int} {hb:Nat} {c:Int} {x:Value} (w0:World) (hs:St w0 B sb mb u n ml fr) (hm:(k,hb)∈ml) (h0:dK w0 hb c x):
  Spec Tryz.prog 16 #[.pointer (some ⟨sb,0,none⟩),.int .i64 k] w0 (fun v w=>v= .int .i64 c∧w=w0):=by
 have jz:=hs.b;have yz:=hs.z;have qx:=hs.d;have y8:=hs.k;have xJ:=hs.bs;have g0:=hs.s;have hr:=hs.r;obtain⟨qd,mU,oR⟩:=xJ;have gh:w0.heap[hb]? =some (.cells #[.int .i64 c,x] 101 (0,0)):=h0;have nh:sb≠hb:=fun e=>by subst e;rw[g0]at gh;cases gh
 have Fu:=oR _ hm;have Fv:=jz _ hm;simp only[]at Fu Fv;refine aR (args:=[_,_]) (fn:=Tryz.f16) Tryz.func16 rfl (n:=19) Tryz.ntmps16 ?_;have S:Step allM w0 allM w0 aw:=(al _ _).bN (fun _ h=>h.elim) (fun _ _=>trivial);refine ai (ad (ah rfl rfl (ab (ai (ai (ad (ae rfl rfl (aC rfl ⟨_,rfl⟩ rfl (aB (o':=0) cr rfl rfl CG (by decide) rfl rfl (az cc rfl rfl rfl (by assumption) rfl (ae rfl rfl ?_)))))))))));refine Rg.nf (R:=ng) cc (int_keyed an) HW rfl rfl rfl rfl (keyOf_int_mk an (uK (by omega))) hr.m (fun v ps hv=>?_);rw[atKey_mem qx hm]at hv;obtain rfl:=iV hv;refine ah rfl rfl (ab (ai (ad (ae rfl rfl (Rg.J3 Tryz.underlying97 rfl rfl rfl (ab (T.EO rfl ((by simp)) (ai (ad (ae rfl rfl (aC rfl ⟨_,rfl⟩ rfl ?_)))))))))));refine aB (o':=0) oD rfl rfl EC (by decide) rfl rfl (aB (o':=0) eO rfl rfl I3 (by decide) rfl rfl (az an rfl rfl rfl (by assumption) rfl (ah rfl rfl (ab (aI ?_)))));exact aO rfl rfl ⟨rfl,rfl⟩
theorem Bh {B sb mb:Nat} {u:Value} {n:Int} {ml:List (Int×Nat)} {fr:List Int} {k:Int} (w0:World) (hs:St w0 B sb mb u n ml fr) (hk:∀q∈ml,q.1≠k) (OL:0≤k∧k≤1000000):
  Spec Tryz.prog 16 #[.pointer (some ⟨sb,0,none⟩),.int .i64 k] w0 (fun v w=>v= .int .i64 0∧w=w0):=by
 have jz:=hs.b;have yz:=hs.z;have qx:=hs.d;have y8:=hs.k;have xJ:=hs.bs;have g0:=hs.s;have hr:=hs.r;obtain⟨qd,mU,oR⟩:=xJ;refine aR (args:=[_,_]) (fn:=Tryz.f16) Tryz.func16 rfl (n:=19) Tryz.ntmps16 ?_;have S:Step allM w0 allM w0 aw:=(al _ _).bN (fun _ h=>h.elim) (fun _ _=>trivial);refine ai (ad (ah rfl rfl (ab (ai (ai (ad (ae rfl rfl (aC rfl ⟨_,rfl⟩ rfl (aB (o':=0) cr rfl rfl CG (by decide) rfl rfl (az cc rfl rfl rfl (by assumption) rfl (ae rfl rfl ?_)))))))))));refine Rg.nf (R:=ng) cc (int_keyed an) HW rfl rfl rfl rfl (keyOf_int_mk an (uK (by omega))) hr.m (fun v ps hv=>?_);rw[atKey_none hk]at hv;obtain rfl:=DD hv;refine ah rfl rfl (ab (ai (ad (ae rfl rfl (Rg.J3 Tryz.underlying97 rfl rfl rfl (ab (mC rfl ((by simp)) (aT (ai (ad (ah rfl rfl ?_)))))))))));refine ab (aI ?_);exact aO rfl rfl ⟨rfl,rfl⟩
theorem Bi {B sb mb:Nat} {u:Value} {n:Int} {ml:List (Int×Nat)} {fr:List Int} {k:Int} {hb:Nat} {c:Int} {x:Value} (w0:World) (hs:St w0 B sb mb u n ml fr) (hm:(k,hb)∈ml) (h0:dK w0 hb c x) {bx:Nat} (gb:w0.heap[bx]? =some (.cells #[.pointer (some ⟨sb,0,none⟩)] 23 (0,0))):
  Spec Tryz.prog 46 #[.int .i64 k,.pointer (some ⟨bx,0,none⟩)] w0 (fun v w=>v= .bool false∧w=w0):=by
 have jz:=hs.b;have yz:=hs.z;have qx:=hs.d;have y8:=hs.k;have xJ:=hs.bs;have g0:=hs.s;have hr:=hs.r;obtain⟨qd,mU,oR⟩:=xJ;have gh:w0.heap[hb]? =some (.cells #[.int .i64 c,x] 101 (0,0)):=h0;have nh:sb≠hb:=fun e=>by subst e;rw[g0]at gh;cases gh
 have Fu:=oR _ hm;have Fv:=jz _ hm;simp only[]at Fu Fv;refine aR (args:=[_,_]) (fn:=Tryz.f46) Tryz.func46 rfl (n:=11) Tryz.ntmps46 ?_;have S:Step allM w0 allM w0 aw:=(al _ _).bN (fun _ h=>h.elim) (fun _ _=>trivial);refine ai (ad (ah rfl rfl (ab (ai (ad (az qR rfl rfl rfl gb rfl (br (v':= .pointer (some ⟨sb,0,none⟩)) rfl (aC rfl ⟨_,rfl⟩ rfl (aB (o':=0) cr rfl rfl CG (by decide) rfl rfl (az cc rfl rfl rfl (by assumption) rfl (ae rfl rfl ?_)))))))))));refine Rg.nf (R:=ng) cc (int_keyed an) HW rfl rfl rfl rfl (keyOf_int_mk an (uK (by omega))) hr.m (fun v ps hv=>?_);rw[atKey_mem qx hm]at hv;obtain rfl:=iV hv;refine Rg.sC Tryz.underlying97 rfl ⟨_,rfl⟩ rfl rfl (ah rfl rfl (ab (aI ?_)));exact aO rfl rfl ⟨rfl,rfl⟩
theorem zf {B sb mb:Nat} {u:Value} {n:Int} {ml:List (Int×Nat)} {fr:List Int} {xs:List Int} {va:Value} (w0:World) (hs:St w0 B sb mb u n ml fr) {bx:Nat} (gb:w0.heap[bx]? =some (.cells #[.pointer (some ⟨sb,0,none⟩)] 23 (0,0))) (hv:((RT.int .i64).sl).V aw w0 xs va) (hx:∀x∈xs,∃hb c x',(x,hb)∈ml∧dK w0 hb c x'):
  Spec Tryz.prog 95 #[va,.func (.func 46) #[] #[.pointer (some ⟨bx,0,none⟩)]] w0 (fun v w=>v= .int .i64 (-1)∧w=w0):=by
 have hlen:=eR hv;refine aR (args:=[_,_]) (fn:=Tryz.f95) Tryz.func95 rfl (n:=19) Tryz.ntmps95 (ai (ad (ah rfl rfl (ab (ai (ai (ad (ae rfl rfl (bM ar rfl hv rfl (ae rfl rfl (ab ?_)))))))))));refine a7 ?_;refine dd (σ:=Nat) (fun i=>[(0,va),(1,.func (.func 46) #[] #[.pointer (some ⟨bx,0,none⟩)]),(6,va),(7,.int .i64 (xs.length:Int)),(8,.int .i64 (i:Int))]) (fun i w=>i≤xs.length∧w=w0) (fun i=>xs.length-i) 0 (.cons rfl (.cons rfl (.cons rfl (.cons rfl (.cons rfl .nil))))) ?_ ?_
 ·exact⟨bG _,rfl⟩
 ·rintro i w ⟨hi,rfl⟩;refine ai (ad (bY rfl rfl rfl (ab (ai ?_))));refine bK rfl (fun c2=>?_) (fun c2=>?_)
  ·refine aT (ai (a7 (ai (ad (ae rfl rfl (ah rfl rfl (ab (ai (ad (ae rfl rfl (ae rfl rfl ?_)))))))))));refine ae rfl rfl ?_;refine dq (M:=aw) ar I3 rfl rfl rfl hv (aq _ _) (by omega) (fun u4 o yA ED=>?_);rw[aG]at yA;refine bZ (M:=aw) an rfl rfl rfl rfl rfl ED (aq _ _) (fun v4 pz=>?_);obtain⟨rfl,_,_⟩:=yD.1 pz;obtain⟨hb,c,x',hm,h0⟩:=hx _ (aN yA);refine Rg.nY (first:=[]) (captured:=[.pointer (some ⟨bx,0,none⟩)]) rfl rfl rfl E46 (Bi _ hs hm h0 gb) (fun r5 w5 hc=>?_);obtain⟨rfl,rfl⟩:=hc;refine ab (fL rfl (aT (ad (bA rfl rfl rfl (by omega) (ae rfl rfl (ab ?_))))));refine⟨rfl,i+1,(.cons rfl (.cons rfl (.cons rfl (.cons rfl (.cons rfl .nil))))),?_,?_⟩
   ·exact⟨by omega,rfl⟩
   ·omega
  ·refine cB (ai (ad (ah rfl rfl (ab (aI ?_)))));exact aO rfl rfl ⟨rfl,rfl⟩
theorem xK {B sb mb:Nat} {u:Value} {n:Int} {ml:List (Int×Nat)} {fr:List Int} {xs:List Int} {va:Value} (w0:World) (hs:St w0 B sb mb u n ml fr) {bx:Nat} (gb:w0.heap[bx]? =some (.cells #[.pointer (some ⟨sb,0,none⟩)] 23 (0,0))) (hv:((RT.int .i64).sl).V aw w0 xs va) (hx:∀x∈xs,∃hb c x',(x,hb)∈ml∧dK w0 hb c x'):
  Spec Tryz.prog 45 #[va,.func (.func 46) #[] #[.pointer (some ⟨bx,0,none⟩)]] w0 (fun v w=>v= .bool false∧w=w0):=by
 refine aR (args:=[_,_]) (fn:=Tryz.f45) Tryz.func45 rfl (n:=9) Tryz.ntmps45 (ai (ad (ah rfl rfl (ab (ai (ad (ae rfl rfl (ae rfl rfl ?_))))))));refine aJ rfl rfl E95 (zf _ hs gb hv hx) (fun r1 w1 hc=>?_);obtain⟨rfl,rfl⟩:=hc;refine dh rfl rfl rfl (ah rfl rfl (ab (aI ?_)));exact aO rfl rfl ⟨rfl,rfl⟩
theorem Fw {k:Int} {v:Value} (w0:World) (hv:((RT.int .i64).sl).V aw w0 [] v):
  Spec Tryz.prog 96 #[v,.int .i64 k] w0 (fun v w=>v= .int .i64 (-1)∧w=w0):=by
 refine aR (args:=[_,_]) (fn:=Tryz.f96) Tryz.func96 rfl (n:=19) Tryz.ntmps96 (ai (ad (ah rfl rfl (ab (ai (ai (ad (ae rfl rfl (bM ar rfl hv rfl (ae rfl rfl (ab ?_)))))))))));refine a7 ?_;refine dd (σ:=Unit) (fun _=>[(6,v),(7,.int .i64 0),(8,.int .i64 0)]) (fun _ w=>w=w0) (fun _=>0) () (.cons rfl (.cons rfl (.cons rfl .nil))) ?_ ?_
 ·rfl
 ·rintro _ w rfl;refine ai (ad (bY rfl rfl rfl (ab (ai (mC rfl ((by decide)) (cB (ai (ad (ah rfl rfl (ab (aI ?_)))))))))));exact aO rfl rfl ⟨rfl,rfl⟩
theorem DS {k:Int} {v:Value} (w0:World) (hv:((RT.int .i64).sl).V aw w0 [] v):
  Spec Tryz.prog 47 #[v,.int .i64 k] w0 (fun v w=>v= .bool false∧w=w0):=by
 refine aR (args:=[_,_]) (fn:=Tryz.f47) Tryz.func47 rfl (n:=9) Tryz.ntmps47 (ai (ad (ah rfl rfl (ab (ai (ad (ae rfl rfl (ae rfl rfl ?_))))))));refine aJ rfl rfl E96 (Fw _ hv) (fun r1 w1 hc=>?_);obtain⟨rfl,rfl⟩:=hc;refine dh rfl rfl rfl (ah rfl rfl (ab (aI ?_)));exact aO rfl rfl ⟨by simp,rfl⟩
end Go.K
namespace Go.K
def Kg {α:Type} (A:RT α) (M:aD) (w:World) (v:Value) (x:α):Prop:=∃b o vs,v= .pointer (some ⟨b,o,none⟩)∧A.R M w x vs∧w.rangeAt b o vs
theorem Own.elem {α:Type} {A:RT α} {e:TypeId} {M:aD} {w:World} {base:Nat} {v:Value} {xs:List α} (h:Own A e M w base v xs) (hA:0<A.n) {i:Nat} {x:α} (hx:xs[i]? =some x):
  ∃g cap vs,v= .slice (some ⟨g,0,none⟩) xs.length cap∧M g∧A.R M w x vs∧w.rangeAt g (i*A.n) vs:=by
 obtain⟨⟨C,hr,ha⟩,hm⟩:=h;rcases hr.2 with⟨h1,h2⟩|⟨g,cap,cur,h1,h2,h3,h4,h5,h6,h7⟩
 ·have:xs=[]:=List.eq_nil_of_length_eq_zero h2;subst this;simp at hx
 ·obtain⟨vs,hv,hj⟩:=ha.at_ i x hx;refine⟨g,cap,vs,h1,hm g (by rw[h1];rfl),hv,fun j u hu=>?_⟩;have h8:=hj j u hu;rw[←h7,dm]at h8
  split at h8
  ·simp only[World.cell?,h3];simpa using h8
  ·cases h8
section
variable {P:Program} {r:Option Nat} {n:Nat} {L:Sl} {ds:List Deferred} {w:World} {K:Kt} {ops:Array Oper} {rest:List Oper} {d:Nat} {x y:Operand} {ty:TypeId} {pos:String} {af:Array Edge} {α:Type} {A:RT α}
theorem Rg.VI {t e e':TypeId} {i:Operand} {κ:IntKind} {j:Int} {M:aD} {base:Nat} {xs:List α} {v zv:Value} {bytes:Nat} (ht:P.underlying t=some (.slice e)) (hi:TI P e zv A.n bytes) (hA:0<A.n)
  (hx:ev L x=some v) (H8:ev L i=some (.int κ j)) (hd:Nat.blt d n=true) (ho:Own A e' M w base v xs) (hj:0≤j∧j<xs.length)
  (k:∀u a,xs[j.toNat]? =some a→Kg A M w u a→Rg P r n ops rest ((d,u)::L) ds w K):
  Rg P r n ops ({dst:=some d,op:= .indexAddr t x i,type:=ty,pos,after:=af,guard:=none}::rest) L ds w K:=by
 have dA:j.toNat<xs.length:=by omega
 obtain⟨g,cap,vs,rfl,hm,h1,h2⟩:=ho.elem hA (aK dA);refine .op (fun _ h=>by cases h) rfl rfl hd (.pointer (some ⟨g,0+j.toNat*A.n,none⟩)) w (fun ρ h=>?_) (k _ xs[j.toNat] (aK dA) ⟨g,_,vs,rfl,h1,by rw[Nat.zero_add];exact h2⟩);simp only[execOp,h x _ hx,h i _ H8];simp[Instr.indexAt,run_underlying ht,asIntOf,hj,hi.sizeOf,Addr.add_mid]
theorem Rg.Fx {t:TypeId} {fs:TypeDesc} {zv:Value} {bytes:Nat} {M:aD} {p:Value} {a:α} (hu:P.underlying t=some fs) (hf:fs.isRow=true) (hi:TI P t zv A.n bytes) (hg:A.agg=true)
  (hx:ev L x=some p) (hd:Nat.blt d n=true) (hp:Kg A M w p a) (k:∀v,A.V M w a v→Rg P r n ops rest ((d,v)::L) ds w K):
  Rg P r n ops ({dst:=some d,op:= .load t x,type:=ty,pos,after:=af,guard:=none}::rest) L ds w K:=by
 obtain⟨b,o,vs,rfl,h1,h2⟩:=hp;refine .op (fun _ h=>by cases h) rfl rfl hd (.agg vs.toArray) w (fun ρ h=>?_) (k _ ⟨vs,h1,by simp[RT.val,hg]⟩);simp only[execOp,h x _ hx];obtain⟨i,vB,_,AQ,_⟩:=hi.get;have:=run_loadAt_mid (P:=P) w b o t vs fs h2 hu hf (by simp[vB,AQ,A.len h1]);simp[this]
end
end Go.K
namespace Go.K
variable {P:Program} {r:Option Nat} {n:Nat} {L:Sl} {ds:List Deferred} {w:World} {K:Kt} {ops:Array Oper} {rest:List Oper} {d:Nat} {x y:Operand} {ty:TypeId} {pos:String} {af:Array Edge} {α:Type} {A:RT α}
def DT {α:Type} (A:RT α):Prop:=∀(M M':aD) (w w':World) (x:α) (vs:List Value),A.R M w x vs→A.R M' w' x vs
theorem eB.Ma {M M':aD} {w w':World} (hA:DT A):∀{xs:List α} {C:List Value},eB A M w xs C→eB A M' w' xs C
 |[],_,h=>h
 |_::_,_,⟨vs,rest,h1,h2,h3⟩=>⟨vs,rest,h1,hA _ _ _ _ _ _ h2,eB.Ma hA h3⟩
theorem Own.CI {e:TypeId} {M:aD} {base b:Nat} {v:Value} {xs:List α} (h:Own A e M w base v xs) (hb:v.ownBlock=some b):∃cs,w.heap[b]? =some (.cells cs e (0,0)):=by
 obtain⟨⟨C,hr,_⟩,_⟩:=h;rcases hr.2 with⟨h1,h2⟩|⟨g,cap,cur,h1,h2,h3,_⟩
 ·rw[h1]at hb;cases hb
 ·rw[h1]at hb;cases hb;exact⟨_,h3⟩
end Go.K
namespace Go.K
theorem Own.Mc {α:Type} {A:RT α} (hA:DT A) {e:TypeId} {M:aD} {w:World} {base:Nat} {v:Value} {xs:List α} (h:Own A e M w base v xs) {M':aD} (hm:∀b,v.ownBlock=some b→M' b):Own A e M' w base v xs:=by
 obtain⟨⟨C,h1,h2⟩,_⟩:=h;exact⟨⟨C,h1,h2.Ma hA⟩,hm⟩
theorem Own.lp {α:Type} {A:RT α} (hA:DT A) {e:TypeId} {N:aD} {w w':World} {base:Nat} {v:Value} {xs:List α} (h:Own A e allM w base v xs) (s:Step allM w allM w' N) (hn:∀b,v.ownBlock=some b→¬N b):Own A e allM w' base v xs:=by
 obtain⟨⟨C,h1,h2⟩,_⟩:=h;refine⟨⟨C,⟨h1.1,?_⟩,h2.Ma hA⟩,fun _ _=>trivial⟩;rcases h1.2 with h3|⟨g,cap,cur,h3,h4,h5,h6,h7,h8⟩
 ·exact .inl h3
 ·exact .inr ⟨g,cap,cur,h3,h4,by rw[s.same g (aj h5) (hn g (by rw[h3];rfl))];exact h5,h6,h7,h8⟩
theorem Own.Kh {α:Type} {A:RT α} (hA:DT A) {e:TypeId} {M:aD} {w:World} {base:Nat} {v:Value} {xs:List α} (h:Own A e M w base v xs):Own A e (jo v) w base v xs:=h.Mc hA fun _ h=>h
def Kp (Q:aD) (B:Nat) (w:World):aD:=fun k=>Q k∨(B≤k∧k<w.heap.size)
theorem Kp.le {Q N:aD} {B:Nat} {w w':World} (s:Step allM w allM w' N) (hN:∀b,N b→Q b∨B≤b):Le (Kp Q B w) w (Kp Q B w') w':=fun b hb hm=>
 ⟨fun h=>hm (h.imp id fun h=>⟨h.1,hb⟩),s.same b hb fun h=>hm ((hN b h).imp id fun h=>⟨h,hb⟩)⟩
theorem Kp.Bj {Q:aD} {B:Nat} {w w':World} (s:Step allM w allM w' aw):Le (Kp Q B w) w (Kp Q B w') w':=Kp.le s fun _ h=>h.elim
theorem Kp.lt {Q:aD} {B:Nat} {w:World} (h:∀b,Q b→b<w.heap.size):Lt (Kp Q B w) w:=fun b hb=>hb.elim (h b) fun h=>h.2
theorem Kp.start {Q:aD} {B:Nat} {w:World} (h:w.heap.size≤B):Le Q w (Kp Q B w) w:=fun b hb hm=>⟨fun h=>h.elim hm fun h=>by omega,rfl⟩
theorem Le.sub {Q Q':aD} {w:World} (h:∀b,Q' b→Q b):Le Q w Q' w:=fun b hb hm=>⟨fun hq=>hm (h b hq),rfl⟩
end Go.K
namespace Go.K
open Go.Proofs
set_option maxRecDepth 10000
def eG (c:Int):Bool:=decide ((97≤c∧c≤122)∨(65≤c∧c≤90)∨(192≤c∧c≤591∧c≠215∧c≠247))
def l1 (c:Int):Bool:=decide (48≤c∧c≤57)
def eK (c:Int):Int:=if(65≤c∧c≤90)∨(192≤c∧c≤222∧c≠215)then c+32 else c
theorem zg (c:Int) (w0:World):
  Spec Tryz.prog 225 #[.int .i64 c] w0 (fun v w=>v= .bool (eG c)∧w=w0):=by
 refine aR (args:=[_]) (fn:=Tryz.f225) Tryz.func225 rfl (n:=33) Tryz.ntmps225 (ai (ad (ah rfl rfl (ab (ai (ad (ae rfl rfl (dh rfl rfl rfl (ae rfl rfl ?_)))))))));refine aL (g:=5) rfl (fun fu=>?_) (fun fu=>?_)
 ·refine ak rfl rfl (ae rfl rfl (ak rfl rfl (fc rfl rfl rfl (aP rfl rfl rfl (ae rfl rfl ?_)))));refine aL (g:=9) rfl (fun xL=>?_) (fun xL=>?_)
  ·refine ao rfl rfl rfl rfl (ao rfl rfl rfl rfl (ao rfl rfl rfl rfl (b4 rfl rfl rfl (b4 rfl rfl rfl (ao rfl rfl rfl rfl (aP rfl rfl rfl (ae rfl rfl (ao rfl rfl rfl rfl (ao rfl rfl rfl rfl (ao rfl rfl rfl rfl (b4 rfl rfl rfl ?_)))))))))));refine b4 rfl rfl rfl (ao rfl rfl rfl rfl (ao rfl rfl rfl rfl (b4 rfl rfl rfl (b4 rfl rfl rfl (ao rfl rfl rfl rfl (ao rfl rfl rfl rfl (b4 rfl rfl rfl (b4 rfl rfl rfl (ao rfl rfl rfl rfl (aP rfl rfl rfl (ah rfl rfl ?_)))))))))));refine ab (aI ?_);exact aO rfl rfl ⟨by simp only[eG];first|rfl|(congr 1;first|(exact(decide_eq_true (by omega)).symm)|(exact(decide_eq_false (by omega)).symm)|(exact decide_eq_decide.2 (by omega))),rfl⟩
  ·refine ak rfl rfl (ae rfl rfl (ak rfl rfl (dh rfl rfl rfl (ak rfl rfl (ae rfl rfl ?_)))));refine aL (g:=12) rfl (fun oT=>?_) (fun oT=>?_)
   ·refine ak rfl rfl (ae rfl rfl (ak rfl rfl (fc rfl rfl rfl (ak rfl rfl (aP rfl rfl rfl (av rfl rfl rfl (ae rfl rfl ?_)))))));refine aL (g:=17) rfl (fun tc=>?_) (fun tc=>?_)
    ·refine ao rfl rfl rfl rfl (ao rfl rfl rfl rfl (ao rfl rfl rfl rfl (b4 rfl rfl rfl (b4 rfl rfl rfl (ao rfl rfl rfl rfl (ao rfl rfl rfl rfl (b4 rfl rfl rfl (b4 rfl rfl rfl (ao rfl rfl rfl rfl (ao rfl rfl rfl rfl (b4 rfl rfl rfl ?_)))))))))));refine b4 rfl rfl rfl (ao rfl rfl rfl rfl (aP rfl rfl rfl (ah rfl rfl (ab (aI ?_)))));exact aO rfl rfl ⟨by simp only[eG];first|rfl|(congr 1;first|(exact(decide_eq_true (by omega)).symm)|(exact(decide_eq_false (by omega)).symm)|(exact decide_eq_decide.2 (by omega))),rfl⟩
    ·refine ak rfl rfl (ae rfl rfl (ak rfl rfl (dh rfl rfl rfl (ak rfl rfl (ae rfl rfl ?_)))));refine aL (g:=20) rfl (fun j5=>?_) (fun j5=>?_)
     ·refine ak rfl rfl (ae rfl rfl (ak rfl rfl (fc rfl rfl rfl (ak rfl rfl (aP rfl rfl rfl (ak rfl rfl (ae rfl rfl ?_)))))));refine aL (g:=24) rfl (fun td=>?_) (fun td=>?_)
      ·refine ak rfl rfl (ae rfl rfl (ak rfl rfl (eg rfl rfl rfl (ak rfl rfl (aP rfl rfl rfl (ak rfl rfl (ae rfl rfl ?_)))))));refine aL (g:=28) rfl (fun te=>?_) (fun te=>?_)
       ·refine ak rfl rfl (ae rfl rfl (ak rfl rfl (eg rfl rfl rfl (ak rfl rfl (aP rfl rfl rfl (av rfl rfl rfl (ah rfl rfl (ab (aI ?_)))))))));exact aO rfl rfl ⟨by simp only[eG];first|rfl|(congr 1;first|(exact(decide_eq_true (by omega)).symm)|(exact(decide_eq_false (by omega)).symm)|(exact decide_eq_decide.2 (by omega))),rfl⟩
       ·refine ao rfl rfl rfl rfl (ao rfl rfl rfl rfl (ak rfl rfl (av rfl rfl rfl (av rfl rfl rfl (ah rfl rfl (ab (aI ?_)))))));exact aO rfl rfl ⟨by simp only[eG];first|rfl|(congr 1;first|(exact(decide_eq_true (by omega)).symm)|(exact(decide_eq_false (by omega)).symm)|(exact decide_eq_decide.2 (by omega))),rfl⟩
      ·refine ao rfl rfl rfl rfl (ao rfl rfl rfl rfl (ak rfl rfl (av rfl rfl rfl (ak rfl rfl (ae rfl rfl (ao rfl rfl rfl rfl (ao rfl rfl rfl rfl (ak rfl rfl (av rfl rfl rfl (av rfl rfl rfl (ah rfl rfl ?_)))))))))));refine ab (aI ?_);exact aO rfl rfl ⟨by simp only[eG];first|rfl|(congr 1;first|(exact(decide_eq_true (by omega)).symm)|(exact(decide_eq_false (by omega)).symm)|(exact decide_eq_decide.2 (by omega))),rfl⟩
     ·refine ao rfl rfl rfl rfl (ao rfl rfl rfl rfl (ak rfl rfl (av rfl rfl rfl (ak rfl rfl (ae rfl rfl (ao rfl rfl rfl rfl (ao rfl rfl rfl rfl (ak rfl rfl (av rfl rfl rfl (ak rfl rfl (ae rfl rfl ?_)))))))))));refine ao rfl rfl rfl rfl (ao rfl rfl rfl rfl (ak rfl rfl (av rfl rfl rfl (av rfl rfl rfl (ah rfl rfl (ab (aI ?_)))))));exact aO rfl rfl ⟨by simp only[eG];first|rfl|(congr 1;first|(exact(decide_eq_true (by omega)).symm)|(exact(decide_eq_false (by omega)).symm)|(exact decide_eq_decide.2 (by omega))),rfl⟩
   ·refine ao rfl rfl rfl rfl (ao rfl rfl rfl rfl (ak rfl rfl (av rfl rfl rfl (av rfl rfl rfl (ae rfl rfl (ak rfl rfl (ae rfl rfl (ak rfl rfl (dh rfl rfl rfl (ak rfl rfl (ae rfl rfl ?_)))))))))));refine aL (g:=20) rfl (fun j5=>?_) (fun j5=>?_)
    ·refine ak rfl rfl (ae rfl rfl (ak rfl rfl (fc rfl rfl rfl (ak rfl rfl (aP rfl rfl rfl (ak rfl rfl (ae rfl rfl ?_)))))));refine aL (g:=24) rfl (fun td=>?_) (fun td=>?_)
     ·refine ak rfl rfl (ae rfl rfl (ak rfl rfl (eg rfl rfl rfl (ak rfl rfl (aP rfl rfl rfl (ak rfl rfl (ae rfl rfl ?_)))))));refine aL (g:=28) rfl (fun te=>?_) (fun te=>?_)
      ·refine ak rfl rfl (ae rfl rfl (ak rfl rfl (eg rfl rfl rfl (ak rfl rfl (aP rfl rfl rfl (av rfl rfl rfl (ah rfl rfl (ab (aI ?_)))))))));exact aO rfl rfl ⟨by simp only[eG];first|rfl|(congr 1;first|(exact(decide_eq_true (by omega)).symm)|(exact(decide_eq_false (by omega)).symm)|(exact decide_eq_decide.2 (by omega))),rfl⟩
      ·refine ao rfl rfl rfl rfl (ao rfl rfl rfl rfl (ak rfl rfl (av rfl rfl rfl (av rfl rfl rfl (ah rfl rfl (ab (aI ?_)))))));exact aO rfl rfl ⟨by simp only[eG];first|rfl|(congr 1;first|(exact(decide_eq_true (by omega)).symm)|(exact(decide_eq_false (by omega)).symm)|(exact decide_eq_decide.2 (by omega))),rfl⟩
     ·refine ao rfl rfl rfl rfl (ao rfl rfl rfl rfl (ak rfl rfl (av rfl rfl rfl (ak rfl rfl (ae rfl rfl (ao rfl rfl rfl rfl (ao rfl rfl rfl rfl (ak rfl rfl (av rfl rfl rfl (av rfl rfl rfl (ah rfl rfl ?_)))))))))));refine ab (aI ?_);exact aO rfl rfl ⟨by simp only[eG];first|rfl|(congr 1;first|(exact(decide_eq_true (by omega)).symm)|(exact(decide_eq_false (by omega)).symm)|(exact decide_eq_decide.2 (by omega))),rfl⟩
    ·refine ao rfl rfl rfl rfl (ao rfl rfl rfl rfl (ak rfl rfl (av rfl rfl rfl (ak rfl rfl (ae rfl rfl (ao rfl rfl rfl rfl (ao rfl rfl rfl rfl (ak rfl rfl (av rfl rfl rfl (ak rfl rfl (ae rfl rfl ?_)))))))))));refine ao rfl rfl rfl rfl (ao rfl rfl rfl rfl (ak rfl rfl (av rfl rfl rfl (av rfl rfl rfl (ah rfl rfl (ab (aI ?_)))))));exact aO rfl rfl ⟨by simp only[eG];first|rfl|(congr 1;first|(exact(decide_eq_true (by omega)).symm)|(exact(decide_eq_false (by omega)).symm)|(exact decide_eq_decide.2 (by omega))),rfl⟩
 ·refine ao rfl rfl rfl rfl (ao rfl rfl rfl rfl (av rfl rfl rfl (ae rfl rfl (ak rfl rfl (ae rfl rfl (ak rfl rfl (dh rfl rfl rfl (ak rfl rfl (ae rfl rfl ?_)))))))));refine aL (g:=12) rfl (fun oT=>?_) (fun oT=>?_)
  ·refine ak rfl rfl (ae rfl rfl (ak rfl rfl (fc rfl rfl rfl (ak rfl rfl (aP rfl rfl rfl (av rfl rfl rfl (ae rfl rfl ?_)))))));refine aL (g:=17) rfl (fun tc=>?_) (fun tc=>?_)
   ·refine ao rfl rfl rfl rfl (ao rfl rfl rfl rfl (ao rfl rfl rfl rfl (b4 rfl rfl rfl (b4 rfl rfl rfl (ao rfl rfl rfl rfl (ao rfl rfl rfl rfl (b4 rfl rfl rfl (b4 rfl rfl rfl (ao rfl rfl rfl rfl (ao rfl rfl rfl rfl (b4 rfl rfl rfl ?_)))))))))));refine b4 rfl rfl rfl (ao rfl rfl rfl rfl (aP rfl rfl rfl (ah rfl rfl (ab (aI ?_)))));exact aO rfl rfl ⟨by simp only[eG];first|rfl|(congr 1;first|(exact(decide_eq_true (by omega)).symm)|(exact(decide_eq_false (by omega)).symm)|(exact decide_eq_decide.2 (by omega))),rfl⟩
   ·refine ak rfl rfl (ae rfl rfl (ak rfl rfl (dh rfl rfl rfl (ak rfl rfl (ae rfl rfl ?_)))));refine aL (g:=20) rfl (fun j5=>?_) (fun j5=>?_)
    ·refine ak rfl rfl (ae rfl rfl (ak rfl rfl (fc rfl rfl rfl (ak rfl rfl (aP rfl rfl rfl (ak rfl rfl (ae rfl rfl ?_)))))));refine aL (g:=24) rfl (fun td=>?_) (fun td=>?_)
     ·refine ak rfl rfl (ae rfl rfl (ak rfl rfl (eg rfl rfl rfl (ak rfl rfl (aP rfl rfl rfl (ak rfl rfl (ae rfl rfl ?_)))))));refine aL (g:=28) rfl (fun te=>?_) (fun te=>?_)
      ·refine ak rfl rfl (ae rfl rfl (ak rfl rfl (eg rfl rfl rfl (ak rfl rfl (aP rfl rfl rfl (av rfl rfl rfl (ah rfl rfl (ab (aI ?_)))))))));exact aO rfl rfl ⟨by simp only[eG];first|rfl|(congr 1;first|(exact(decide_eq_true (by omega)).symm)|(exact(decide_eq_false (by omega)).symm)|(exact decide_eq_decide.2 (by omega))),rfl⟩
      ·refine ao rfl rfl rfl rfl (ao rfl rfl rfl rfl (ak rfl rfl (av rfl rfl rfl (av rfl rfl rfl (ah rfl rfl (ab (aI ?_)))))));exact aO rfl rfl ⟨by simp only[eG];first|rfl|(congr 1;first|(exact(decide_eq_true (by omega)).symm)|(exact(decide_eq_false (by omega)).symm)|(exact decide_eq_decide.2 (by omega))),rfl⟩
     ·refine ao rfl rfl rfl rfl (ao rfl rfl rfl rfl (ak rfl rfl (av rfl rfl rfl (ak rfl rfl (ae rfl rfl (ao rfl rfl rfl rfl (ao rfl rfl rfl rfl (ak rfl rfl (av rfl rfl rfl (av rfl rfl rfl (ah rfl rfl ?_)))))))))));refine ab (aI ?_);exact aO rfl rfl ⟨by simp only[eG];first|rfl|(congr 1;first|(exact(decide_eq_true (by omega)).symm)|(exact(decide_eq_false (by omega)).symm)|(exact decide_eq_decide.2 (by omega))),rfl⟩
    ·refine ao rfl rfl rfl rfl (ao rfl rfl rfl rfl (ak rfl rfl (av rfl rfl rfl (ak rfl rfl (ae rfl rfl (ao rfl rfl rfl rfl (ao rfl rfl rfl rfl (ak rfl rfl (av rfl rfl rfl (ak rfl rfl (ae rfl rfl ?_)))))))))));refine ao rfl rfl rfl rfl (ao rfl rfl rfl rfl (ak rfl rfl (av rfl rfl rfl (av rfl rfl rfl (ah rfl rfl (ab (aI ?_)))))));exact aO rfl rfl ⟨by simp only[eG];first|rfl|(congr 1;first|(exact(decide_eq_true (by omega)).symm)|(exact(decide_eq_false (by omega)).symm)|(exact decide_eq_decide.2 (by omega))),rfl⟩
  ·refine ao rfl rfl rfl rfl (ao rfl rfl rfl rfl (ak rfl rfl (av rfl rfl rfl (av rfl rfl rfl (ae rfl rfl (ak rfl rfl (ae rfl rfl (ak rfl rfl (dh rfl rfl rfl (ak rfl rfl (ae rfl rfl ?_)))))))))));refine aL (g:=20) rfl (fun j5=>?_) (fun j5=>?_)
   ·refine ak rfl rfl (ae rfl rfl (ak rfl rfl (fc rfl rfl rfl (ak rfl rfl (aP rfl rfl rfl (ak rfl rfl (ae rfl rfl ?_)))))));refine aL (g:=24) rfl (fun td=>?_) (fun td=>?_)
    ·refine ak rfl rfl (ae rfl rfl (ak rfl rfl (eg rfl rfl rfl (ak rfl rfl (aP rfl rfl rfl (ak rfl rfl (ae rfl rfl ?_)))))));refine aL (g:=28) rfl (fun te=>?_) (fun te=>?_)
     ·refine ak rfl rfl (ae rfl rfl (ak rfl rfl (eg rfl rfl rfl (ak rfl rfl (aP rfl rfl rfl (av rfl rfl rfl (ah rfl rfl (ab (aI ?_)))))))));exact aO rfl rfl ⟨by simp only[eG];first|rfl|(congr 1;first|(exact(decide_eq_true (by omega)).symm)|(exact(decide_eq_false (by omega)).symm)|(exact decide_eq_decide.2 (by omega))),rfl⟩
     ·refine ao rfl rfl rfl rfl (ao rfl rfl rfl rfl (ak rfl rfl (av rfl rfl rfl (av rfl rfl rfl (ah rfl rfl (ab (aI ?_)))))));exact aO rfl rfl ⟨by simp only[eG];first|rfl|(congr 1;first|(exact(decide_eq_true (by omega)).symm)|(exact(decide_eq_false (by omega)).symm)|(exact decide_eq_decide.2 (by omega))),rfl⟩
    ·refine ao rfl rfl rfl rfl (ao rfl rfl rfl rfl (ak rfl rfl (av rfl rfl rfl (ak rfl rfl (ae rfl rfl (ao rfl rfl rfl rfl (ao rfl rfl rfl rfl (ak rfl rfl (av rfl rfl rfl (av rfl rfl rfl (ah rfl rfl ?_)))))))))));refine ab (aI ?_);exact aO rfl rfl ⟨by simp only[eG];first|rfl|(congr 1;first|(exact(decide_eq_true (by omega)).symm)|(exact(decide_eq_false (by omega)).symm)|(exact decide_eq_decide.2 (by omega))),rfl⟩
   ·refine ao rfl rfl rfl rfl (ao rfl rfl rfl rfl (ak rfl rfl (av rfl rfl rfl (ak rfl rfl (ae rfl rfl (ao rfl rfl rfl rfl (ao rfl rfl rfl rfl (ak rfl rfl (av rfl rfl rfl (ak rfl rfl (ae rfl rfl ?_)))))))))));refine ao rfl rfl rfl rfl (ao rfl rfl rfl rfl (ak rfl rfl (av rfl rfl rfl (av rfl rfl rfl (ah rfl rfl (ab (aI ?_)))))));exact aO rfl rfl ⟨by simp only[eG];first|rfl|(congr 1;first|(exact(decide_eq_true (by omega)).symm)|(exact(decide_eq_false (by omega)).symm)|(exact decide_eq_decide.2 (by omega))),rfl⟩
theorem Bk (c:Int) (w0:World):
  Spec Tryz.prog 226 #[.int .i64 c] w0 (fun v w=>v= .bool (l1 c)∧w=w0):=by
 refine aR (args:=[_]) (fn:=Tryz.f226) Tryz.func226 rfl (n:=9) Tryz.ntmps226 (ai (ad (ah rfl rfl (ab (ai (ad (ae rfl rfl (dh rfl rfl rfl (ae rfl rfl ?_)))))))));refine aL (g:=5) rfl (fun fu=>?_) (fun fu=>?_)
 ·refine ak rfl rfl (ae rfl rfl (ak rfl rfl (fc rfl rfl rfl (aP rfl rfl rfl (ah rfl rfl (ab (aI ?_)))))));exact aO rfl rfl ⟨by simp only[l1];first|rfl|(congr 1;first|(exact(decide_eq_true (by omega)).symm)|(exact(decide_eq_false (by omega)).symm)|(exact decide_eq_decide.2 (by omega))),rfl⟩
 ·refine ao rfl rfl rfl rfl (ao rfl rfl rfl rfl (av rfl rfl rfl (ah rfl rfl (ab (aI ?_)))));exact aO rfl rfl ⟨by simp only[l1];first|rfl|(congr 1;first|(exact(decide_eq_true (by omega)).symm)|(exact(decide_eq_false (by omega)).symm)|(exact decide_eq_decide.2 (by omega))),rfl⟩
theorem wk (c:Int) (w0:World) (hc:0≤c∧c≤1114111):
  Spec Tryz.prog 227 #[.int .i64 c] w0 (fun v w=>v= .int .i64 (eK c)∧w=w0):=by
 refine aR (args:=[_]) (fn:=Tryz.f227) Tryz.func227 rfl (n:=24) Tryz.ntmps227 (ai (ad (ah rfl rfl (ab (ai (ai (ad (ae rfl rfl (dh rfl rfl rfl (ae rfl rfl ?_))))))))));refine aL (g:=5) rfl (fun fu=>?_) (fun fu=>?_)
 ·refine ak rfl rfl (ae rfl rfl (ak rfl rfl (fc rfl rfl rfl (aP rfl rfl rfl (ae rfl rfl ?_)))));refine aL (g:=9) rfl (fun xL=>?_) (fun xL=>?_)
  ·refine ao rfl rfl rfl rfl (ao rfl rfl rfl rfl (ao rfl rfl rfl rfl (b4 rfl rfl rfl (b4 rfl rfl rfl (ao rfl rfl rfl rfl (ao rfl rfl rfl rfl (b4 rfl rfl rfl (b4 rfl rfl rfl (ao rfl rfl rfl rfl (aP rfl rfl rfl (ab ?_)))))))))));refine kY rfl (ai (ad (ae rfl rfl (bA rfl rfl rfl (by omega) (ah rfl rfl (ab (aI ?_)))))));exact aO rfl rfl ⟨by rw[eK,if_pos (by omega)],rfl⟩
  ·refine ak rfl rfl (ae rfl rfl (ak rfl rfl (dh rfl rfl rfl (ak rfl rfl (ae rfl rfl ?_)))));refine aL (g:=12) rfl (fun oT=>?_) (fun oT=>?_)
   ·refine ak rfl rfl (ae rfl rfl (ak rfl rfl (fc rfl rfl rfl (ak rfl rfl (aP rfl rfl rfl (ak rfl rfl (ae rfl rfl ?_)))))));refine aL (g:=16) rfl (fun Fy=>?_) (fun Fy=>?_)
    ·refine ak rfl rfl (ae rfl rfl (ak rfl rfl (eg rfl rfl rfl (ak rfl rfl (aP rfl rfl rfl (av rfl rfl rfl (ab ?_)))))));refine bK rfl (fun c1=>?_) (fun c1=>?_)
     ·refine ai (ad (ae rfl rfl (bA rfl rfl rfl (by omega) (ah rfl rfl (ab (aI ?_))))));exact aO rfl rfl ⟨by rw[eK,if_pos (by omega)],rfl⟩
     ·refine aT (ai (ad (ae rfl rfl (ah rfl rfl (ab (aI ?_))))));exact aO rfl rfl ⟨by rw[eK,if_neg (by omega)],rfl⟩
    ·refine ao rfl rfl rfl rfl (ao rfl rfl rfl rfl (ak rfl rfl (av rfl rfl rfl (av rfl rfl rfl (ab (fL rfl (aT (ai (ad (ae rfl rfl (ah rfl rfl ?_)))))))))));refine ab (aI ?_);exact aO rfl rfl ⟨by rw[eK,if_neg (by omega)],rfl⟩
   ·refine ao rfl rfl rfl rfl (ao rfl rfl rfl rfl (ak rfl rfl (av rfl rfl rfl (ak rfl rfl (ae rfl rfl (ao rfl rfl rfl rfl (ao rfl rfl rfl rfl (ak rfl rfl (av rfl rfl rfl (av rfl rfl rfl (ab ?_)))))))))));refine fL rfl (aT (ai (ad (ae rfl rfl (ah rfl rfl (ab (aI ?_)))))));exact aO rfl rfl ⟨by rw[eK,if_neg (by omega)],rfl⟩
 ·refine ao rfl rfl rfl rfl (ao rfl rfl rfl rfl (av rfl rfl rfl (ae rfl rfl (ak rfl rfl (ae rfl rfl (ak rfl rfl (dh rfl rfl rfl (ak rfl rfl (ae rfl rfl ?_)))))))));refine aL (g:=12) rfl (fun oT=>?_) (fun oT=>?_)
  ·refine ak rfl rfl (ae rfl rfl (ak rfl rfl (fc rfl rfl rfl (ak rfl rfl (aP rfl rfl rfl (ak rfl rfl (ae rfl rfl ?_)))))));refine aL (g:=16) rfl (fun Fy=>?_) (fun Fy=>?_)
   ·refine ak rfl rfl (ae rfl rfl (ak rfl rfl (eg rfl rfl rfl (ak rfl rfl (aP rfl rfl rfl (av rfl rfl rfl (ab ?_)))))));refine bK rfl (fun c1=>?_) (fun c1=>?_)
    ·refine ai (ad (ae rfl rfl (bA rfl rfl rfl (by omega) (ah rfl rfl (ab (aI ?_))))));exact aO rfl rfl ⟨by rw[eK,if_pos (by omega)],rfl⟩
    ·refine aT (ai (ad (ae rfl rfl (ah rfl rfl (ab (aI ?_))))));exact aO rfl rfl ⟨by rw[eK,if_neg (by omega)],rfl⟩
   ·refine ao rfl rfl rfl rfl (ao rfl rfl rfl rfl (ak rfl rfl (av rfl rfl rfl (av rfl rfl rfl (ab (fL rfl (aT (ai (ad (ae rfl rfl (ah rfl rfl ?_)))))))))));refine ab (aI ?_);exact aO rfl rfl ⟨by rw[eK,if_neg (by omega)],rfl⟩
  ·refine ao rfl rfl rfl rfl (ao rfl rfl rfl rfl (ak rfl rfl (av rfl rfl rfl (ak rfl rfl (ae rfl rfl (ao rfl rfl rfl rfl (ao rfl rfl rfl rfl (ak rfl rfl (av rfl rfl rfl (av rfl rfl rfl (ab ?_)))))))))));refine fL rfl (aT (ai (ad (ae rfl rfl (ah rfl rfl (ab (aI ?_)))))));exact aO rfl rfl ⟨by rw[eK,if_neg (by omega)],rfl⟩
end Go.K
namespace Go.Proofs
open Go.Shelf
def Tryz.rh:Go.Shelf.Ren:=⟨fun|169=>267|n=>n,fun|70=>334|9=>9|0=>0|72=>336|37=>204|127=>358|3=>3|5=>5|n=>n,fun|n=>n⟩
theorem Tryz.IC:Go.Proofs.Lays.n169 Tryz.prog Tryz.rh:={
 mixed:=by kernel_rfl
 f169:=Tryz.func267.trans (congrArg some (by kernel_rfl))
 t0:=gX
 a0:=rQ
 z0:=ov
 v0:=iP
 t3:=an
 a3:=rR
 z3:=ox
 v3:=iQ
 t9:=aF
 a9:=rS
 z9:=oy
 v9:=iR
 t37:=bp
 a37:=Tryz.isAgg204
 z37:=Tryz.sizeOf204
 v37:=Tryz.zeroValue204
 t70:=Tryz.underlying334
 a70:=Tryz.isAgg334
 z70:=Tryz.sizeOf334
 v70:=Tryz.zeroValue334
 t72:=Tryz.underlying336
 a72:=Tryz.isAgg336
 z72:=Tryz.sizeOf336
 v72:=Tryz.zeroValue336
 t127:=Tryz.underlying358
 a127:=Tryz.isAgg358
 z127:=Tryz.sizeOf358
 v127:=Tryz.zeroValue358}
def Tryz.zh:Go.Shelf.Ren:=⟨fun|119=>290|n=>n,fun|21=>21|4=>4|n=>n,fun|n=>n⟩
theorem Tryz.ID:Go.Proofs.Lays.n119 Tryz.prog Tryz.zh:={
 mixed:=by kernel_rfl
 f119:=Tryz.func290.trans (congrArg some (by kernel_rfl))
 t4:=gY
 a4:=Tryz.isAgg4
 z4:=Tryz.sizeOf4
 v4:=o4
 t21:=Tryz.underlying21
 a21:=Tryz.isAgg21
 z21:=Tryz.sizeOf21
 v21:=Tryz.zeroValue21}
def Tryz.zi:Go.Shelf.Ren:=⟨fun|106=>137|213=>189|265=>239|n=>n,fun|9=>9|3=>3|n=>n,fun|n=>n⟩
theorem Tryz.IE:Go.Proofs.Lays.n106 Tryz.prog Tryz.zi:={
 mixed:=by kernel_rfl
 f106:=Tryz.func137.trans (congrArg some (by kernel_rfl))
 f213:=Tryz.func189.trans (congrArg some (by kernel_rfl))
 f265:=Tryz.func239.trans (congrArg some (by kernel_rfl))
 t3:=an
 a3:=rR
 z3:=ox
 v3:=iQ
 t9:=aF
 a9:=rS
 z9:=oy
 v9:=iR}
theorem Tryz.pA:Builder.Extra Tryz.prog Tryz.rh:={
 sizeBuilder:=by kernel_rfl
 liesBuilder:=by kernel_rfl
 t5:=cd
 a5:=Tryz.isAgg5
 z5:=Tryz.sizeOf5
 v5:=Tryz.zeroValue5
 infoByte:=by kernel_rfl
 cellsByte:=by kernel_rfl
 sizeByte:=by kernel_rfl
 neB5:=by decide}
def Tryz.ri:Go.Shelf.Ren:=⟨fun|168=>265|240=>288|242=>289|276=>298|278=>299|n=>n,fun|0=>0|3=>3|4=>4|5=>5|9=>9|20=>20|21=>21|37=>204|46=>189|51=>257|70=>334|72=>336|75=>338|80=>342|164=>363|n=>n,fun|n=>n⟩
theorem Tryz.IF:Go.Proofs.Lays.n168 Tryz.prog Tryz.ri:={
 mixed:=by kernel_rfl
 f168:=Tryz.func265.trans (congrArg some (by kernel_rfl))
 f240:=Tryz.func288.trans (congrArg some (by kernel_rfl))
 f242:=Tryz.func289.trans (congrArg some (by kernel_rfl))
 f276:=Tryz.func298.trans (congrArg some (by kernel_rfl))
 f278:=Tryz.func299.trans (congrArg some (by kernel_rfl))
 t0:=gX
 a0:=rQ
 z0:=ov
 v0:=iP
 t3:=an
 a3:=rR
 z3:=ox
 v3:=iQ
 t4:=gY
 a4:=Tryz.isAgg4
 z4:=Tryz.sizeOf4
 v4:=o4
 t5:=cd
 a5:=Tryz.isAgg5
 z5:=Tryz.sizeOf5
 v5:=Tryz.zeroValue5
 t9:=aF
 a9:=rS
 z9:=oy
 v9:=iR
 t20:=Tryz.underlying20
 a20:=Tryz.isAgg20
 z20:=Tryz.sizeOf20
 v20:=Tryz.zeroValue20
 t21:=Tryz.underlying21
 a21:=Tryz.isAgg21
 z21:=Tryz.sizeOf21
 v21:=Tryz.zeroValue21
 t37:=bp
 a37:=Tryz.isAgg204
 z37:=Tryz.sizeOf204
 v37:=Tryz.zeroValue204
 t46:=Tryz.underlying189
 a46:=Tryz.isAgg189
 z46:=Tryz.sizeOf189
 v46:=Tryz.zeroValue189
 t51:=Tryz.underlying257
 a51:=Tryz.isAgg257
 z51:=Tryz.sizeOf257
 v51:=Tryz.zeroValue257
 t70:=Tryz.underlying334
 a70:=Tryz.isAgg334
 z70:=Tryz.sizeOf334
 v70:=Tryz.zeroValue334
 t72:=Tryz.underlying336
 a72:=Tryz.isAgg336
 z72:=Tryz.sizeOf336
 v72:=Tryz.zeroValue336
 t75:=Tryz.underlying338
 a75:=Tryz.isAgg338
 z75:=Tryz.sizeOf338
 v75:=Tryz.zeroValue338
 t164:=Tryz.underlying363
 a164:=Tryz.isAgg363
 z164:=Tryz.sizeOf363
 v164:=Tryz.zeroValue363}
theorem Tryz.pB:Builder.Extra Tryz.prog Tryz.ri where
 sizeBuilder:=by kernel_rfl
 liesBuilder:=by kernel_rfl
 t5:=cd
 a5:=Tryz.isAgg5
 z5:=Tryz.sizeOf5
 v5:=Tryz.zeroValue5
 infoByte:=by kernel_rfl
 cellsByte:=by kernel_rfl
 sizeByte:=by kernel_rfl
 neB5:=by decide
end Go.Proofs
namespace Go.K
open Go.Proofs
set_option maxRecDepth 10000
open Go.RowKit Go.Shelf
theorem Bm (r:Int) (w:World):Spec Tryz.prog 290 #[.int .i32 r] w (fun v w'=>v= .bool (Lib.validRune r)∧w'=w):=(Any.utf8_ValidRune Tryz.ID r w).mono fun e w' ⟨h1,h2⟩=>⟨_,h1,rfl,h2⟩
theorem DV {B b:Nat} {bs:List Value} {r:Int} (w:World) (hr: -2147483648≤r∧r≤2147483647) (h:Lib.IsBuilderF 336 5 B b bs w) (hl:bs.length+4≤140737488355328) (hB:B≤w.heap.size):
  Spec Tryz.prog 265 #[.pointer (some ⟨b,0,none⟩),.int .i32 r] w (fun v w'=>Lib.IsBuilderF 336 5 B b (bs++Lib.runeCells r) w'∧Below B w w'):=
 (Any.Builder_WriteRune_k Tryz.IF Tryz.pB B b bs r hr.1 hr.2 w h hl hB).mono fun e w' ⟨h1,h2,h3,_⟩=>⟨_,h1,.inr h2,h3⟩
theorem Fz {B b:Nat} {l:List UInt8} (w:World) (h:Lib.IsBuilderF 336 5 B b (Lib.byteCells l) w) (hB:B≤w.heap.size):
  Spec Tryz.prog 267 #[.pointer (some ⟨b,0,none⟩)] w (fun v w'=>v= .string ⟨l.toArray⟩∧Below B w w'):=
 (Any.Builder_String_any_k Tryz.IC Tryz.pA B b l w h hB).mono fun e w' ⟨h1,_,h3,_⟩=>⟨_,h1,rfl,h3⟩
theorem wrap32 {c:Int} (h:0≤c∧c≤1114111):IntKind.i32.wrap c=c:=by
 show(if(true&&decide (c%4294967296≥2147483648))=true then c%4294967296-4294967296 else c%4294967296)=c;rw[if_neg (by simp only[dy,decide_eq_true_eq];omega)];omega
def pC (c:Int):Int:=if c<0∨c>1114111∨Lib.validRune c=false then 65533 else c
theorem CJ (c:Int):0≤pC c∧pC c≤1114111:=by unfold pC;split<;>omega
def iO (l:List Int):List UInt8:=l.flatMap fun c=>Lib.encodeRune (pC c)
theorem j6 (l:List Int) (c:Int):iO (l++[c])=iO l++Lib.encodeRune (pC c):=by simp[iO]
theorem IG (r:Int):(Lib.encodeRune r).length≤4:=by have:=(Lib.encodeRuneZ_length r).2;simpa[Lib.encodeRune]using this
theorem fe (l:List Int):(iO l).length≤4*l.length:=by
 induction l with
 |nil=>simp[iO]
 |cons c l ih=>
  have:=IG (pC c);simp only[iO,List.flatMap_cons,bP,cq]at ih ⊢;omega
theorem tf (l:List Int) (c:Int):Lib.byteCells (iO l)++Lib.runeCells (pC c)=Lib.byteCells (iO (l++[c])):=by
 rw[j6,←Lib.byteCells_encodeRune];simp[Lib.byteCells]
theorem FA (c:Int) (w0:World):
  Spec Tryz.prog 266 #[.int .i64 c] w0 (fun v w=>v= .int .i32 (pC c)∧w=w0):=by
 refine aR (args:=[_]) (fn:=Tryz.f266) Tryz.func266 rfl (n:=17) Tryz.ntmps266 (ai (ad (ah rfl rfl (ab (ai (ai (ad (ae rfl rfl (bY rfl rfl rfl (ae rfl rfl ?_))))))))));refine aL (g:=5) rfl (fun fu=>?_) (fun fu=>?_)
 ·refine ao rfl rfl rfl rfl (ao rfl rfl rfl rfl (aP rfl rfl rfl (ae rfl rfl (ao rfl rfl rfl rfl (ao rfl rfl rfl rfl (ao rfl rfl rfl rfl (ao rfl rfl rfl rfl (aP rfl rfl rfl (ab (kY rfl (ai ?_)))))))))));refine ad (ah rfl rfl (ab (aI ?_)));exact aO rfl rfl ⟨by rw[pC,if_pos (by first|exact .inl (by omega)|exact .inr (.inl (by omega))|exact .inr (.inr (by assumption)))],rfl⟩
 ·refine ak rfl rfl (ae rfl rfl (ak rfl rfl (nT rfl rfl rfl (av rfl rfl rfl (ae rfl rfl ?_)))));refine aL (g:=9) rfl (fun xL=>?_) (fun xL=>?_)
  ·refine ao rfl rfl rfl rfl (ao rfl rfl rfl rfl (ao rfl rfl rfl rfl (ao rfl rfl rfl rfl (aP rfl rfl rfl (ab (kY rfl (ai (ad (ah rfl rfl (ab (aI ?_)))))))))));exact aO rfl rfl ⟨by rw[pC,if_pos (by first|exact .inl (by omega)|exact .inr (.inl (by omega))|exact .inr (.inr (by assumption)))],rfl⟩
  ·refine ak rfl rfl (ae rfl rfl (ak rfl rfl (uy an Tryz.underlying21 rfl rfl (br (v':= .int .i32 c) (congrArg (Value.int .i32) (wrap32 (by omega))) (ak rfl rfl ?_)))));refine aJ rfl rfl Vo (Bm _ _) (fun r wc hc=>?_);obtain⟨rfl,rfl⟩:=hc;refine ak rfl rfl (km rfl rfl (br (v':= .bool (decide (Lib.validRune c=false))) (by cases Lib.validRune c<;>rfl) (av rfl rfl rfl (ab ?_))));refine bK rfl (fun c1=>?_) (fun c1=>?_)
   ·refine ai (ad (ah rfl rfl (ab (aI ?_))));exact aO rfl rfl ⟨by rw[pC,if_pos (by first|exact .inl (by omega)|exact .inr (.inl (by omega))|exact .inr (.inr (by assumption)))],rfl⟩
   ·refine aT (ai (ad (ae rfl rfl (uy an Tryz.underlying21 rfl rfl (br (v':= .int .i32 c) (congrArg (Value.int .i32) (wrap32 (by omega))) (ah rfl rfl (ab (aI ?_))))))));exact aO rfl rfl ⟨by rw[pC,if_neg (by rintro(h|h|h)<;>first|omega|exact absurd h (by assumption))],rfl⟩
theorem DW {M:aD} {xs:List Int} {v0:Value} (w0:World) (hM:Lt M w0) (hv:((RT.int .i64).sl).V M w0 xs v0) (hl:xs.length≤1000000):
  Spec Tryz.prog 228 #[v0] w0 (fun v w=>v= .string ⟨(iO xs).toArray⟩∧Step M w0 M w aw):=by
 refine aR (args:=[_]) (fn:=Tryz.f228) Tryz.func228 rfl (n:=17) Tryz.ntmps228 (ai (ad (ah rfl rfl (ab (ai (ad ?_))))));refine ew M UL rfl (fun b w1 p1 q1 g1 s1=>?_);have py:Lib.IsBuilderF 336 5 w0.heap.size b (Lib.byteCells (iO (xs.take 0))) w1:= .of (.inl ⟨p1,.slice none 0 0,g1,World.ownsRow_nil _ _ _ _,by simp[Value.ownBlock]⟩);have S1:Below w0.heap.size w0 w1:=s1.below;refine ab (ai (ai (ad (ae rfl rfl (bM ar rfl hv rfl (ae rfl rfl (ab (a7 ?_))))))));refine dd (σ:=Nat) (fun k=>[(3,.pointer (some ⟨b,0,none⟩)),(6,v0),(7,.int .i64 (xs.length:Int)),(8,.int .i64 (k:Int))]) (fun k w=>Lib.IsBuilderF 336 5 w0.heap.size b (Lib.byteCells (iO (xs.take k))) w∧Below w0.heap.size w0 w∧k≤xs.length) (fun k=>xs.length-k) 0 (.cons rfl (.cons rfl (.cons rfl (.cons rfl .nil)))) ?_ ?_
 ·exact⟨py,S1,bG _⟩
 ·rintro k w ⟨hb,S,hk⟩;refine ai (ad (bY rfl rfl rfl (ab (ai ?_))));refine bK rfl (fun c3=>?_) (fun c3=>?_)
  ·refine aT (ai (a7 (ai (ad ?_))));refine dq (M:=M) ar I3 rfl rfl rfl hv (Step.sL S M).le (by omega) (fun u4 c yA ED=>?_);refine cn (M:=M) an rfl rfl ED (aq _ _) (fun in4=>?_);refine ah rfl rfl (ab (ad (ae rfl rfl ?_)));refine aJ rfl rfl Vk (FA c _) (fun r wc hc=>?_);obtain⟨rfl,rfl⟩:=hc;refine aJ rfl rfl Vj (DV _ (by have:=CJ c;omega) hb (by rw[Lib.byteCells_length];have:=fe (xs.take k);rw[bS]at this;omega) S.size) (fun r5 w5 hc=>?_);obtain⟨ON,S5⟩:=hc;have tk:xs.take (k+1)=xs.take k++[c]:=by rw[cw];simp only[aG]at yA;rw[yA];rfl
   rw[tf,←tk]at ON;have S6:=S.trans S5;refine ab (ad (bA rfl rfl rfl (by omega) (ae rfl rfl (ab ?_))));refine⟨rfl,k+1,(.cons rfl (.cons rfl (.cons rfl (.cons rfl .nil)))),?_,?_⟩
   ·exact⟨ON,S6,by omega⟩
   ·omega
  ·refine cB (ai (ad ?_));refine aJ rfl rfl Vl (Fz _ hb S.size) (fun r7 w7 hc=>?_);obtain⟨rfl,S7⟩:=hc;refine ah rfl rfl (ab (aI ?_));have e:xs.take k=xs:=bT (by omega);rw[e];exact aO rfl rfl ⟨rfl,Step.sL (S.trans S7) M⟩
end Go.K
namespace Go.K
def nO (c:Int):Int:=if 194≤c∧c<224 then 2 else if 224≤c∧c<240 then 3 else if 240≤c∧c<245 then 4 else 0
def fG (c:Int):Int:=if 194≤c∧c<224 then 128 else if 224≤c∧c<240 then 2048 else if 240≤c∧c<245 then 65536 else 0
def qy (c:Int):Int:=if 194≤c∧c<224 then c-192 else if 224≤c∧c<240 then c-224 else if 240≤c∧c<245 then c-240 else 0
def vO (l:List UInt8):Nat→Int
 |0=>qy (iv l 0)
 |k+1=>64*vO l k+iv l (k+1)-128
theorem fy {l:List UInt8} {k:Nat}:iD l k=true↔k<l.length∧128≤iv l k∧iv l k<192:=by
 unfold iD;simp only[bD,decide_eq_true_eq,beq_iff_eq];omega
theorem wo {n:Nat}:Utf8.valid (n:Int)=true↔(n<55296∨(57344≤n∧n≤1114111)):=by
 simp only[Utf8.valid,Bool.or_eq_true,bD,decide_eq_true_eq];omega
theorem P3 {l:List UInt8} (h:(iv l 0:Int)<128):dec l=(iv l 0,1):=by
 unfold dec Bf;rw[if_pos (by omega)]
theorem CK {l:List UInt8} (h0:128≤(iv l 0:Int)) (h:nO (iv l 0)=0∨∃k:Nat,1≤k∧(k:Int)<nO (iv l 0)∧iD l k=false):dec l=(65533,1):=by
 have hb:=l0 l 0;unfold dec Bf;rw[if_neg (by omega)]
 have hk:nO (iv l 0)=0∨(2≤nO (iv l 0)∧iD l 1=false)∨(3≤nO (iv l 0)∧iD l 2=false)∨(4≤nO (iv l 0)∧iD l 3=false):=by
  rcases h with h|⟨k,h1,h2,h3⟩
  ·exact .inl h
  ·have:nO (iv l 0)≤4:=by
    unfold nO
    split
    ·omega
    ·split
     ·omega
     ·split<;>omega
   have hk:k=1∨k=2∨k=3:=by omega
   rcases hk with rfl|rfl|rfl
   ·exact .inr (.inl ⟨by omega,h3⟩)
   ·exact .inr (.inr (.inl ⟨by omega,h3⟩))
   ·exact .inr (.inr (.inr ⟨by omega,h3⟩))
 simp only[beq_iff_eq,bD,decide_eq_true_eq,ge_iff_le,wo];have hn:nO (iv l 0)=if 194≤(iv l 0:Int)∧(iv l 0:Int)<224 then 2 else if 224≤(iv l 0:Int)∧(iv l 0:Int)<240 then 3 else if 240≤(iv l 0:Int)∧(iv l 0:Int)<245 then 4 else 0:=rfl
 rw[hn]at hk
 split
 ·rename_i hc
  obtain⟨HX,HY⟩:=hc
  split
  ·rename_i hv
   exfalso;by_cases adu:194≤(iv l 0:Int)
   ·rw[if_pos (by omega)]at hk;rcases hk with hk|⟨_,hk⟩|⟨hk,_⟩|⟨hk,_⟩
    ·omega
    ·rw[hk]at HY;cases HY
    ·omega
    ·omega
   ·omega
  ·rfl
 ·split
  ·rename_i hc
   obtain⟨⟨HX,HY⟩,Md⟩:=hc
   split
   ·exfalso;rw[if_neg (by omega),if_pos (by omega)]at hk;rcases hk with hk|⟨_,hk⟩|⟨_,hk⟩|⟨hk,_⟩
    ·omega
    ·rw[hk]at HY;cases HY
    ·rw[hk]at Md;cases Md
    ·omega
   ·rfl
  ·split
   ·rename_i hc
    obtain⟨⟨⟨HX,HY⟩,Md⟩,Z7⟩:=hc
    split
    ·rename_i hv
     exfalso;by_cases adv:(iv l 0:Int)<245
     ·rw[if_neg (by omega),if_neg (by omega),if_pos (by omega)]at hk;rcases hk with hk|⟨_,hk⟩|⟨_,hk⟩|⟨_,hk⟩
      ·omega
      ·rw[hk]at HY;cases HY
      ·rw[hk]at Md;cases Md
      ·rw[hk]at Z7;cases Z7
     ·omega
    ·rfl
   ·rfl
theorem lr {c:Int} (h:nO c≠0):(nO c=2∧fG c=128∧qy c=c-192∧194≤c∧c<224)∨(nO c=3∧fG c=2048∧qy c=c-224∧224≤c∧c<240)∨(nO c=4∧fG c=65536∧qy c=c-240∧240≤c∧c<245):=by
 by_cases h1:194≤c∧c<224
 ·exact .inl ⟨if_pos h1,if_pos h1,if_pos h1,h1.1,h1.2⟩
 ·by_cases h2:224≤c∧c<240
  ·exact .inr (.inl ⟨(if_neg h1).trans (if_pos h2),(if_neg h1).trans (if_pos h2),(if_neg h1).trans (if_pos h2),h2.1,h2.2⟩)
  ·by_cases h3:240≤c∧c<245
   ·exact .inr (.inr ⟨(if_neg h1).trans ((if_neg h2).trans (if_pos h3)),(if_neg h1).trans ((if_neg h2).trans (if_pos h3)),(if_neg h1).trans ((if_neg h2).trans (if_pos h3)),h3.1,h3.2⟩)
   ·exact absurd ((if_neg h1).trans ((if_neg h2).trans (if_neg h3))) h
theorem zj {l:List UInt8} (hn:nO (iv l 0)≠0) (hc:∀k:Nat,1≤k→(k:Int)<nO (iv l 0)→iD l k=true) (v:Int) (hv:v=vO l (nO (iv l 0)-1).toNat):
  dec l=if v<fG (iv l 0)∨v>1114111∨(55296≤v∧v≤57343)then(65533,1)else(v.toNat,(nO (iv l 0)).toNat):=by
 have hb:=l0 l 0;have b1:=l0 l 1;have b2:=l0 l 2;have b3:=l0 l 3;unfold dec Bf;simp only[beq_iff_eq,bD,decide_eq_true_eq,ge_iff_le,wo];rcases lr hn with⟨e1,e2,e3,e4,e5⟩|⟨e1,e2,e3,e4,e5⟩|⟨e1,e2,e3,e4,e5⟩
 ·have c1:=hc 1 (by omega) (by omega);have d1:=fy.1 c1;rw[e1]at hv;have yB:v=64*((iv l 0:Int)-192)+iv l 1-128:=by rw[hv];show 64*qy (iv l 0)+_-_=_;rw[e3]
  rw[if_neg (by omega),if_pos ⟨by omega,c1⟩,e2,e1];by_cases hx:v<128∨v>1114111∨(55296≤v∧v≤57343)
  ·rw[if_pos hx,if_neg (by omega)]
  ·rw[if_neg hx,if_pos (by omega)];simp only[qP];omega
 ·have c1:=hc 1 (by omega) (by omega);have c2:=hc 2 (by omega) (by omega);have d1:=fy.1 c1;have d2:=fy.1 c2;rw[e1]at hv;have yB:v=64*(64*((iv l 0:Int)-224)+iv l 1-128)+iv l 2-128:=by rw[hv];show 64*(64*qy (iv l 0)+_-_)+_-_=_;rw[e3]
  rw[if_neg (by omega),if_neg (by omega),if_pos ⟨⟨by omega,c1⟩,c2⟩,e2,e1];by_cases hx:v<2048∨v>1114111∨(55296≤v∧v≤57343)
  ·rw[if_pos hx,if_neg (by omega)]
  ·rw[if_neg hx,if_pos (by omega)];simp only[qP];omega
 ·have c1:=hc 1 (by omega) (by omega);have c2:=hc 2 (by omega) (by omega);have c3:=hc 3 (by omega) (by omega);have d1:=fy.1 c1;have d2:=fy.1 c2;have d3:=fy.1 c3;rw[e1]at hv;have yB:v=64*(64*(64*((iv l 0:Int)-240)+iv l 1-128)+iv l 2-128)+iv l 3-128:=by rw[hv];show 64*(64*(64*qy (iv l 0)+_-_)+_-_)+_-_=_;rw[e3]
  rw[if_neg (by omega),if_neg (by omega),if_neg (by omega),if_pos ⟨⟨⟨by omega,c1⟩,c2⟩,c3⟩,e2,e1];by_cases hx:v<65536∨v>1114111∨(55296≤v∧v≤57343)
  ·rw[if_pos hx,if_neg (by omega)]
  ·rw[if_neg hx,if_pos (by omega)];simp only[qP];omega
end Go.K
namespace Go.K
open Go.Proofs
set_option maxRecDepth 10000
theorem xM (c:Int) (w0:World):
  Spec Tryz.prog 285 #[.int .i64 c] w0 (fun v w=>v= .bool (eG c)∧w=w0):=by
 refine aR (args:=[_]) (fn:=Tryz.f285) Tryz.func285 rfl (n:=31) Tryz.ntmps285 (ai (ad (ah rfl rfl (ab (ai (ai (ad (ae rfl rfl (dh rfl rfl rfl (ae rfl rfl ?_))))))))));refine aL (g:=5) rfl (fun fu=>?_) (fun fu=>?_)
 ·refine ak rfl rfl (ae rfl rfl (ak rfl rfl (fc rfl rfl rfl (aP rfl rfl rfl (ae rfl rfl ?_)))));refine aL (g:=9) rfl (fun xL=>?_) (fun xL=>?_)
  ·refine ao rfl rfl rfl rfl (ao rfl rfl rfl rfl (ao rfl rfl rfl rfl (b4 rfl rfl rfl (b4 rfl rfl rfl (ao rfl rfl rfl rfl (aP rfl rfl rfl (ab (kY rfl (ai (ad (ah rfl rfl ?_)))))))))));refine ab (aI ?_);exact aO rfl rfl ⟨by simp only[eG];first|rfl|(congr 1;first|(exact(decide_eq_true (by omega)).symm)|(exact(decide_eq_false (by omega)).symm)|(exact decide_eq_decide.2 (by omega))),rfl⟩
  ·refine ak rfl rfl (ae rfl rfl (ak rfl rfl (dh rfl rfl rfl (ak rfl rfl (ae rfl rfl ?_)))));refine aL (g:=12) rfl (fun oT=>?_) (fun oT=>?_)
   ·refine ak rfl rfl (ae rfl rfl (ak rfl rfl (fc rfl rfl rfl (ak rfl rfl (aP rfl rfl rfl (av rfl rfl rfl (ab ?_)))))));refine bK rfl (fun c1=>?_) (fun c1=>?_)
    ·refine ai (ad (ah rfl rfl (ab (aI ?_))));exact aO rfl rfl ⟨by simp only[eG];first|rfl|(congr 1;first|(exact(decide_eq_true (by omega)).symm)|(exact(decide_eq_false (by omega)).symm)|(exact decide_eq_decide.2 (by omega))),rfl⟩
    ·refine aT (ai (ad (ae rfl rfl (dh rfl rfl rfl (ae rfl rfl ?_)))));refine aL (g:=19) rfl (fun Bn=>?_) (fun Bn=>?_)
     ·refine ak rfl rfl (ae rfl rfl (ak rfl rfl (fc rfl rfl rfl (aP rfl rfl rfl (ae rfl rfl ?_)))));refine aL (g:=23) rfl (fun Bo=>?_) (fun Bo=>?_)
      ·refine ak rfl rfl (ae rfl rfl (ak rfl rfl (eg rfl rfl rfl (aP rfl rfl rfl (ae rfl rfl ?_)))));refine aL (g:=27) rfl (fun tg=>?_) (fun tg=>?_)
       ·refine ak rfl rfl (ae rfl rfl (ak rfl rfl (eg rfl rfl rfl (aP rfl rfl rfl (ah rfl rfl (ab (aI ?_)))))));exact aO rfl rfl ⟨by simp only[eG];first|rfl|(congr 1;first|(exact(decide_eq_true (by omega)).symm)|(exact(decide_eq_false (by omega)).symm)|(exact decide_eq_decide.2 (by omega))),rfl⟩
       ·refine ao rfl rfl rfl rfl (ao rfl rfl rfl rfl (av rfl rfl rfl (ah rfl rfl (ab (aI ?_)))));exact aO rfl rfl ⟨by simp only[eG];first|rfl|(congr 1;first|(exact(decide_eq_true (by omega)).symm)|(exact(decide_eq_false (by omega)).symm)|(exact decide_eq_decide.2 (by omega))),rfl⟩
      ·refine ao rfl rfl rfl rfl (ao rfl rfl rfl rfl (av rfl rfl rfl (ae rfl rfl (ao rfl rfl rfl rfl (ao rfl rfl rfl rfl (av rfl rfl rfl (ah rfl rfl (ab (aI ?_)))))))));exact aO rfl rfl ⟨by simp only[eG];first|rfl|(congr 1;first|(exact(decide_eq_true (by omega)).symm)|(exact(decide_eq_false (by omega)).symm)|(exact decide_eq_decide.2 (by omega))),rfl⟩
     ·refine ao rfl rfl rfl rfl (ao rfl rfl rfl rfl (av rfl rfl rfl (ae rfl rfl (ao rfl rfl rfl rfl (ao rfl rfl rfl rfl (av rfl rfl rfl (ae rfl rfl (ao rfl rfl rfl rfl (ao rfl rfl rfl rfl (av rfl rfl rfl (ah rfl rfl ?_)))))))))));refine ab (aI ?_);exact aO rfl rfl ⟨by simp only[eG];first|rfl|(congr 1;first|(exact(decide_eq_true (by omega)).symm)|(exact(decide_eq_false (by omega)).symm)|(exact decide_eq_decide.2 (by omega))),rfl⟩
   ·refine ao rfl rfl rfl rfl (ao rfl rfl rfl rfl (ak rfl rfl (av rfl rfl rfl (av rfl rfl rfl (ab (fL rfl (aT (ai (ad (ae rfl rfl (dh rfl rfl rfl ?_)))))))))));refine ae rfl rfl ?_;refine aL (g:=19) rfl (fun Bn=>?_) (fun Bn=>?_)
    ·refine ak rfl rfl (ae rfl rfl (ak rfl rfl (fc rfl rfl rfl (aP rfl rfl rfl (ae rfl rfl ?_)))));refine aL (g:=23) rfl (fun Bo=>?_) (fun Bo=>?_)
     ·refine ak rfl rfl (ae rfl rfl (ak rfl rfl (eg rfl rfl rfl (aP rfl rfl rfl (ae rfl rfl ?_)))));refine aL (g:=27) rfl (fun tg=>?_) (fun tg=>?_)
      ·refine ak rfl rfl (ae rfl rfl (ak rfl rfl (eg rfl rfl rfl (aP rfl rfl rfl (ah rfl rfl (ab (aI ?_)))))));exact aO rfl rfl ⟨by simp only[eG];first|rfl|(congr 1;first|(exact(decide_eq_true (by omega)).symm)|(exact(decide_eq_false (by omega)).symm)|(exact decide_eq_decide.2 (by omega))),rfl⟩
      ·refine ao rfl rfl rfl rfl (ao rfl rfl rfl rfl (av rfl rfl rfl (ah rfl rfl (ab (aI ?_)))));exact aO rfl rfl ⟨by simp only[eG];first|rfl|(congr 1;first|(exact(decide_eq_true (by omega)).symm)|(exact(decide_eq_false (by omega)).symm)|(exact decide_eq_decide.2 (by omega))),rfl⟩
     ·refine ao rfl rfl rfl rfl (ao rfl rfl rfl rfl (av rfl rfl rfl (ae rfl rfl (ao rfl rfl rfl rfl (ao rfl rfl rfl rfl (av rfl rfl rfl (ah rfl rfl (ab (aI ?_)))))))));exact aO rfl rfl ⟨by simp only[eG];first|rfl|(congr 1;first|(exact(decide_eq_true (by omega)).symm)|(exact(decide_eq_false (by omega)).symm)|(exact decide_eq_decide.2 (by omega))),rfl⟩
    ·refine ao rfl rfl rfl rfl (ao rfl rfl rfl rfl (av rfl rfl rfl (ae rfl rfl (ao rfl rfl rfl rfl (ao rfl rfl rfl rfl (av rfl rfl rfl (ae rfl rfl (ao rfl rfl rfl rfl (ao rfl rfl rfl rfl (av rfl rfl rfl (ah rfl rfl ?_)))))))))));refine ab (aI ?_);exact aO rfl rfl ⟨by simp only[eG];first|rfl|(congr 1;first|(exact(decide_eq_true (by omega)).symm)|(exact(decide_eq_false (by omega)).symm)|(exact decide_eq_decide.2 (by omega))),rfl⟩
 ·refine ao rfl rfl rfl rfl (ao rfl rfl rfl rfl (av rfl rfl rfl (ae rfl rfl (ak rfl rfl (ae rfl rfl (ak rfl rfl (dh rfl rfl rfl (ak rfl rfl (ae rfl rfl ?_)))))))));refine aL (g:=12) rfl (fun oT=>?_) (fun oT=>?_)
  ·refine ak rfl rfl (ae rfl rfl (ak rfl rfl (fc rfl rfl rfl (ak rfl rfl (aP rfl rfl rfl (av rfl rfl rfl (ab ?_)))))));refine bK rfl (fun c1=>?_) (fun c1=>?_)
   ·refine ai (ad (ah rfl rfl (ab (aI ?_))));exact aO rfl rfl ⟨by simp only[eG];first|rfl|(congr 1;first|(exact(decide_eq_true (by omega)).symm)|(exact(decide_eq_false (by omega)).symm)|(exact decide_eq_decide.2 (by omega))),rfl⟩
   ·refine aT (ai (ad (ae rfl rfl (dh rfl rfl rfl (ae rfl rfl ?_)))));refine aL (g:=19) rfl (fun Bn=>?_) (fun Bn=>?_)
    ·refine ak rfl rfl (ae rfl rfl (ak rfl rfl (fc rfl rfl rfl (aP rfl rfl rfl (ae rfl rfl ?_)))));refine aL (g:=23) rfl (fun Bo=>?_) (fun Bo=>?_)
     ·refine ak rfl rfl (ae rfl rfl (ak rfl rfl (eg rfl rfl rfl (aP rfl rfl rfl (ae rfl rfl ?_)))));refine aL (g:=27) rfl (fun tg=>?_) (fun tg=>?_)
      ·refine ak rfl rfl (ae rfl rfl (ak rfl rfl (eg rfl rfl rfl (aP rfl rfl rfl (ah rfl rfl (ab (aI ?_)))))));exact aO rfl rfl ⟨by simp only[eG];first|rfl|(congr 1;first|(exact(decide_eq_true (by omega)).symm)|(exact(decide_eq_false (by omega)).symm)|(exact decide_eq_decide.2 (by omega))),rfl⟩
      ·refine ao rfl rfl rfl rfl (ao rfl rfl rfl rfl (av rfl rfl rfl (ah rfl rfl (ab (aI ?_)))));exact aO rfl rfl ⟨by simp only[eG];first|rfl|(congr 1;first|(exact(decide_eq_true (by omega)).symm)|(exact(decide_eq_false (by omega)).symm)|(exact decide_eq_decide.2 (by omega))),rfl⟩
     ·refine ao rfl rfl rfl rfl (ao rfl rfl rfl rfl (av rfl rfl rfl (ae rfl rfl (ao rfl rfl rfl rfl (ao rfl rfl rfl rfl (av rfl rfl rfl (ah rfl rfl (ab (aI ?_)))))))));exact aO rfl rfl ⟨by simp only[eG];first|rfl|(congr 1;first|(exact(decide_eq_true (by omega)).symm)|(exact(decide_eq_false (by omega)).symm)|(exact decide_eq_decide.2 (by omega))),rfl⟩
    ·refine ao rfl rfl rfl rfl (ao rfl rfl rfl rfl (av rfl rfl rfl (ae rfl rfl (ao rfl rfl rfl rfl (ao rfl rfl rfl rfl (av rfl rfl rfl (ae rfl rfl (ao rfl rfl rfl rfl (ao rfl rfl rfl rfl (av rfl rfl rfl (ah rfl rfl ?_)))))))))));refine ab (aI ?_);exact aO rfl rfl ⟨by simp only[eG];first|rfl|(congr 1;first|(exact(decide_eq_true (by omega)).symm)|(exact(decide_eq_false (by omega)).symm)|(exact decide_eq_decide.2 (by omega))),rfl⟩
  ·refine ao rfl rfl rfl rfl (ao rfl rfl rfl rfl (ak rfl rfl (av rfl rfl rfl (av rfl rfl rfl (ab (fL rfl (aT (ai (ad (ae rfl rfl (dh rfl rfl rfl ?_)))))))))));refine ae rfl rfl ?_;refine aL (g:=19) rfl (fun Bn=>?_) (fun Bn=>?_)
   ·refine ak rfl rfl (ae rfl rfl (ak rfl rfl (fc rfl rfl rfl (aP rfl rfl rfl (ae rfl rfl ?_)))));refine aL (g:=23) rfl (fun Bo=>?_) (fun Bo=>?_)
    ·refine ak rfl rfl (ae rfl rfl (ak rfl rfl (eg rfl rfl rfl (aP rfl rfl rfl (ae rfl rfl ?_)))));refine aL (g:=27) rfl (fun tg=>?_) (fun tg=>?_)
     ·refine ak rfl rfl (ae rfl rfl (ak rfl rfl (eg rfl rfl rfl (aP rfl rfl rfl (ah rfl rfl (ab (aI ?_)))))));exact aO rfl rfl ⟨by simp only[eG];first|rfl|(congr 1;first|(exact(decide_eq_true (by omega)).symm)|(exact(decide_eq_false (by omega)).symm)|(exact decide_eq_decide.2 (by omega))),rfl⟩
     ·refine ao rfl rfl rfl rfl (ao rfl rfl rfl rfl (av rfl rfl rfl (ah rfl rfl (ab (aI ?_)))));exact aO rfl rfl ⟨by simp only[eG];first|rfl|(congr 1;first|(exact(decide_eq_true (by omega)).symm)|(exact(decide_eq_false (by omega)).symm)|(exact decide_eq_decide.2 (by omega))),rfl⟩
    ·refine ao rfl rfl rfl rfl (ao rfl rfl rfl rfl (av rfl rfl rfl (ae rfl rfl (ao rfl rfl rfl rfl (ao rfl rfl rfl rfl (av rfl rfl rfl (ah rfl rfl (ab (aI ?_)))))))));exact aO rfl rfl ⟨by simp only[eG];first|rfl|(congr 1;first|(exact(decide_eq_true (by omega)).symm)|(exact(decide_eq_false (by omega)).symm)|(exact decide_eq_decide.2 (by omega))),rfl⟩
   ·refine ao rfl rfl rfl rfl (ao rfl rfl rfl rfl (av rfl rfl rfl (ae rfl rfl (ao rfl rfl rfl rfl (ao rfl rfl rfl rfl (av rfl rfl rfl (ae rfl rfl (ao rfl rfl rfl rfl (ao rfl rfl rfl rfl (av rfl rfl rfl (ah rfl rfl ?_)))))))))));refine ab (aI ?_);exact aO rfl rfl ⟨by simp only[eG];first|rfl|(congr 1;first|(exact(decide_eq_true (by omega)).symm)|(exact(decide_eq_false (by omega)).symm)|(exact decide_eq_decide.2 (by omega))),rfl⟩
theorem Br (c:Int) (w0:World) (hc:0≤c∧c≤1114111):
  Spec Tryz.prog 253 #[.int .i64 c] w0 (fun v w=>v= .int .i64 (eK c)∧w=w0):=by
 refine aR (args:=[_]) (fn:=Tryz.f253) Tryz.func253 rfl (n:=28) Tryz.ntmps253 (ai (ad (ah rfl rfl (ab (ai (ai (ad (ae rfl rfl (dh rfl rfl rfl (ae rfl rfl ?_))))))))));refine aL (g:=5) rfl (fun fu=>?_) (fun fu=>?_)
 ·refine ak rfl rfl (ae rfl rfl (ak rfl rfl (fc rfl rfl rfl (aP rfl rfl rfl (ae rfl rfl ?_)))));refine aL (g:=9) rfl (fun xL=>?_) (fun xL=>?_)
  ·refine ao rfl rfl rfl rfl (ao rfl rfl rfl rfl (ao rfl rfl rfl rfl (b4 rfl rfl rfl (b4 rfl rfl rfl (ao rfl rfl rfl rfl (aP rfl rfl rfl (ae rfl rfl (ao rfl rfl rfl rfl (ao rfl rfl rfl rfl (ao rfl rfl rfl rfl (b4 rfl rfl rfl ?_)))))))))));refine b4 rfl rfl rfl (ao rfl rfl rfl rfl (aP rfl rfl rfl (ab (kY rfl (ai (ad (ae rfl rfl (bA rfl rfl rfl (by omega) (ah rfl rfl (ab (aI ?_)))))))))));exact aO rfl rfl ⟨by rw[eK,if_pos (by omega)],rfl⟩
  ·refine ak rfl rfl (ae rfl rfl (ak rfl rfl (dh rfl rfl rfl (ak rfl rfl (ae rfl rfl ?_)))));refine aL (g:=12) rfl (fun oT=>?_) (fun oT=>?_)
   ·refine ak rfl rfl (ae rfl rfl (ak rfl rfl (fc rfl rfl rfl (ak rfl rfl (aP rfl rfl rfl (av rfl rfl rfl (ae rfl rfl ?_)))))));refine aL (g:=17) rfl (fun tc=>?_) (fun tc=>?_)
    ·refine ao rfl rfl rfl rfl (ao rfl rfl rfl rfl (ao rfl rfl rfl rfl (b4 rfl rfl rfl (b4 rfl rfl rfl (ao rfl rfl rfl rfl (aP rfl rfl rfl (ab (kY rfl (ai (ad (ae rfl rfl ?_)))))))))));refine bA rfl rfl rfl (by omega) (ah rfl rfl (ab (aI ?_)));exact aO rfl rfl ⟨by rw[eK,if_pos (by omega)],rfl⟩
    ·refine ak rfl rfl (ae rfl rfl (ak rfl rfl (dh rfl rfl rfl (ak rfl rfl (ae rfl rfl ?_)))));refine aL (g:=20) rfl (fun j5=>?_) (fun j5=>?_)
     ·refine ak rfl rfl (ae rfl rfl (ak rfl rfl (fc rfl rfl rfl (ak rfl rfl (aP rfl rfl rfl (av rfl rfl rfl (ab ?_)))))));refine bK rfl (fun c1=>?_) (fun c1=>?_)
      ·refine ai (ad (ae rfl rfl (bA rfl rfl rfl (by omega) (ah rfl rfl (ab (aI ?_))))));exact aO rfl rfl ⟨by rw[eK,if_pos (by omega)],rfl⟩
      ·refine aT (ai (ad (ae rfl rfl (ah rfl rfl (ab (aI ?_))))));exact aO rfl rfl ⟨by rw[eK,if_neg (by omega)],rfl⟩
     ·refine ao rfl rfl rfl rfl (ao rfl rfl rfl rfl (ak rfl rfl (av rfl rfl rfl (av rfl rfl rfl (ab (fL rfl (aT (ai (ad (ae rfl rfl (ah rfl rfl ?_)))))))))));refine ab (aI ?_);exact aO rfl rfl ⟨by rw[eK,if_neg (by omega)],rfl⟩
   ·refine ao rfl rfl rfl rfl (ao rfl rfl rfl rfl (ak rfl rfl (av rfl rfl rfl (av rfl rfl rfl (ae rfl rfl (ak rfl rfl (ae rfl rfl (ak rfl rfl (dh rfl rfl rfl (ak rfl rfl (ae rfl rfl ?_)))))))))));refine aL (g:=20) rfl (fun j5=>?_) (fun j5=>?_)
    ·refine ak rfl rfl (ae rfl rfl (ak rfl rfl (fc rfl rfl rfl (ak rfl rfl (aP rfl rfl rfl (av rfl rfl rfl (ab ?_)))))));refine bK rfl (fun c1=>?_) (fun c1=>?_)
     ·refine ai (ad (ae rfl rfl (bA rfl rfl rfl (by omega) (ah rfl rfl (ab (aI ?_))))));exact aO rfl rfl ⟨by rw[eK,if_pos (by omega)],rfl⟩
     ·refine aT (ai (ad (ae rfl rfl (ah rfl rfl (ab (aI ?_))))));exact aO rfl rfl ⟨by rw[eK,if_neg (by omega)],rfl⟩
    ·refine ao rfl rfl rfl rfl (ao rfl rfl rfl rfl (ak rfl rfl (av rfl rfl rfl (av rfl rfl rfl (ab (fL rfl (aT (ai (ad (ae rfl rfl (ah rfl rfl ?_)))))))))));refine ab (aI ?_);exact aO rfl rfl ⟨by rw[eK,if_neg (by omega)],rfl⟩
 ·refine ao rfl rfl rfl rfl (ao rfl rfl rfl rfl (av rfl rfl rfl (ae rfl rfl (ak rfl rfl (ae rfl rfl (ak rfl rfl (dh rfl rfl rfl (ak rfl rfl (ae rfl rfl ?_)))))))));refine aL (g:=12) rfl (fun oT=>?_) (fun oT=>?_)
  ·refine ak rfl rfl (ae rfl rfl (ak rfl rfl (fc rfl rfl rfl (ak rfl rfl (aP rfl rfl rfl (av rfl rfl rfl (ae rfl rfl ?_)))))));refine aL (g:=17) rfl (fun tc=>?_) (fun tc=>?_)
   ·refine ao rfl rfl rfl rfl (ao rfl rfl rfl rfl (ao rfl rfl rfl rfl (b4 rfl rfl rfl (b4 rfl rfl rfl (ao rfl rfl rfl rfl (aP rfl rfl rfl (ab (kY rfl (ai (ad (ae rfl rfl ?_)))))))))));refine bA rfl rfl rfl (by omega) (ah rfl rfl (ab (aI ?_)));exact aO rfl rfl ⟨by rw[eK,if_pos (by omega)],rfl⟩
   ·refine ak rfl rfl (ae rfl rfl (ak rfl rfl (dh rfl rfl rfl (ak rfl rfl (ae rfl rfl ?_)))));refine aL (g:=20) rfl (fun j5=>?_) (fun j5=>?_)
    ·refine ak rfl rfl (ae rfl rfl (ak rfl rfl (fc rfl rfl rfl (ak rfl rfl (aP rfl rfl rfl (av rfl rfl rfl (ab ?_)))))));refine bK rfl (fun c1=>?_) (fun c1=>?_)
     ·refine ai (ad (ae rfl rfl (bA rfl rfl rfl (by omega) (ah rfl rfl (ab (aI ?_))))));exact aO rfl rfl ⟨by rw[eK,if_pos (by omega)],rfl⟩
     ·refine aT (ai (ad (ae rfl rfl (ah rfl rfl (ab (aI ?_))))));exact aO rfl rfl ⟨by rw[eK,if_neg (by omega)],rfl⟩
    ·refine ao rfl rfl rfl rfl (ao rfl rfl rfl rfl (ak rfl rfl (av rfl rfl rfl (av rfl rfl rfl (ab (fL rfl (aT (ai (ad (ae rfl rfl (ah rfl rfl ?_)))))))))));refine ab (aI ?_);exact aO rfl rfl ⟨by rw[eK,if_neg (by omega)],rfl⟩
  ·refine ao rfl rfl rfl rfl (ao rfl rfl rfl rfl (ak rfl rfl (av rfl rfl rfl (av rfl rfl rfl (ae rfl rfl (ak rfl rfl (ae rfl rfl (ak rfl rfl (dh rfl rfl rfl (ak rfl rfl (ae rfl rfl ?_)))))))))));refine aL (g:=20) rfl (fun j5=>?_) (fun j5=>?_)
   ·refine ak rfl rfl (ae rfl rfl (ak rfl rfl (fc rfl rfl rfl (ak rfl rfl (aP rfl rfl rfl (av rfl rfl rfl (ab ?_)))))));refine bK rfl (fun c1=>?_) (fun c1=>?_)
    ·refine ai (ad (ae rfl rfl (bA rfl rfl rfl (by omega) (ah rfl rfl (ab (aI ?_))))));exact aO rfl rfl ⟨by rw[eK,if_pos (by omega)],rfl⟩
    ·refine aT (ai (ad (ae rfl rfl (ah rfl rfl (ab (aI ?_))))));exact aO rfl rfl ⟨by rw[eK,if_neg (by omega)],rfl⟩
   ·refine ao rfl rfl rfl rfl (ao rfl rfl rfl rfl (ak rfl rfl (av rfl rfl rfl (av rfl rfl rfl (ab (fL rfl (aT (ai (ad (ae rfl rfl (ah rfl rfl ?_)))))))))));refine ab (aI ?_);exact aO rfl rfl ⟨by rw[eK,if_neg (by omega)],rfl⟩
def rL (c:Int):Bool:=decide (eG c=true∨l1 c=true)
theorem zk (c:Int) (w0:World):
  Spec Tryz.prog 252 #[.int .i64 c] w0 (fun v w=>v= .bool (rL c)∧w=w0):=by
 refine aR (args:=[_]) (fn:=Tryz.f252) Tryz.func252 rfl (n:=13) Tryz.ntmps252 (ai (ad (ah rfl rfl (ab (ai (ad (ae rfl rfl ?_)))))));refine aJ rfl rfl Vn (xM _ _) (fun r wc hc=>?_);obtain⟨rfl,rfl⟩:=hc;refine br (v':= .bool (decide (eG c=true))) (by cases eG c<;>rfl) (ae rfl rfl ?_);refine aL (g:=5) rfl (fun fu=>?_) (fun fu=>?_)
 ·refine ao rfl rfl rfl rfl (ao rfl rfl rfl rfl (ao rfl rfl rfl rfl (b4 rfl rfl rfl (b4 rfl rfl rfl (ao rfl rfl rfl rfl (aP rfl rfl rfl (ah rfl rfl (ab (aI ?_)))))))));have e:(l1 c=true)=(48≤c∧c≤57):=by simp[l1]
  exact aO rfl rfl ⟨by simp only[rL,e];first|(congr 1;first|(exact(decide_eq_true (.inl (by assumption))).symm)|(exact(decide_eq_true (.inr (by omega))).symm)|(exact(decide_eq_false (by rintro(h|h)<;>first|exact absurd h (by assumption)|omega)).symm)|(exact decide_eq_decide.2 ⟨fun h=> .inr (by omega),fun h=>h.elim (fun h=>absurd h (by assumption)) (fun h=>by omega)⟩)),rfl⟩
 ·refine ak rfl rfl (ae rfl rfl (ak rfl rfl (dh rfl rfl rfl (ak rfl rfl (ae rfl rfl ?_)))));refine aL (g:=8) rfl (fun qz=>?_) (fun qz=>?_)
  ·refine ak rfl rfl (ae rfl rfl (ak rfl rfl (fc rfl rfl rfl (ak rfl rfl (aP rfl rfl rfl (av rfl rfl rfl (ah rfl rfl (ab (aI ?_)))))))));have e:(l1 c=true)=(48≤c∧c≤57):=by simp[l1]
   exact aO rfl rfl ⟨by simp only[rL,e];first|(congr 1;first|(exact(decide_eq_true (.inl (by assumption))).symm)|(exact(decide_eq_true (.inr (by omega))).symm)|(exact(decide_eq_false (by rintro(h|h)<;>first|exact absurd h (by assumption)|omega)).symm)|(exact decide_eq_decide.2 ⟨fun h=> .inr (by omega),fun h=>h.elim (fun h=>absurd h (by assumption)) (fun h=>by omega)⟩)),rfl⟩
  ·refine ao rfl rfl rfl rfl (ao rfl rfl rfl rfl (ak rfl rfl (av rfl rfl rfl (av rfl rfl rfl (ah rfl rfl (ab (aI ?_)))))));have e:(l1 c=true)=(48≤c∧c≤57):=by simp[l1]
   exact aO rfl rfl ⟨by simp only[rL,e];first|(congr 1;first|(exact(decide_eq_true (.inl (by assumption))).symm)|(exact(decide_eq_true (.inr (by omega))).symm)|(exact(decide_eq_false (by rintro(h|h)<;>first|exact absurd h (by assumption)|omega)).symm)|(exact decide_eq_decide.2 ⟨fun h=> .inr (by omega),fun h=>h.elim (fun h=>absurd h (by assumption)) (fun h=>by omega)⟩)),rfl⟩
theorem Me {l:List UInt8} {c:Int} (hc:c=(iv l 0:Int)) (hn:nO c≠0):∀{k:Nat},(∀j:Nat,1≤j→j<k+1→iD l j=true)→k≤3→0≤vO l k∧vO l k≤100000000:=by
 have key:∀k:Nat,(∀j:Nat,1≤j→j<k+1→iD l j=true)→0≤vO l k∧vO l k≤33*64^k-1:=by
  intro k
  induction k with
  |zero=>
   intro _;have:=lr hn;show 0≤qy (iv l 0:Int)∧qy (iv l 0:Int)≤33*64^0-1;rw[←hc];simp only[Int.pow_zero];omega
  |succ k ih=>
   intro h;have h1:=ih fun j h2 h3=>h j h2 (by omega)
   have h2:=fy.1 (h (k+1) (by omega) (by omega));show 0≤64*vO l k+_-128∧64*vO l k+_-128≤_;rw[Int.pow_succ];omega
 intro k h hk;have:=key k h
 have h3:(64:Int)^k≤262144:=by
  rcases(show k=0∨k=1∨k=2∨k=3 by omega)with rfl|rfl|rfl|rfl<;>decide
 omega
theorem FB {l:List UInt8} (w0:World) (hl:l≠[]) (hlen:l.length≤1000000):
  Spec Tryz.prog 284 #[.string ⟨l.toArray⟩] w0 (fun v w=>v= .tuple #[.int .i64 ((dec l).1:Int),.int .i64 ((dec l).2:Int)]∧w=w0):=by
 have AV:0<l.length:=lJ.2 hl;have hb0:=l0 l 0;obtain⟨c,hc⟩:∃c:Int,c=(iv l 0:Int):=⟨_,rfl⟩;have hcr:0≤c∧c<256:=by omega
 refine aR (args:=[_]) (fn:=Tryz.f284) Tryz.func284 rfl (n:=85) Tryz.ntmps284 (ai (ad (ah rfl rfl (ah rfl rfl (ab (ai (ad (ae rfl rfl ?_))))))));refine Rg.CF (c:=l.getD 0 0) aF rfl rfl rfl (by decide) (by rw[bH];show l[0]? =_;rw[aK AV];rfl) ?_;refine br (v':= .int .u8 c) (by rw[hc];rfl) (Rg.xl cd an rfl rfl (by omega) (ah rfl rfl (ab (ai (ai (ad (ae rfl rfl (bY rfl rfl rfl (ab ?_)))))))));refine bK rfl (fun c2=>?_) (fun c2=>?_)
 ·refine ai (ad (ae rfl rfl (ah rfl rfl (ah rfl rfl (ab (aI ?_))))));exact dX rfl rfl rfl ⟨by rw[P3 (by omega),hc];rfl,rfl⟩
 ·refine aT (ai (ad (ah rfl rfl (ab (ai (ad (ah rfl rfl (ab (ai (ad (ah rfl rfl ?_)))))))))));refine ab ?_;refine T.Cx [(0,.string ⟨l.toArray⟩),(4,.int .i64 c),(5,.int .i64 (nO c)),(6,.int .i64 (fG c)),(7,.int .i64 (qy c))] ?_ ?_
  ·refine ai (ad (ae rfl rfl (dh rfl rfl rfl (ae rfl rfl ?_))));refine aL (g:=18) rfl (fun uM=>?_) (fun uM=>?_)
   ·refine ak rfl rfl (ae rfl rfl (ak rfl rfl (bY rfl rfl rfl (aP rfl rfl rfl (ab ?_)))));refine bK rfl (fun c7=>?_) (fun c7=>?_)
    ·refine ai (ad (ah rfl rfl (ab (ai (ad (ah rfl rfl (ab (ad (ae rfl rfl (gj rfl rfl rfl (by omega) (ah rfl rfl ?_)))))))))));refine ab ?_;exact⟨rfl,rfl,rfl,.cons rfl (.cons rfl (.cons (congrArg (fun z=>some (Value.int .i64 z)) (by first|(exfalso;omega)|(unfold nO;repeat (first|rw[if_pos (by omega)]|rw[if_neg (by omega)])))) (.cons (congrArg (fun z=>some (Value.int .i64 z)) (by first|(exfalso;omega)|(unfold fG;repeat (first|rw[if_pos (by omega)]|rw[if_neg (by omega)])))) (.cons (congrArg (fun z=>some (Value.int .i64 z)) (by first|(exfalso;omega)|(unfold qy;repeat (first|rw[if_pos (by omega)]|rw[if_neg (by omega)])))) (.nil)))))⟩
    ·refine ai (ad (ae rfl rfl (dh rfl rfl rfl (ae rfl rfl ?_))));refine aL (g:=26) rfl (fun FC=>?_) (fun FC=>?_)
     ·refine ak rfl rfl (ae rfl rfl (ak rfl rfl (bY rfl rfl rfl (aP rfl rfl rfl (ab ?_)))));refine bK rfl (fun Mf=>?_) (fun Mf=>?_)
      ·refine ai (ad (ah rfl rfl (ab (ai (ad (ah rfl rfl (ab (ad (ae rfl rfl (gj rfl rfl rfl (by omega) (ah rfl rfl ?_)))))))))));refine ab ?_;exact⟨rfl,rfl,rfl,.cons rfl (.cons rfl (.cons (congrArg (fun z=>some (Value.int .i64 z)) (by first|(exfalso;omega)|(unfold nO;repeat (first|rw[if_pos (by omega)]|rw[if_neg (by omega)])))) (.cons (congrArg (fun z=>some (Value.int .i64 z)) (by first|(exfalso;omega)|(unfold fG;repeat (first|rw[if_pos (by omega)]|rw[if_neg (by omega)])))) (.cons (congrArg (fun z=>some (Value.int .i64 z)) (by first|(exfalso;omega)|(unfold qy;repeat (first|rw[if_pos (by omega)]|rw[if_neg (by omega)])))) (.nil)))))⟩
      ·refine ai (ad (ae rfl rfl (dh rfl rfl rfl (ae rfl rfl ?_))));refine aL (g:=34) rfl (fun th=>?_) (fun th=>?_)
       ·refine ak rfl rfl (ae rfl rfl (ak rfl rfl (bY rfl rfl rfl (aP rfl rfl rfl (ab ?_)))));refine bK rfl (fun Mg=>?_) (fun Mg=>?_)
        ·refine ai (ad (ah rfl rfl (ab (ai (ad (ah rfl rfl (ab (ad (ae rfl rfl (gj rfl rfl rfl (by omega) (ah rfl rfl ?_)))))))))));refine ab ?_;exact⟨rfl,rfl,rfl,.cons rfl (.cons rfl (.cons (congrArg (fun z=>some (Value.int .i64 z)) (by first|(exfalso;omega)|(unfold nO;repeat (first|rw[if_pos (by omega)]|rw[if_neg (by omega)])))) (.cons (congrArg (fun z=>some (Value.int .i64 z)) (by first|(exfalso;omega)|(unfold fG;repeat (first|rw[if_pos (by omega)]|rw[if_neg (by omega)])))) (.cons (congrArg (fun z=>some (Value.int .i64 z)) (by first|(exfalso;omega)|(unfold qy;repeat (first|rw[if_pos (by omega)]|rw[if_neg (by omega)])))) (.nil)))))⟩
        ·refine aT ?_;exact⟨rfl,rfl,rfl,.cons rfl (.cons rfl (.cons (congrArg (fun z=>some (Value.int .i64 z)) (by first|(exfalso;omega)|(unfold nO;repeat (first|rw[if_pos (by omega)]|rw[if_neg (by omega)])))) (.cons (congrArg (fun z=>some (Value.int .i64 z)) (by first|(exfalso;omega)|(unfold fG;repeat (first|rw[if_pos (by omega)]|rw[if_neg (by omega)])))) (.cons (congrArg (fun z=>some (Value.int .i64 z)) (by first|(exfalso;omega)|(unfold qy;repeat (first|rw[if_pos (by omega)]|rw[if_neg (by omega)])))) (.nil)))))⟩
       ·refine ao rfl rfl rfl rfl (ao rfl rfl rfl rfl (av rfl rfl rfl (ab (fL rfl (aT ?_)))));exact⟨rfl,rfl,rfl,.cons rfl (.cons rfl (.cons (congrArg (fun z=>some (Value.int .i64 z)) (by first|(exfalso;omega)|(unfold nO;repeat (first|rw[if_pos (by omega)]|rw[if_neg (by omega)])))) (.cons (congrArg (fun z=>some (Value.int .i64 z)) (by first|(exfalso;omega)|(unfold fG;repeat (first|rw[if_pos (by omega)]|rw[if_neg (by omega)])))) (.cons (congrArg (fun z=>some (Value.int .i64 z)) (by first|(exfalso;omega)|(unfold qy;repeat (first|rw[if_pos (by omega)]|rw[if_neg (by omega)])))) (.nil)))))⟩
     ·refine ao rfl rfl rfl rfl (ao rfl rfl rfl rfl (av rfl rfl rfl (ab (fL rfl (ai (ad (ae rfl rfl (dh rfl rfl rfl (ae rfl rfl ?_)))))))));refine aL (g:=34) rfl (fun th=>?_) (fun th=>?_)
      ·refine ak rfl rfl (ae rfl rfl (ak rfl rfl (bY rfl rfl rfl (aP rfl rfl rfl (ab ?_)))));refine bK rfl (fun Mg=>?_) (fun Mg=>?_)
       ·refine ai (ad (ah rfl rfl (ab (ai (ad (ah rfl rfl (ab (ad (ae rfl rfl (gj rfl rfl rfl (by omega) (ah rfl rfl ?_)))))))))));refine ab ?_;exact⟨rfl,rfl,rfl,.cons rfl (.cons rfl (.cons (congrArg (fun z=>some (Value.int .i64 z)) (by first|(exfalso;omega)|(unfold nO;repeat (first|rw[if_pos (by omega)]|rw[if_neg (by omega)])))) (.cons (congrArg (fun z=>some (Value.int .i64 z)) (by first|(exfalso;omega)|(unfold fG;repeat (first|rw[if_pos (by omega)]|rw[if_neg (by omega)])))) (.cons (congrArg (fun z=>some (Value.int .i64 z)) (by first|(exfalso;omega)|(unfold qy;repeat (first|rw[if_pos (by omega)]|rw[if_neg (by omega)])))) (.nil)))))⟩
       ·refine aT ?_;exact⟨rfl,rfl,rfl,.cons rfl (.cons rfl (.cons (congrArg (fun z=>some (Value.int .i64 z)) (by first|(exfalso;omega)|(unfold nO;repeat (first|rw[if_pos (by omega)]|rw[if_neg (by omega)])))) (.cons (congrArg (fun z=>some (Value.int .i64 z)) (by first|(exfalso;omega)|(unfold fG;repeat (first|rw[if_pos (by omega)]|rw[if_neg (by omega)])))) (.cons (congrArg (fun z=>some (Value.int .i64 z)) (by first|(exfalso;omega)|(unfold qy;repeat (first|rw[if_pos (by omega)]|rw[if_neg (by omega)])))) (.nil)))))⟩
      ·refine ao rfl rfl rfl rfl (ao rfl rfl rfl rfl (av rfl rfl rfl (ab (fL rfl (aT ?_)))));exact⟨rfl,rfl,rfl,.cons rfl (.cons rfl (.cons (congrArg (fun z=>some (Value.int .i64 z)) (by first|(exfalso;omega)|(unfold nO;repeat (first|rw[if_pos (by omega)]|rw[if_neg (by omega)])))) (.cons (congrArg (fun z=>some (Value.int .i64 z)) (by first|(exfalso;omega)|(unfold fG;repeat (first|rw[if_pos (by omega)]|rw[if_neg (by omega)])))) (.cons (congrArg (fun z=>some (Value.int .i64 z)) (by first|(exfalso;omega)|(unfold qy;repeat (first|rw[if_pos (by omega)]|rw[if_neg (by omega)])))) (.nil)))))⟩
   ·refine ao rfl rfl rfl rfl (ao rfl rfl rfl rfl (av rfl rfl rfl (ab (fL rfl (ai (ad (ae rfl rfl (dh rfl rfl rfl (ae rfl rfl ?_)))))))));refine aL (g:=26) rfl (fun FC=>?_) (fun FC=>?_)
    ·refine ak rfl rfl (ae rfl rfl (ak rfl rfl (bY rfl rfl rfl (aP rfl rfl rfl (ab ?_)))));refine bK rfl (fun Mf=>?_) (fun Mf=>?_)
     ·refine ai (ad (ah rfl rfl (ab (ai (ad (ah rfl rfl (ab (ad (ae rfl rfl (gj rfl rfl rfl (by omega) (ah rfl rfl ?_)))))))))));refine ab ?_;exact⟨rfl,rfl,rfl,.cons rfl (.cons rfl (.cons (congrArg (fun z=>some (Value.int .i64 z)) (by first|(exfalso;omega)|(unfold nO;repeat (first|rw[if_pos (by omega)]|rw[if_neg (by omega)])))) (.cons (congrArg (fun z=>some (Value.int .i64 z)) (by first|(exfalso;omega)|(unfold fG;repeat (first|rw[if_pos (by omega)]|rw[if_neg (by omega)])))) (.cons (congrArg (fun z=>some (Value.int .i64 z)) (by first|(exfalso;omega)|(unfold qy;repeat (first|rw[if_pos (by omega)]|rw[if_neg (by omega)])))) (.nil)))))⟩
     ·refine ai (ad (ae rfl rfl (dh rfl rfl rfl (ae rfl rfl ?_))));refine aL (g:=34) rfl (fun th=>?_) (fun th=>?_)
      ·refine ak rfl rfl (ae rfl rfl (ak rfl rfl (bY rfl rfl rfl (aP rfl rfl rfl (ab ?_)))));refine bK rfl (fun Mg=>?_) (fun Mg=>?_)
       ·refine ai (ad (ah rfl rfl (ab (ai (ad (ah rfl rfl (ab (ad (ae rfl rfl (gj rfl rfl rfl (by omega) (ah rfl rfl ?_)))))))))));refine ab ?_;exact⟨rfl,rfl,rfl,.cons rfl (.cons rfl (.cons (congrArg (fun z=>some (Value.int .i64 z)) (by first|(exfalso;omega)|(unfold nO;repeat (first|rw[if_pos (by omega)]|rw[if_neg (by omega)])))) (.cons (congrArg (fun z=>some (Value.int .i64 z)) (by first|(exfalso;omega)|(unfold fG;repeat (first|rw[if_pos (by omega)]|rw[if_neg (by omega)])))) (.cons (congrArg (fun z=>some (Value.int .i64 z)) (by first|(exfalso;omega)|(unfold qy;repeat (first|rw[if_pos (by omega)]|rw[if_neg (by omega)])))) (.nil)))))⟩
       ·refine aT ?_;exact⟨rfl,rfl,rfl,.cons rfl (.cons rfl (.cons (congrArg (fun z=>some (Value.int .i64 z)) (by first|(exfalso;omega)|(unfold nO;repeat (first|rw[if_pos (by omega)]|rw[if_neg (by omega)])))) (.cons (congrArg (fun z=>some (Value.int .i64 z)) (by first|(exfalso;omega)|(unfold fG;repeat (first|rw[if_pos (by omega)]|rw[if_neg (by omega)])))) (.cons (congrArg (fun z=>some (Value.int .i64 z)) (by first|(exfalso;omega)|(unfold qy;repeat (first|rw[if_pos (by omega)]|rw[if_neg (by omega)])))) (.nil)))))⟩
      ·refine ao rfl rfl rfl rfl (ao rfl rfl rfl rfl (av rfl rfl rfl (ab (fL rfl (aT ?_)))));exact⟨rfl,rfl,rfl,.cons rfl (.cons rfl (.cons (congrArg (fun z=>some (Value.int .i64 z)) (by first|(exfalso;omega)|(unfold nO;repeat (first|rw[if_pos (by omega)]|rw[if_neg (by omega)])))) (.cons (congrArg (fun z=>some (Value.int .i64 z)) (by first|(exfalso;omega)|(unfold fG;repeat (first|rw[if_pos (by omega)]|rw[if_neg (by omega)])))) (.cons (congrArg (fun z=>some (Value.int .i64 z)) (by first|(exfalso;omega)|(unfold qy;repeat (first|rw[if_pos (by omega)]|rw[if_neg (by omega)])))) (.nil)))))⟩
    ·refine ao rfl rfl rfl rfl (ao rfl rfl rfl rfl (av rfl rfl rfl (ab (fL rfl (ai (ad (ae rfl rfl (dh rfl rfl rfl (ae rfl rfl ?_)))))))));refine aL (g:=34) rfl (fun th=>?_) (fun th=>?_)
     ·refine ak rfl rfl (ae rfl rfl (ak rfl rfl (bY rfl rfl rfl (aP rfl rfl rfl (ab ?_)))));refine bK rfl (fun Mg=>?_) (fun Mg=>?_)
      ·refine ai (ad (ah rfl rfl (ab (ai (ad (ah rfl rfl (ab (ad (ae rfl rfl (gj rfl rfl rfl (by omega) (ah rfl rfl ?_)))))))))));refine ab ?_;exact⟨rfl,rfl,rfl,.cons rfl (.cons rfl (.cons (congrArg (fun z=>some (Value.int .i64 z)) (by first|(exfalso;omega)|(unfold nO;repeat (first|rw[if_pos (by omega)]|rw[if_neg (by omega)])))) (.cons (congrArg (fun z=>some (Value.int .i64 z)) (by first|(exfalso;omega)|(unfold fG;repeat (first|rw[if_pos (by omega)]|rw[if_neg (by omega)])))) (.cons (congrArg (fun z=>some (Value.int .i64 z)) (by first|(exfalso;omega)|(unfold qy;repeat (first|rw[if_pos (by omega)]|rw[if_neg (by omega)])))) (.nil)))))⟩
      ·refine aT ?_;exact⟨rfl,rfl,rfl,.cons rfl (.cons rfl (.cons (congrArg (fun z=>some (Value.int .i64 z)) (by first|(exfalso;omega)|(unfold nO;repeat (first|rw[if_pos (by omega)]|rw[if_neg (by omega)])))) (.cons (congrArg (fun z=>some (Value.int .i64 z)) (by first|(exfalso;omega)|(unfold fG;repeat (first|rw[if_pos (by omega)]|rw[if_neg (by omega)])))) (.cons (congrArg (fun z=>some (Value.int .i64 z)) (by first|(exfalso;omega)|(unfold qy;repeat (first|rw[if_pos (by omega)]|rw[if_neg (by omega)])))) (.nil)))))⟩
     ·refine ao rfl rfl rfl rfl (ao rfl rfl rfl rfl (av rfl rfl rfl (ab (fL rfl (aT ?_)))));exact⟨rfl,rfl,rfl,.cons rfl (.cons rfl (.cons (congrArg (fun z=>some (Value.int .i64 z)) (by first|(exfalso;omega)|(unfold nO;repeat (first|rw[if_pos (by omega)]|rw[if_neg (by omega)])))) (.cons (congrArg (fun z=>some (Value.int .i64 z)) (by first|(exfalso;omega)|(unfold fG;repeat (first|rw[if_pos (by omega)]|rw[if_neg (by omega)])))) (.cons (congrArg (fun z=>some (Value.int .i64 z)) (by first|(exfalso;omega)|(unfold qy;repeat (first|rw[if_pos (by omega)]|rw[if_neg (by omega)])))) (.nil)))))⟩
  ·refine ai (ai (ad (ae rfl rfl (jD rfl rfl rfl (ae rfl rfl ?_)))));refine aL (g:=42) rfl (fun P4=>?_) (fun P4=>?_)
   ·refine ao rfl rfl rfl rfl (ao rfl rfl rfl rfl (ao rfl rfl rfl rfl (ao rfl rfl rfl rfl (aP rfl rfl rfl (ab (kY rfl (ai (ad (ah rfl rfl (ah rfl rfl (ab ?_)))))))))));refine aI ?_
    have hx:nO (iv l 0:Int)=0∨∃k:Nat,1≤k∧(k:Int)<nO (iv l 0:Int)∧iD l k=false:=by
     rw[←hc];by_cases h0:nO c=0
     ·exact .inl h0
     ·have Uj:=lr h0;exact .inr ⟨(nO c).toNat-1,by omega,by omega,eF.2 fun h=>by have:=(fy.1 h).1;omega⟩
    have e:dec l=(65533,1):=CK (by omega) hx;exact dX rfl rfl rfl ⟨by rw[e];rfl,rfl⟩
   ·refine ak rfl rfl (ae rfl rfl (ak rfl rfl (Rg.kN aF rfl rfl (br (v':= .int .i64 (l.length:Int)) (by simp[ByteArray.size]) (ak rfl rfl (ae rfl rfl (ak rfl rfl (bY rfl rfl rfl (av rfl rfl rfl (ab ?_))))))))));refine bK rfl (fun P5=>?_) (fun P5=>?_)
    ·refine ai (ad (ah rfl rfl (ah rfl rfl (ab (aI ?_)))))
     have hx:nO (iv l 0:Int)=0∨∃k:Nat,1≤k∧(k:Int)<nO (iv l 0:Int)∧iD l k=false:=by
      rw[←hc];by_cases h0:nO c=0
      ·exact .inl h0
      ·have Uj:=lr h0;exact .inr ⟨(nO c).toNat-1,by omega,by omega,eF.2 fun h=>by have:=(fy.1 h).1;omega⟩
     have e:dec l=(65533,1):=CK (by omega) hx;exact dX rfl rfl rfl ⟨by rw[e];rfl,rfl⟩
    ·refine aT (ai (ai (ad (ah rfl rfl (ab (a7 ?_))))));refine dd (σ:=Nat) (fun i=>[(0,.string ⟨l.toArray⟩),(5,.int .i64 (nO c)),(6,.int .i64 (fG c)),(7,.int .i64 (vO l (i-1))),(8,.int .i64 (i:Int))]) (fun i w=>w=w0∧1≤i∧(i:Int)≤nO c∧∀k:Nat,1≤k→k<i→iD l k=true) (fun i=>(nO c).toNat-i) 1 (.cons rfl (.cons rfl (.cons rfl (.cons (congrArg (fun z=>some (Value.int .i64 z)) (by show qy c=qy (iv l 0:Int);rw[hc])) (.cons rfl .nil))))) ?_ ?_
     ·exact⟨rfl,aZ _,by have:=lr (c:=c) (by omega);omega,fun k h1 h2=>by omega⟩
     ·rintro i w ⟨rfl,vB,AQ,fY⟩;have Uj:=lr (c:=c) (by omega)
      have Z8:0≤vO l (i-1)∧vO l (i-1)≤100000000:=by
       exact Me (l:=l) (c:=c) (k:=i-1) hc (by omega) (fun j h1 h2=>fY j h1 (by omega)) (by omega)
      refine ai (ai (ad (ae rfl rfl (ae rfl rfl (bY rfl rfl rfl (ab ?_))))));refine bK rfl (fun c22=>?_) (fun c22=>?_)
      ·refine aT (ai (a7 (ai (ad (ae rfl rfl (ae rfl rfl ?_))))));have l2:i<l.length:=by omega
       refine Rg.CF (c:=l.getD i 0) aF rfl rfl rfl (by omega) (by rw[bH,aG,aK l2];rfl) ?_;refine br (v':= .int .u8 (iv l i:Int)) rfl ?_;have OO:=l0 l i;refine Rg.xl cd an rfl rfl (by omega) (ah rfl rfl (ab (ai (ai (ad (ae rfl rfl (bY rfl rfl rfl (ae rfl rfl ?_))))))));refine aL (g:=59) rfl (fun P7=>?_) (fun P7=>?_)
       ·refine ao rfl rfl rfl rfl (ao rfl rfl rfl rfl (aP rfl rfl rfl (ab (kY rfl (ai (ad (ah rfl rfl (ah rfl rfl (ab (aI ?_))))))))))
        have hx:nO (iv l 0:Int)=0∨∃k:Nat,1≤k∧(k:Int)<nO (iv l 0:Int)∧iD l k=false:=by
         rw[←hc];exact .inr ⟨i,vB,by omega,eF.2 fun h=>by have:=fy.1 h;omega⟩
        have e:dec l=(65533,1):=CK (by omega) hx;exact dX rfl rfl rfl ⟨by rw[e];rfl,rfl⟩
       ·refine ak rfl rfl (ae rfl rfl (ak rfl rfl (dh rfl rfl rfl (av rfl rfl rfl (ab ?_)))));refine bK rfl (fun c25=>?_) (fun c25=>?_)
        ·refine ai (ad (ah rfl rfl (ah rfl rfl (ab (aI ?_)))))
         have hx:nO (iv l 0:Int)=0∨∃k:Nat,1≤k∧(k:Int)<nO (iv l 0:Int)∧iD l k=false:=by
          rw[←hc];exact .inr ⟨i,vB,by omega,eF.2 fun h=>by have:=fy.1 h;omega⟩
         have e:dec l=(65533,1):=CK (by omega) hx;exact dX rfl rfl rfl ⟨by rw[e];rfl,rfl⟩
        ·refine aT (ad (ae rfl rfl (Rg.La rfl rfl rfl (by omega) (ae rfl rfl (bA rfl rfl rfl (by omega) (gj rfl rfl rfl (by omega) (ah rfl rfl (ab (ad (ae rfl rfl (bA rfl rfl rfl (by omega) ?_)))))))))));refine ah rfl rfl (ab ?_);refine⟨rfl,i+1,(.cons rfl (.cons rfl (.cons rfl (.cons (congrArg (fun z=>some (Value.int .i64 z)) (by obtain⟨q,rfl⟩:∃q,i=q+1:=⟨i-1,by omega⟩;rfl)) (.cons rfl .nil))))),?_,?_⟩
         ·exact⟨rfl,by omega,by omega,fun k h1 h2=>by
           rcases ec k i with h|h
           ·exact fY k h1 h
           ·obtain rfl:k=i:=by omega
            exact fy.2 (by omega)⟩
         ·omega
      ·refine cB (ai (ai (ad (ae rfl rfl (ae rfl rfl (bY rfl rfl rfl (ae rfl rfl ?_)))))));refine aL (g:=71) rfl (fun P8=>?_) (fun P8=>?_)
       ·refine ao rfl rfl rfl rfl (ao rfl rfl rfl rfl (aP rfl rfl rfl (ae rfl rfl (ao rfl rfl rfl rfl (ao rfl rfl rfl rfl (ao rfl rfl rfl rfl (b4 rfl rfl rfl (b4 rfl rfl rfl (ao rfl rfl rfl rfl (aP rfl rfl rfl (ab ?_)))))))))));refine kY rfl (ai (ad (ah rfl rfl (ah rfl rfl (ab (aI ?_))))));have e:=zj (l:=l) (by rw[←hc];omega) (by rw[←hc];exact fun k h1 h2=>fY k h1 (by omega)) (vO l (i-1)) (by rw[←hc];congr 1;omega);rw[←hc,if_pos (by omega)]at e;exact dX rfl rfl rfl ⟨by rw[e];rfl,rfl⟩
       ·refine ak rfl rfl (ae rfl rfl (ak rfl rfl (nT rfl rfl rfl (av rfl rfl rfl (ae rfl rfl ?_)))));refine aL (g:=75) rfl (fun P9=>?_) (fun P9=>?_)
        ·refine ao rfl rfl rfl rfl (ao rfl rfl rfl rfl (ao rfl rfl rfl rfl (b4 rfl rfl rfl (b4 rfl rfl rfl (ao rfl rfl rfl rfl (aP rfl rfl rfl (ab (kY rfl (ai (ad (ah rfl rfl ?_)))))))))));refine ah rfl rfl (ab (aI ?_));have e:=zj (l:=l) (by rw[←hc];omega) (by rw[←hc];exact fun k h1 h2=>fY k h1 (by omega)) (vO l (i-1)) (by rw[←hc];congr 1;omega);rw[←hc,if_pos (by omega)]at e;exact dX rfl rfl rfl ⟨by rw[e];rfl,rfl⟩
        ·refine ak rfl rfl (ae rfl rfl (ak rfl rfl (dh rfl rfl rfl (ak rfl rfl (ae rfl rfl ?_)))));refine aL (g:=78) rfl (fun Mh=>?_) (fun Mh=>?_)
         ·refine ak rfl rfl (ae rfl rfl (ak rfl rfl (fc rfl rfl rfl (ak rfl rfl (aP rfl rfl rfl (av rfl rfl rfl (ab ?_)))))));refine bK rfl (fun c28=>?_) (fun c28=>?_)
          ·refine ai (ad (ah rfl rfl (ah rfl rfl (ab (aI ?_)))));have e:=zj (l:=l) (by rw[←hc];omega) (by rw[←hc];exact fun k h1 h2=>fY k h1 (by omega)) (vO l (i-1)) (by rw[←hc];congr 1;omega);rw[←hc,if_pos (by omega)]at e;exact dX rfl rfl rfl ⟨by rw[e];rfl,rfl⟩
          ·refine aT (ai (ad (ae rfl rfl (ae rfl rfl (ah rfl rfl (ah rfl rfl (ab (aI ?_))))))));have e:=zj (l:=l) (by rw[←hc];omega) (by rw[←hc];exact fun k h1 h2=>fY k h1 (by omega)) (vO l (i-1)) (by rw[←hc];congr 1;omega);rw[←hc,if_neg (by omega)]at e;exact dX rfl rfl rfl ⟨by rw[e];simp only[];rw[uv Z8.1,uv (by omega)],rfl⟩
         ·refine ao rfl rfl rfl rfl (ao rfl rfl rfl rfl (ak rfl rfl (av rfl rfl rfl (av rfl rfl rfl (ab (fL rfl (aT (ai (ad (ae rfl rfl (ae rfl rfl ?_)))))))))));refine ah rfl rfl (ah rfl rfl (ab (aI ?_)));have e:=zj (l:=l) (by rw[←hc];omega) (by rw[←hc];exact fun k h1 h2=>fY k h1 (by omega)) (vO l (i-1)) (by rw[←hc];congr 1;omega);rw[←hc,if_neg (by omega)]at e;exact dX rfl rfl rfl ⟨by rw[e];simp only[];rw[uv Z8.1,uv (by omega)],rfl⟩
theorem zm {M:aD} {l:List UInt8} (w0:World) (hM:Lt M w0) (hl:l.length≤1000000):
  Spec Tryz.prog 251 #[.string ⟨l.toArray⟩] w0 (fun v w=>((RT.int .i64).sl).V M w (ei l) v∧Step M w0 M w aw):=by
 have lu:=hM;refine aR (args:=[_]) (fn:=Tryz.f251) Tryz.func251 rfl (n:=22) Tryz.ntmps251 ?_;have S:Step M w0 M w0 aw:=(al _ _).bN (fun _ h=>h.elim) (fun _ h=>h.elim);refine ai (ad (ah rfl rfl (ab (ai (ad (ah rfl rfl (ab (ai (a7 ?_)))))))));refine dd (σ:=Nat×List Int×Value) (fun q=>[(0,.string ⟨(l.drop q.1).toArray⟩),(3,q.2.2)]) (fun q w=>∃M',Lt M' w∧Step M w0 M' w aw∧Own (RT.int .i64) 3 M' w w0.heap.size q.2.2 q.2.1∧ei l=q.2.1++ei (l.drop q.1)∧q.1≤l.length) (fun q=>l.length-q.1) (0,[],.slice none 0 0) (.cons rfl (.cons rfl .nil)) ?_ ?_
 ·exact⟨M,hM,S,eh _ _ _ _ _,by simp,by simp⟩
 ·rintro⟨p,xs,u⟩ w ⟨M1,hM,S,ho,xN,hp⟩;dsimp only at ho xN hp ⊢;refine ai (ai (ad (ae rfl rfl (Rg.kN aF rfl rfl (br (v':= .int .i64 ((l.drop p).length:Int)) (by simp[ByteArray.size]) (nT rfl rfl rfl (ab ?_)))))));refine bK rfl (fun c2=>?_) (fun c2=>?_)
  ·refine aT (a7 (ai (ad (ae rfl rfl ?_))));have eD:l.drop p≠[]:=by intro h;rw[h]at c2;simp at c2
   have sr:p<l.length:=by have:=lJ.2 eD;rw[cT]at this;omega
   have VJ:=jJ eD;refine aJ rfl rfl Vm (FB (l:=l.drop p) _ eD (by rw[cT];omega)) (fun r3 w3 hc=>?_);obtain⟨rfl,rfl⟩:=hc;refine ae rfl rfl (bu rfl rfl rfl (bu rfl rfl rfl (ah rfl rfl (ah rfl rfl (ab (ai (ad (ae rfl rfl (ae rfl rfl ?_)))))))));refine fa (A:=RT.int .i64) (hn:=by decide) (M:=M1) ar I3 (by decide) rfl rfl hM (gu (by have:=qv (l.drop p);omega)) (.inr ⟨rfl,rfl⟩) (fun Qa Qb lv pD=>?_);replace ho:=ho.aW pD;replace hM:=pD.lt hM;have:=S.size;replace S:=S.ax pD;refine cQ (M:=M1) (base:=w0.heap.size) ar I3 rfl rfl rfl rfl ho lv (aq _ _) (by simp;have:=gr l;rw[xN]at this;simp at this;omega) (by simp;have:=gr l;rw[xN]at this;simp at this;omega) (S.size) (fun Qd VK adA Qe Mi=>?_);replace lv:=lv.le Mi.le;replace hM:=Mi.lt hM;have:=S.size;replace S:=S.dE Mi ho (aZ _);replace ho:=Qe;refine ah rfl rfl (ab (ad (ae rfl rfl (ae rfl rfl (Rg.IA aF rfl rfl rfl (by omega) (br (v':= .string ⟨(l.drop (p+(dec (l.drop p)).2)).toArray⟩) (by rw[List.drop_drop];simp) (ah rfl rfl (ab ?_))))))));refine⟨rfl,(p+(dec (l.drop p)).2,xs++[((dec (l.drop p)).1:Int)],Qd),(.cons rfl (.cons rfl .nil)),?_,?_⟩
   ·refine⟨VK,hM,S,ho,?_,?_⟩
    ·rw[xN,oQ eD,List.drop_drop];simp
    ·have:=VJ.2;rw[cT]at this;dsimp only;omega
   ·have:=VJ.1;have:=VJ.2;rw[cT]at this;dsimp only;omega
  ·refine cB (ai (ad (ae rfl rfl (ah rfl rfl (ab (aI ?_))))));have e:ei l=xs:=by rw[xN,ju (by simp at c2;omega),qw];simp
   rw[e];have:=gr l;rw[e]at this;exact aO rfl rfl ⟨ho.close lu S (by omega),S.back⟩
theorem od {M:aD} {w:World} {x:Int} (h:0≤x∧x<256):RT.u8.V M w x.toNat.toUInt8 (.int .u8 (IntKind.u8.wrap x)):=by
 have e1:IntKind.u8.wrap x=x:=by
  show(if(false&&decide (x%256≥128))=true then x%256-256 else x%256)=x;rw[if_neg (by simp)];omega
 have e2:((x.toNat.toUInt8).toNat:Int)=x:=by
  have:x.toNat.toUInt8.toNat=x.toNat%256:=UInt8.toNat_ofNat' ..;omega
 rw[e1];exact⟨[.int .u8 x],by show _=_;rw[e2],rfl⟩
theorem VL {r:Int} (h:0≤r∧r<128):Lib.encodeRune r=[r.toNat.toUInt8]:=by rw[Lib.encodeRune,Lib.encodeRuneZ_one h.1 (by omega)];rfl
theorem VM {r:Int} (h:128≤r∧r<2048):Lib.encodeRune r=[(192+r/64).toNat.toUInt8,(128+r%64).toNat.toUInt8]:=by rw[Lib.encodeRune,Lib.encodeRuneZ_two h.1 (by omega)];rfl
theorem DX (c:Int):pC c<55296∨57343<pC c:=by
 unfold pC
 split
 ·omega
 ·rename_i h
  have h2:Lib.validRune c=true:=by
   cases hv:Lib.validRune c with
   |true=>rfl
   |false=>exact absurd (.inr (.inr hv)) h
  simp only[Lib.validRune,decide_eq_true_eq]at h2;omega
theorem VN {r:Int} (h:2048≤r∧r<65536) (h2:r<55296∨57343<r):Lib.encodeRune r=[(224+r/4096).toNat.toUInt8,(128+r/64%64).toNat.toUInt8,(128+r%64).toNat.toUInt8]:=by rw[Lib.encodeRune,Lib.encodeRuneZ_three (by omega)];rfl
theorem VO {r:Int} (h:65536≤r∧r≤1114111):Lib.encodeRune r=[(240+r/262144).toNat.toUInt8,(128+r/4096%64).toNat.toUInt8,(128+r/64%64).toNat.toUInt8,(128+r%64).toNat.toUInt8]:=by rw[Lib.encodeRune,Lib.encodeRuneZ_four h.1 h.2];rfl
theorem pE {c:Int} (h:c<0∨c>1114111∨(55296≤c∧c≤57343)):pC c=65533:=by
 rw[pC,if_pos];rcases h with h|h|h
 ·exact .inl h
 ·exact .inr (.inl h)
 ·refine .inr (.inr ?_);simp only[Lib.validRune,decide_eq_false_iff_not];omega
theorem np {c:Int} (h: ¬(c<0∨c>1114111∨(55296≤c∧c≤57343))):pC c=c:=by
 rw[pC,if_neg];rintro(h1|h1|h1)
 ·omega
 ·omega
 ·simp only[Lib.validRune,decide_eq_false_iff_not]at h1;omega
theorem ti {M:aD} {xs:List Int} {v0:Value} (w0:World) (hM:Lt M w0) (hv:((RT.int .i64).sl).V M w0 xs v0) (hl:xs.length≤1000000):
  Spec Tryz.prog 254 #[v0] w0 (fun v w=>v= .string ⟨(iO xs).toArray⟩∧Step M w0 M w aw):=by
 have lu:=hM;refine aR (args:=[_]) (fn:=Tryz.f254) Tryz.func254 rfl (n:=91) Tryz.ntmps254 ?_;have S:Step M w0 M w0 aw:=(al _ _).bN (fun _ h=>h.elim) (fun _ h=>h.elim);refine ai (ad (ah rfl rfl (ab (ai (ad (ah rfl rfl (ab (ai (ai (ad (ah rfl rfl ?_)))))))))));refine ab (a7 ?_);refine dd (σ:=Nat×Value) (fun q=>[(0,v0),(3,q.2),(4,.int .i64 (q.1:Int))]) (fun q w=>∃M',Lt M' w∧Step M w0 M' w aw∧Own RT.u8 5 M' w w0.heap.size q.2 (iO (xs.take q.1))∧((RT.int .i64).sl).V M' w xs v0∧q.1≤xs.length) (fun q=>xs.length-q.1) (0,.slice none 0 0) (.cons rfl (.cons rfl (.cons rfl .nil))) ?_ ?_
 ·exact⟨M,hM,S,eh _ _ _ _ _,hv,bG _⟩
 ·rintro⟨k,u⟩ w ⟨M1,hM,S,ho,hv,hk⟩;dsimp only at ho hk ⊢;refine ai (ai (ad (ae rfl rfl (ae rfl rfl (bM ar rfl hv rfl (bY rfl rfl rfl (ab ?_)))))));refine bK rfl (fun c3=>?_) (fun c3=>?_)
  ·refine aT (ai (a7 (ai (ad (ae rfl rfl (ae rfl rfl ?_))))));refine dq (M:=M1) ar I3 rfl rfl rfl hv (aq _ _) (by omega) (fun u5 c DY FD=>?_);refine cn (M:=M1) an rfl rfl FD (aq _ _) (fun in5=>?_);have tk:xs.take (k+1)=xs.take k++[c]:=by rw[cw];simp only[aG]at DY;rw[DY];rfl
   have hsr:=CJ c;have hsc:=DX c;refine ah rfl rfl (ab ?_);refine T.Cx [(0,v0),(3,u),(4,.int .i64 (k:Int)),(5,.int .i64 (pC c))] ?_ ?_
   ·refine ai (ad (ae rfl rfl (bY rfl rfl rfl (ae rfl rfl ?_))));refine aL (g:=18) rfl (fun Mj=>?_) (fun Mj=>?_)
    ·refine ao rfl rfl rfl rfl (ao rfl rfl rfl rfl (aP rfl rfl rfl (ae rfl rfl (ao rfl rfl rfl rfl (ao rfl rfl rfl rfl (ao rfl rfl rfl rfl (b4 rfl rfl rfl (b4 rfl rfl rfl (ao rfl rfl rfl rfl (aP rfl rfl rfl (ab ?_)))))))))));refine kY rfl (ad (ah rfl rfl (ab ?_)));exact⟨rfl,rfl,rfl,.cons rfl (.cons rfl (.cons rfl (.cons (congrArg (fun z=>some (Value.int .i64 z)) (by first|exact(pE (by omega)).symm|exact(np (by omega)).symm)) (.nil))))⟩
    ·refine ak rfl rfl (ae rfl rfl (ak rfl rfl (nT rfl rfl rfl (av rfl rfl rfl (ae rfl rfl ?_)))));refine aL (g:=22) rfl (fun VP=>?_) (fun VP=>?_)
     ·refine ao rfl rfl rfl rfl (ao rfl rfl rfl rfl (ao rfl rfl rfl rfl (b4 rfl rfl rfl (b4 rfl rfl rfl (ao rfl rfl rfl rfl (aP rfl rfl rfl (ab (kY rfl (ad (ah rfl rfl (ab ?_)))))))))));exact⟨rfl,rfl,rfl,.cons rfl (.cons rfl (.cons rfl (.cons (congrArg (fun z=>some (Value.int .i64 z)) (by first|exact(pE (by omega)).symm|exact(np (by omega)).symm)) (.nil))))⟩
     ·refine ak rfl rfl (ae rfl rfl (ak rfl rfl (dh rfl rfl rfl (ak rfl rfl (ae rfl rfl ?_)))));refine aL (g:=25) rfl (fun VQ=>?_) (fun VQ=>?_)
      ·refine ak rfl rfl (ae rfl rfl (ak rfl rfl (fc rfl rfl rfl (ak rfl rfl (aP rfl rfl rfl (av rfl rfl rfl (ab ?_)))))));refine bK rfl (fun c6=>?_) (fun c6=>?_)
       ·refine ad (ah rfl rfl (ab ?_));exact⟨rfl,rfl,rfl,.cons rfl (.cons rfl (.cons rfl (.cons (congrArg (fun z=>some (Value.int .i64 z)) (by first|exact(pE (by omega)).symm|exact(np (by omega)).symm)) (.nil))))⟩
       ·refine aT ?_;exact⟨rfl,rfl,rfl,.cons rfl (.cons rfl (.cons rfl (.cons (congrArg (fun z=>some (Value.int .i64 z)) (by first|exact(pE (by omega)).symm|exact(np (by omega)).symm)) (.nil))))⟩
      ·refine ao rfl rfl rfl rfl (ao rfl rfl rfl rfl (ak rfl rfl (av rfl rfl rfl (av rfl rfl rfl (ab (fL rfl (aT ?_)))))));exact⟨rfl,rfl,rfl,.cons rfl (.cons rfl (.cons rfl (.cons (congrArg (fun z=>some (Value.int .i64 z)) (by first|exact(pE (by omega)).symm|exact(np (by omega)).symm)) (.nil))))⟩
   ·refine ai (ad (ae rfl rfl (bY rfl rfl rfl (ab ?_))));refine bK rfl (fun c8=>?_) (fun c8=>?_)
    ·refine ad (ae rfl rfl (ae rfl rfl (uy an cd rfl rfl ?_)));refine fa (A:=RT.u8) (hn:=by decide) (M:=M1) bp I5 (by decide) rfl rfl hM (od (by omega)) (.inr ⟨rfl,rfl⟩) (fun adC Qf FE nq=>?_);replace hv:=hv.le nq.le;replace ho:=ho.aW nq;replace hM:=nq.lt hM;have:=S.size;replace S:=S.ax nq;refine cQ (M:=M1) (base:=w0.heap.size) bp I5 rfl rfl rfl rfl ho FE (aq _ _) (by have:=fe (xs.take k);rw[bS]at this;simp;omega) (by have:=fe (xs.take k);rw[bS]at this;simp;omega) (S.size) (fun Qg VR VS Qh uN=>?_);replace hv:=hv.le uN.le;replace FE:=FE.le uN.le;replace hM:=uN.lt hM;have:=S.size;replace S:=S.dE uN ho (aZ _);replace ho:=Qh;refine ah rfl rfl (ab (ad (ae rfl rfl (bA rfl rfl rfl (by omega) (ah rfl rfl (ab ?_))))));refine⟨rfl,(k+1,Qg),(.cons rfl (.cons rfl (.cons rfl .nil))),?_,?_⟩
     ·exact⟨VR,hM,S,by rw[tk,j6,VL (by omega)];exact ho,hv,by dsimp only;omega⟩
     ·dsimp only;omega
    ·refine ai (ad (ae rfl rfl (bY rfl rfl rfl (ab ?_))));refine bK rfl (fun VT=>?_) (fun VT=>?_)
     ·refine ad (ae rfl rfl (ae rfl rfl (Rg.uC rfl rfl rfl (by omega) (bA rfl rfl rfl (by omega) (uy an cd rfl rfl (ae rfl rfl (Rg.rY rfl rfl rfl (by omega) (bA rfl rfl rfl (by omega) (uy an cd rfl rfl ?_)))))))));refine Rg.Tf (A:=RT.u8) (hn:=by decide) (M:=M1) (xs:=[(192+pC c/64).toNat.toUInt8,(128+pC c%64).toNat.toUInt8]) bp I5 rfl (by decide) rfl ⟨_,_,_,rfl,rfl,rfl,od (by omega),_,_,_,rfl,rfl,rfl,od (by omega),rfl⟩ rfl hM (.inr ⟨rfl,rfl⟩) (by decide) (fun Z9 aaa Bs CL=>?_);replace hv:=hv.le CL.le;replace ho:=ho.aW CL;replace hM:=CL.lt hM;have:=S.size;replace S:=S.ax CL;refine cQ (M:=M1) (base:=w0.heap.size) bp I5 rfl rfl rfl rfl ho Bs (aq _ _) (by have:=fe (xs.take k);rw[bS]at this;simp;omega) (by have:=fe (xs.take k);rw[bS]at this;simp;omega) (S.size) (fun Mk Ml VU IH xO=>?_);replace hv:=hv.le xO.le;replace Bs:=Bs.le xO.le;replace hM:=xO.lt hM;have:=S.size;replace S:=S.dE xO ho (aZ _);replace ho:=IH;refine ah rfl rfl (ab (ad (ae rfl rfl (bA rfl rfl rfl (by omega) (ah rfl rfl (ab ?_))))));refine⟨rfl,(k+1,Mk),(.cons rfl (.cons rfl (.cons rfl .nil))),?_,?_⟩
      ·exact⟨Ml,hM,S,by rw[tk,j6,VM (by omega)];exact ho,hv,by dsimp only;omega⟩
      ·dsimp only;omega
     ·refine ai (ad (ae rfl rfl (bY rfl rfl rfl (ab ?_))));refine bK rfl (fun Qi=>?_) (fun Qi=>?_)
      ·refine ad (ae rfl rfl (ae rfl rfl (Rg.uC rfl rfl rfl (by omega) (bA rfl rfl rfl (by omega) (uy an cd rfl rfl (ae rfl rfl (Rg.uC rfl rfl rfl (by omega) (Rg.rY rfl rfl rfl (by omega) (bA rfl rfl rfl (by omega) (uy an cd rfl rfl (ae rfl rfl ?_)))))))))));refine Rg.rY rfl rfl rfl (by omega) (bA rfl rfl rfl (by omega) (uy an cd rfl rfl ?_));refine Rg.Tf (A:=RT.u8) (hn:=by decide) (M:=M1) (xs:=[(224+pC c/4096).toNat.toUInt8,(128+pC c/64%64).toNat.toUInt8,(128+pC c%64).toNat.toUInt8]) bp I5 rfl (by decide) rfl ⟨_,_,_,rfl,rfl,rfl,od (by omega),_,_,_,rfl,rfl,rfl,od (by omega),_,_,_,rfl,rfl,rfl,od (by omega),rfl⟩ rfl hM (.inr ⟨rfl,rfl⟩) (by decide) (fun VV VW xQ xR=>?_);replace hv:=hv.le xR.le;replace ho:=ho.aW xR;replace hM:=xR.lt hM;have:=S.size;replace S:=S.ax xR;refine cQ (M:=M1) (base:=w0.heap.size) bp I5 rfl rfl rfl rfl ho xQ (aq _ _) (by have:=fe (xs.take k);rw[bS]at this;simp;omega) (by have:=fe (xs.take k);rw[bS]at this;simp;omega) (S.size) (fun Mm Mn VX II xS=>?_);replace hv:=hv.le xS.le;replace xQ:=xQ.le xS.le;replace hM:=xS.lt hM;have:=S.size;replace S:=S.dE xS ho (aZ _);replace ho:=II;refine ah rfl rfl (ab (ad (ae rfl rfl (bA rfl rfl rfl (by omega) (ah rfl rfl (ab ?_))))));refine⟨rfl,(k+1,Mm),(.cons rfl (.cons rfl (.cons rfl .nil))),?_,?_⟩
       ·exact⟨Mn,hM,S,by rw[tk,j6,VN (by omega) hsc];exact ho,hv,by dsimp only;omega⟩
       ·dsimp only;omega
      ·refine ad (ae rfl rfl (ae rfl rfl (Rg.uC rfl rfl rfl (by omega) (bA rfl rfl rfl (by omega) (uy an cd rfl rfl (ae rfl rfl (Rg.uC rfl rfl rfl (by omega) (Rg.rY rfl rfl rfl (by omega) (bA rfl rfl rfl (by omega) (uy an cd rfl rfl (ae rfl rfl ?_)))))))))));refine Rg.uC rfl rfl rfl (by omega) (Rg.rY rfl rfl rfl (by omega) (bA rfl rfl rfl (by omega) (uy an cd rfl rfl (ae rfl rfl (Rg.rY rfl rfl rfl (by omega) (bA rfl rfl rfl (by omega) (uy an cd rfl rfl ?_)))))));refine Rg.Tf (A:=RT.u8) (hn:=by decide) (M:=M1) (xs:=[(240+pC c/262144).toNat.toUInt8,(128+pC c/4096%64).toNat.toUInt8,(128+pC c/64%64).toNat.toUInt8,(128+pC c%64).toNat.toUInt8]) bp I5 rfl (by decide) rfl ⟨_,_,_,rfl,rfl,rfl,od (by omega),_,_,_,rfl,rfl,rfl,od (by omega),_,_,_,rfl,rfl,rfl,od (by omega),_,_,_,rfl,rfl,rfl,od (by omega),rfl⟩ rfl hM (.inr ⟨rfl,rfl⟩) (by decide) (fun VY VZ xT xU=>?_);replace hv:=hv.le xU.le;replace ho:=ho.aW xU;replace hM:=xU.lt hM;have:=S.size;replace S:=S.ax xU;refine cQ (M:=M1) (base:=w0.heap.size) bp I5 rfl rfl rfl rfl ho xT (aq _ _) (by have:=fe (xs.take k);rw[bS]at this;simp;omega) (by have:=fe (xs.take k);rw[bS]at this;simp;omega) (S.size) (fun Mo Mp V0 IK xV=>?_);replace hv:=hv.le xV.le;replace xT:=xT.le xV.le;replace hM:=xV.lt hM;have:=S.size;replace S:=S.dE xV ho (aZ _);replace ho:=IK;refine ah rfl rfl (ab (ad (ae rfl rfl (bA rfl rfl rfl (by omega) (ah rfl rfl (ab ?_))))));refine⟨rfl,(k+1,Mo),(.cons rfl (.cons rfl (.cons rfl .nil))),?_,?_⟩
       ·exact⟨Mp,hM,S,by rw[tk,j6,VO (by omega)];exact ho,hv,by dsimp only;omega⟩
       ·dsimp only;omega
  ·refine cB (ai (ad (ae rfl rfl (Rg.b2s (hn:=by decide) (M:=M) bp cd aF rfl rfl (ho.close lu S (by have:=fe (xs.take k);rw[bS]at this;omega)) (aq _ _) (ah rfl rfl (ab (aI ?_)))))));have e:xs.take k=xs:=bT (by omega);rw[e];exact aO rfl rfl ⟨rfl,S.back⟩
end Go.K
