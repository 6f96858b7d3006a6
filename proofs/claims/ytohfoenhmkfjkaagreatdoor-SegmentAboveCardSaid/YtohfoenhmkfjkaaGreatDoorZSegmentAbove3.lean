/- What the law 'SegmentAbove' needs of walks and plain Lean, part 3: nothing is assumed beyond the texts that it imports. -/
import Derived.Ground.Names2Prog
import Derived.Shelf.SlGeneric
import Derived.Shelf.Strings.SlTrimAscii
import Derived.Test.YtohfoenhmkfjkaaGreatDoorProg
import Derived.Test.YtohfoenhmkfjkaaGreatDoorZSegmentAbove1
import Derived.Test.YtohfoenhmkfjkaaGreatDoorZSegmentAbove2
namespace Go.K
open Go.Proofs
set_option linter.unusedVariables false
set_option linter.unusedSimpArgs false
set_option maxRecDepth 10000
/-- 'concordance/concordanceref01.Letter' -/
theorem rletter_spec (c : Int) (w0 : World) :
    Spec Tryz.prog 253 #[.int .i64 c] w0 (fun v w => v = .bool (letB c) ∧ w = w0) := by
  refine spec_of (args := [_]) (fn := Tryz.f253) Tryz.func253 rfl (n := 31) Tryz.ntmps253 ?_
  refine T.seq ?_
  refine T.region ?_ -- region 0
  refine Rg.assign rfl rfl ?_
  refine Rg.nil ?_
  refine T.seq ?_
  refine T.seq ?_
  refine T.region ?_ -- region 1
  refine Rg.move rfl rfl ?_
  refine Rg.ige rfl rfl rfl ?_
  refine Rg.move rfl rfl ?_
  refine Rg.gsplitp (g := 5) rfl (fun g1_2 => ?_) (fun g1_2 => ?_)
  · -- g1_2 True
    refine Rg.gyes rfl rfl ?_
    refine Rg.move rfl rfl ?_
    refine Rg.gyes rfl rfl ?_
    refine Rg.ile rfl rfl rfl ?_
    refine Rg.pickt rfl rfl rfl ?_
    refine Rg.move rfl rfl ?_
    refine Rg.gsplitp (g := 9) rfl (fun g1_6 => ?_) (fun g1_6 => ?_)
    · -- g1_6 True
      refine Rg.gno rfl rfl rfl rfl ?_
      refine Rg.gno rfl rfl rfl rfl ?_
      refine Rg.gno rfl rfl rfl rfl ?_
      refine Rg.gnox rfl rfl rfl ?_
      refine Rg.gnox rfl rfl rfl ?_
      refine Rg.gno rfl rfl rfl rfl ?_
      refine Rg.pickt rfl rfl rfl ?_
      refine Rg.nil ?_
      refine T.ift rfl ?_
      refine T.seq ?_
      refine T.region ?_ -- region 2
      refine Rg.assign rfl rfl ?_
      refine Rg.nil ?_
      refine T.ret ?_
      exact Kret1 rfl rfl ⟨by simp only [letB]; first | rfl | (congr 1; first | (exact (decide_eq_true (by omega)).symm) | (exact (decide_eq_false (by omega)).symm) | (exact decide_eq_decide.2 (by omega))), rfl⟩
    · -- g1_6 False
      refine Rg.gyes rfl rfl ?_
      refine Rg.move rfl rfl ?_
      refine Rg.gyes rfl rfl ?_
      refine Rg.ige rfl rfl rfl ?_
      refine Rg.gyes rfl rfl ?_
      refine Rg.move rfl rfl ?_
      refine Rg.gsplitp (g := 12) rfl (fun g1_9 => ?_) (fun g1_9 => ?_)
      · -- g1_9 True
        refine Rg.gyes rfl rfl ?_
        refine Rg.move rfl rfl ?_
        refine Rg.gyes rfl rfl ?_
        refine Rg.ile rfl rfl rfl ?_
        refine Rg.gyes rfl rfl ?_
        refine Rg.pickt rfl rfl rfl ?_
        refine Rg.pickf rfl rfl rfl ?_
        refine Rg.nil ?_
        refine T.ifp rfl (fun c1 => ?_) (fun c1 => ?_)
        · -- c1 True
          refine T.seq ?_
          refine T.region ?_ -- region 2
          refine Rg.assign rfl rfl ?_
          refine Rg.nil ?_
          refine T.ret ?_
          exact Kret1 rfl rfl ⟨by simp only [letB]; first | rfl | (congr 1; first | (exact (decide_eq_true (by omega)).symm) | (exact (decide_eq_false (by omega)).symm) | (exact decide_eq_decide.2 (by omega))), rfl⟩
        · -- c1 False
          refine T.skip ?_
          refine T.seq ?_
          refine T.region ?_ -- region 3
          refine Rg.move rfl rfl ?_
          refine Rg.ige rfl rfl rfl ?_
          refine Rg.move rfl rfl ?_
          refine Rg.gsplitp (g := 19) rfl (fun g3_2 => ?_) (fun g3_2 => ?_)
          · -- g3_2 True
            refine Rg.gyes rfl rfl ?_
            refine Rg.move rfl rfl ?_
            refine Rg.gyes rfl rfl ?_
            refine Rg.ile rfl rfl rfl ?_
            refine Rg.pickt rfl rfl rfl ?_
            refine Rg.move rfl rfl ?_
            refine Rg.gsplitp (g := 23) rfl (fun g3_6 => ?_) (fun g3_6 => ?_)
            · -- g3_6 True
              refine Rg.gyes rfl rfl ?_
              refine Rg.move rfl rfl ?_
              refine Rg.gyes rfl rfl ?_
              refine Rg.ine rfl rfl rfl ?_
              refine Rg.pickt rfl rfl rfl ?_
              refine Rg.move rfl rfl ?_
              refine Rg.gsplitp (g := 27) rfl (fun g3_10 => ?_) (fun g3_10 => ?_)
              · -- g3_10 True
                refine Rg.gyes rfl rfl ?_
                refine Rg.move rfl rfl ?_
                refine Rg.gyes rfl rfl ?_
                refine Rg.ine rfl rfl rfl ?_
                refine Rg.pickt rfl rfl rfl ?_
                refine Rg.assign rfl rfl ?_
                refine Rg.nil ?_
                refine T.ret ?_
                exact Kret1 rfl rfl ⟨by simp only [letB]; first | rfl | (congr 1; first | (exact (decide_eq_true (by omega)).symm) | (exact (decide_eq_false (by omega)).symm) | (exact decide_eq_decide.2 (by omega))), rfl⟩
              · -- g3_10 False
                refine Rg.gno rfl rfl rfl rfl ?_
                refine Rg.gno rfl rfl rfl rfl ?_
                refine Rg.pickf rfl rfl rfl ?_
                refine Rg.assign rfl rfl ?_
                refine Rg.nil ?_
                refine T.ret ?_
                exact Kret1 rfl rfl ⟨by simp only [letB]; first | rfl | (congr 1; first | (exact (decide_eq_true (by omega)).symm) | (exact (decide_eq_false (by omega)).symm) | (exact decide_eq_decide.2 (by omega))), rfl⟩
            · -- g3_6 False
              refine Rg.gno rfl rfl rfl rfl ?_
              refine Rg.gno rfl rfl rfl rfl ?_
              refine Rg.pickf rfl rfl rfl ?_
              refine Rg.move rfl rfl ?_
              refine Rg.gno rfl rfl rfl rfl ?_
              refine Rg.gno rfl rfl rfl rfl ?_
              refine Rg.pickf rfl rfl rfl ?_
              refine Rg.assign rfl rfl ?_
              refine Rg.nil ?_
              refine T.ret ?_
              exact Kret1 rfl rfl ⟨by simp only [letB]; first | rfl | (congr 1; first | (exact (decide_eq_true (by omega)).symm) | (exact (decide_eq_false (by omega)).symm) | (exact decide_eq_decide.2 (by omega))), rfl⟩
          · -- g3_2 False
            refine Rg.gno rfl rfl rfl rfl ?_
            refine Rg.gno rfl rfl rfl rfl ?_
            refine Rg.pickf rfl rfl rfl ?_
            refine Rg.move rfl rfl ?_
            refine Rg.gno rfl rfl rfl rfl ?_
            refine Rg.gno rfl rfl rfl rfl ?_
            refine Rg.pickf rfl rfl rfl ?_
            refine Rg.move rfl rfl ?_
            refine Rg.gno rfl rfl rfl rfl ?_
            refine Rg.gno rfl rfl rfl rfl ?_
            refine Rg.pickf rfl rfl rfl ?_
            refine Rg.assign rfl rfl ?_
            refine Rg.nil ?_
            refine T.ret ?_
            exact Kret1 rfl rfl ⟨by simp only [letB]; first | rfl | (congr 1; first | (exact (decide_eq_true (by omega)).symm) | (exact (decide_eq_false (by omega)).symm) | (exact decide_eq_decide.2 (by omega))), rfl⟩
      · -- g1_9 False
        refine Rg.gno rfl rfl rfl rfl ?_
        refine Rg.gno rfl rfl rfl rfl ?_
        refine Rg.gyes rfl rfl ?_
        refine Rg.pickf rfl rfl rfl ?_
        refine Rg.pickf rfl rfl rfl ?_
        refine Rg.nil ?_
        refine T.iff rfl ?_
        refine T.skip ?_
        refine T.seq ?_
        refine T.region ?_ -- region 3
        refine Rg.move rfl rfl ?_
        refine Rg.ige rfl rfl rfl ?_
        refine Rg.move rfl rfl ?_
        refine Rg.gsplitp (g := 19) rfl (fun g3_2 => ?_) (fun g3_2 => ?_)
        · -- g3_2 True
          refine Rg.gyes rfl rfl ?_
          refine Rg.move rfl rfl ?_
          refine Rg.gyes rfl rfl ?_
          refine Rg.ile rfl rfl rfl ?_
          refine Rg.pickt rfl rfl rfl ?_
          refine Rg.move rfl rfl ?_
          refine Rg.gsplitp (g := 23) rfl (fun g3_6 => ?_) (fun g3_6 => ?_)
          · -- g3_6 True
            refine Rg.gyes rfl rfl ?_
            refine Rg.move rfl rfl ?_
            refine Rg.gyes rfl rfl ?_
            refine Rg.ine rfl rfl rfl ?_
            refine Rg.pickt rfl rfl rfl ?_
            refine Rg.move rfl rfl ?_
            refine Rg.gsplitp (g := 27) rfl (fun g3_10 => ?_) (fun g3_10 => ?_)
            · -- g3_10 True
              refine Rg.gyes rfl rfl ?_
              refine Rg.move rfl rfl ?_
              refine Rg.gyes rfl rfl ?_
              refine Rg.ine rfl rfl rfl ?_
              refine Rg.pickt rfl rfl rfl ?_
              refine Rg.assign rfl rfl ?_
              refine Rg.nil ?_
              refine T.ret ?_
              exact Kret1 rfl rfl ⟨by simp only [letB]; first | rfl | (congr 1; first | (exact (decide_eq_true (by omega)).symm) | (exact (decide_eq_false (by omega)).symm) | (exact decide_eq_decide.2 (by omega))), rfl⟩
            · -- g3_10 False
              refine Rg.gno rfl rfl rfl rfl ?_
              refine Rg.gno rfl rfl rfl rfl ?_
              refine Rg.pickf rfl rfl rfl ?_
              refine Rg.assign rfl rfl ?_
              refine Rg.nil ?_
              refine T.ret ?_
              exact Kret1 rfl rfl ⟨by simp only [letB]; first | rfl | (congr 1; first | (exact (decide_eq_true (by omega)).symm) | (exact (decide_eq_false (by omega)).symm) | (exact decide_eq_decide.2 (by omega))), rfl⟩
          · -- g3_6 False
            refine Rg.gno rfl rfl rfl rfl ?_
            refine Rg.gno rfl rfl rfl rfl ?_
            refine Rg.pickf rfl rfl rfl ?_
            refine Rg.move rfl rfl ?_
            refine Rg.gno rfl rfl rfl rfl ?_
            refine Rg.gno rfl rfl rfl rfl ?_
            refine Rg.pickf rfl rfl rfl ?_
            refine Rg.assign rfl rfl ?_
            refine Rg.nil ?_
            refine T.ret ?_
            exact Kret1 rfl rfl ⟨by simp only [letB]; first | rfl | (congr 1; first | (exact (decide_eq_true (by omega)).symm) | (exact (decide_eq_false (by omega)).symm) | (exact decide_eq_decide.2 (by omega))), rfl⟩
        · -- g3_2 False
          refine Rg.gno rfl rfl rfl rfl ?_
          refine Rg.gno rfl rfl rfl rfl ?_
          refine Rg.pickf rfl rfl rfl ?_
          refine Rg.move rfl rfl ?_
          refine Rg.gno rfl rfl rfl rfl ?_
          refine Rg.gno rfl rfl rfl rfl ?_
          refine Rg.pickf rfl rfl rfl ?_
          refine Rg.move rfl rfl ?_
          refine Rg.gno rfl rfl rfl rfl ?_
          refine Rg.gno rfl rfl rfl rfl ?_
          refine Rg.pickf rfl rfl rfl ?_
          refine Rg.assign rfl rfl ?_
          refine Rg.nil ?_
          refine T.ret ?_
          exact Kret1 rfl rfl ⟨by simp only [letB]; first | rfl | (congr 1; first | (exact (decide_eq_true (by omega)).symm) | (exact (decide_eq_false (by omega)).symm) | (exact decide_eq_decide.2 (by omega))), rfl⟩
  · -- g1_2 False
    refine Rg.gno rfl rfl rfl rfl ?_
    refine Rg.gno rfl rfl rfl rfl ?_
    refine Rg.pickf rfl rfl rfl ?_
    refine Rg.move rfl rfl ?_
    refine Rg.gyes rfl rfl ?_
    refine Rg.move rfl rfl ?_
    refine Rg.gyes rfl rfl ?_
    refine Rg.ige rfl rfl rfl ?_
    refine Rg.gyes rfl rfl ?_
    refine Rg.move rfl rfl ?_
    refine Rg.gsplitp (g := 12) rfl (fun g1_9 => ?_) (fun g1_9 => ?_)
    · -- g1_9 True
      refine Rg.gyes rfl rfl ?_
      refine Rg.move rfl rfl ?_
      refine Rg.gyes rfl rfl ?_
      refine Rg.ile rfl rfl rfl ?_
      refine Rg.gyes rfl rfl ?_
      refine Rg.pickt rfl rfl rfl ?_
      refine Rg.pickf rfl rfl rfl ?_
      refine Rg.nil ?_
      refine T.ifp rfl (fun c1 => ?_) (fun c1 => ?_)
      · -- c1 True
        refine T.seq ?_
        refine T.region ?_ -- region 2
        refine Rg.assign rfl rfl ?_
        refine Rg.nil ?_
        refine T.ret ?_
        exact Kret1 rfl rfl ⟨by simp only [letB]; first | rfl | (congr 1; first | (exact (decide_eq_true (by omega)).symm) | (exact (decide_eq_false (by omega)).symm) | (exact decide_eq_decide.2 (by omega))), rfl⟩
      · -- c1 False
        refine T.skip ?_
        refine T.seq ?_
        refine T.region ?_ -- region 3
        refine Rg.move rfl rfl ?_
        refine Rg.ige rfl rfl rfl ?_
        refine Rg.move rfl rfl ?_
        refine Rg.gsplitp (g := 19) rfl (fun g3_2 => ?_) (fun g3_2 => ?_)
        · -- g3_2 True
          refine Rg.gyes rfl rfl ?_
          refine Rg.move rfl rfl ?_
          refine Rg.gyes rfl rfl ?_
          refine Rg.ile rfl rfl rfl ?_
          refine Rg.pickt rfl rfl rfl ?_
          refine Rg.move rfl rfl ?_
          refine Rg.gsplitp (g := 23) rfl (fun g3_6 => ?_) (fun g3_6 => ?_)
          · -- g3_6 True
            refine Rg.gyes rfl rfl ?_
            refine Rg.move rfl rfl ?_
            refine Rg.gyes rfl rfl ?_
            refine Rg.ine rfl rfl rfl ?_
            refine Rg.pickt rfl rfl rfl ?_
            refine Rg.move rfl rfl ?_
            refine Rg.gsplitp (g := 27) rfl (fun g3_10 => ?_) (fun g3_10 => ?_)
            · -- g3_10 True
              refine Rg.gyes rfl rfl ?_
              refine Rg.move rfl rfl ?_
              refine Rg.gyes rfl rfl ?_
              refine Rg.ine rfl rfl rfl ?_
              refine Rg.pickt rfl rfl rfl ?_
              refine Rg.assign rfl rfl ?_
              refine Rg.nil ?_
              refine T.ret ?_
              exact Kret1 rfl rfl ⟨by simp only [letB]; first | rfl | (congr 1; first | (exact (decide_eq_true (by omega)).symm) | (exact (decide_eq_false (by omega)).symm) | (exact decide_eq_decide.2 (by omega))), rfl⟩
            · -- g3_10 False
              refine Rg.gno rfl rfl rfl rfl ?_
              refine Rg.gno rfl rfl rfl rfl ?_
              refine Rg.pickf rfl rfl rfl ?_
              refine Rg.assign rfl rfl ?_
              refine Rg.nil ?_
              refine T.ret ?_
              exact Kret1 rfl rfl ⟨by simp only [letB]; first | rfl | (congr 1; first | (exact (decide_eq_true (by omega)).symm) | (exact (decide_eq_false (by omega)).symm) | (exact decide_eq_decide.2 (by omega))), rfl⟩
          · -- g3_6 False
            refine Rg.gno rfl rfl rfl rfl ?_
            refine Rg.gno rfl rfl rfl rfl ?_
            refine Rg.pickf rfl rfl rfl ?_
            refine Rg.move rfl rfl ?_
            refine Rg.gno rfl rfl rfl rfl ?_
            refine Rg.gno rfl rfl rfl rfl ?_
            refine Rg.pickf rfl rfl rfl ?_
            refine Rg.assign rfl rfl ?_
            refine Rg.nil ?_
            refine T.ret ?_
            exact Kret1 rfl rfl ⟨by simp only [letB]; first | rfl | (congr 1; first | (exact (decide_eq_true (by omega)).symm) | (exact (decide_eq_false (by omega)).symm) | (exact decide_eq_decide.2 (by omega))), rfl⟩
        · -- g3_2 False
          refine Rg.gno rfl rfl rfl rfl ?_
          refine Rg.gno rfl rfl rfl rfl ?_
          refine Rg.pickf rfl rfl rfl ?_
          refine Rg.move rfl rfl ?_
          refine Rg.gno rfl rfl rfl rfl ?_
          refine Rg.gno rfl rfl rfl rfl ?_
          refine Rg.pickf rfl rfl rfl ?_
          refine Rg.move rfl rfl ?_
          refine Rg.gno rfl rfl rfl rfl ?_
          refine Rg.gno rfl rfl rfl rfl ?_
          refine Rg.pickf rfl rfl rfl ?_
          refine Rg.assign rfl rfl ?_
          refine Rg.nil ?_
          refine T.ret ?_
          exact Kret1 rfl rfl ⟨by simp only [letB]; first | rfl | (congr 1; first | (exact (decide_eq_true (by omega)).symm) | (exact (decide_eq_false (by omega)).symm) | (exact decide_eq_decide.2 (by omega))), rfl⟩
    · -- g1_9 False
      refine Rg.gno rfl rfl rfl rfl ?_
      refine Rg.gno rfl rfl rfl rfl ?_
      refine Rg.gyes rfl rfl ?_
      refine Rg.pickf rfl rfl rfl ?_
      refine Rg.pickf rfl rfl rfl ?_
      refine Rg.nil ?_
      refine T.iff rfl ?_
      refine T.skip ?_
      refine T.seq ?_
      refine T.region ?_ -- region 3
      refine Rg.move rfl rfl ?_
      refine Rg.ige rfl rfl rfl ?_
      refine Rg.move rfl rfl ?_
      refine Rg.gsplitp (g := 19) rfl (fun g3_2 => ?_) (fun g3_2 => ?_)
      · -- g3_2 True
        refine Rg.gyes rfl rfl ?_
        refine Rg.move rfl rfl ?_
        refine Rg.gyes rfl rfl ?_
        refine Rg.ile rfl rfl rfl ?_
        refine Rg.pickt rfl rfl rfl ?_
        refine Rg.move rfl rfl ?_
        refine Rg.gsplitp (g := 23) rfl (fun g3_6 => ?_) (fun g3_6 => ?_)
        · -- g3_6 True
          refine Rg.gyes rfl rfl ?_
          refine Rg.move rfl rfl ?_
          refine Rg.gyes rfl rfl ?_
          refine Rg.ine rfl rfl rfl ?_
          refine Rg.pickt rfl rfl rfl ?_
          refine Rg.move rfl rfl ?_
          refine Rg.gsplitp (g := 27) rfl (fun g3_10 => ?_) (fun g3_10 => ?_)
          · -- g3_10 True
            refine Rg.gyes rfl rfl ?_
            refine Rg.move rfl rfl ?_
            refine Rg.gyes rfl rfl ?_
            refine Rg.ine rfl rfl rfl ?_
            refine Rg.pickt rfl rfl rfl ?_
            refine Rg.assign rfl rfl ?_
            refine Rg.nil ?_
            refine T.ret ?_
            exact Kret1 rfl rfl ⟨by simp only [letB]; first | rfl | (congr 1; first | (exact (decide_eq_true (by omega)).symm) | (exact (decide_eq_false (by omega)).symm) | (exact decide_eq_decide.2 (by omega))), rfl⟩
          · -- g3_10 False
            refine Rg.gno rfl rfl rfl rfl ?_
            refine Rg.gno rfl rfl rfl rfl ?_
            refine Rg.pickf rfl rfl rfl ?_
            refine Rg.assign rfl rfl ?_
            refine Rg.nil ?_
            refine T.ret ?_
            exact Kret1 rfl rfl ⟨by simp only [letB]; first | rfl | (congr 1; first | (exact (decide_eq_true (by omega)).symm) | (exact (decide_eq_false (by omega)).symm) | (exact decide_eq_decide.2 (by omega))), rfl⟩
        · -- g3_6 False
          refine Rg.gno rfl rfl rfl rfl ?_
          refine Rg.gno rfl rfl rfl rfl ?_
          refine Rg.pickf rfl rfl rfl ?_
          refine Rg.move rfl rfl ?_
          refine Rg.gno rfl rfl rfl rfl ?_
          refine Rg.gno rfl rfl rfl rfl ?_
          refine Rg.pickf rfl rfl rfl ?_
          refine Rg.assign rfl rfl ?_
          refine Rg.nil ?_
          refine T.ret ?_
          exact Kret1 rfl rfl ⟨by simp only [letB]; first | rfl | (congr 1; first | (exact (decide_eq_true (by omega)).symm) | (exact (decide_eq_false (by omega)).symm) | (exact decide_eq_decide.2 (by omega))), rfl⟩
      · -- g3_2 False
        refine Rg.gno rfl rfl rfl rfl ?_
        refine Rg.gno rfl rfl rfl rfl ?_
        refine Rg.pickf rfl rfl rfl ?_
        refine Rg.move rfl rfl ?_
        refine Rg.gno rfl rfl rfl rfl ?_
        refine Rg.gno rfl rfl rfl rfl ?_
        refine Rg.pickf rfl rfl rfl ?_
        refine Rg.move rfl rfl ?_
        refine Rg.gno rfl rfl rfl rfl ?_
        refine Rg.gno rfl rfl rfl rfl ?_
        refine Rg.pickf rfl rfl rfl ?_
        refine Rg.assign rfl rfl ?_
        refine Rg.nil ?_
        refine T.ret ?_
        exact Kret1 rfl rfl ⟨by simp only [letB]; first | rfl | (congr 1; first | (exact (decide_eq_true (by omega)).symm) | (exact (decide_eq_false (by omega)).symm) | (exact decide_eq_decide.2 (by omega))), rfl⟩
/-- 'concordance/concordanceref01.Fold' -/
theorem rfold_spec (c : Int) (w0 : World) (hc : 0 ≤ c ∧ c ≤ 1114111) :
    Spec Tryz.prog 218 #[.int .i64 c] w0 (fun v w => v = .int .i64 (foldZ c) ∧ w = w0) := by
  refine spec_of (args := [_]) (fn := Tryz.f218) Tryz.func218 rfl (n := 28) Tryz.ntmps218 ?_
  refine T.seq ?_
  refine T.region ?_ -- region 0
  refine Rg.assign rfl rfl ?_
  refine Rg.nil ?_
  refine T.seq ?_
  refine T.seq ?_
  refine T.region ?_ -- region 1
  refine Rg.move rfl rfl ?_
  refine Rg.ige rfl rfl rfl ?_
  refine Rg.move rfl rfl ?_
  refine Rg.gsplitp (g := 5) rfl (fun g1_2 => ?_) (fun g1_2 => ?_)
  · -- g1_2 True
    refine Rg.gyes rfl rfl ?_
    refine Rg.move rfl rfl ?_
    refine Rg.gyes rfl rfl ?_
    refine Rg.ile rfl rfl rfl ?_
    refine Rg.pickt rfl rfl rfl ?_
    refine Rg.move rfl rfl ?_
    refine Rg.gsplitp (g := 9) rfl (fun g1_6 => ?_) (fun g1_6 => ?_)
    · -- g1_6 True
      refine Rg.gno rfl rfl rfl rfl ?_
      refine Rg.gno rfl rfl rfl rfl ?_
      refine Rg.gno rfl rfl rfl rfl ?_
      refine Rg.gnox rfl rfl rfl ?_
      refine Rg.gnox rfl rfl rfl ?_
      refine Rg.gno rfl rfl rfl rfl ?_
      refine Rg.pickt rfl rfl rfl ?_
      refine Rg.move rfl rfl ?_
      refine Rg.gno rfl rfl rfl rfl ?_
      refine Rg.gno rfl rfl rfl rfl ?_
      refine Rg.gno rfl rfl rfl rfl ?_
      refine Rg.gnox rfl rfl rfl ?_
      refine Rg.gnox rfl rfl rfl ?_
      refine Rg.gno rfl rfl rfl rfl ?_
      refine Rg.pickt rfl rfl rfl ?_
      refine Rg.nil ?_
      refine T.ift rfl ?_
      refine T.seq ?_
      refine T.region ?_ -- region 2
      refine Rg.move rfl rfl ?_
      refine Rg.iadd rfl rfl rfl (by omega) ?_
      refine Rg.assign rfl rfl ?_
      refine Rg.nil ?_
      refine T.ret ?_
      exact Kret1 rfl rfl ⟨by rw [foldZ, if_pos (by omega)], rfl⟩
    · -- g1_6 False
      refine Rg.gyes rfl rfl ?_
      refine Rg.move rfl rfl ?_
      refine Rg.gyes rfl rfl ?_
      refine Rg.ige rfl rfl rfl ?_
      refine Rg.gyes rfl rfl ?_
      refine Rg.move rfl rfl ?_
      refine Rg.gsplitp (g := 12) rfl (fun g1_9 => ?_) (fun g1_9 => ?_)
      · -- g1_9 True
        refine Rg.gyes rfl rfl ?_
        refine Rg.move rfl rfl ?_
        refine Rg.gyes rfl rfl ?_
        refine Rg.ile rfl rfl rfl ?_
        refine Rg.gyes rfl rfl ?_
        refine Rg.pickt rfl rfl rfl ?_
        refine Rg.pickf rfl rfl rfl ?_
        refine Rg.move rfl rfl ?_
        refine Rg.gsplitp (g := 17) rfl (fun g1_14 => ?_) (fun g1_14 => ?_)
        · -- g1_14 True
          refine Rg.gno rfl rfl rfl rfl ?_
          refine Rg.gno rfl rfl rfl rfl ?_
          refine Rg.gno rfl rfl rfl rfl ?_
          refine Rg.gnox rfl rfl rfl ?_
          refine Rg.gnox rfl rfl rfl ?_
          refine Rg.gno rfl rfl rfl rfl ?_
          refine Rg.pickt rfl rfl rfl ?_
          refine Rg.nil ?_
          refine T.ift rfl ?_
          refine T.seq ?_
          refine T.region ?_ -- region 2
          refine Rg.move rfl rfl ?_
          refine Rg.iadd rfl rfl rfl (by omega) ?_
          refine Rg.assign rfl rfl ?_
          refine Rg.nil ?_
          refine T.ret ?_
          exact Kret1 rfl rfl ⟨by rw [foldZ, if_pos (by omega)], rfl⟩
        · -- g1_14 False
          refine Rg.gyes rfl rfl ?_
          refine Rg.move rfl rfl ?_
          refine Rg.gyes rfl rfl ?_
          refine Rg.ige rfl rfl rfl ?_
          refine Rg.gyes rfl rfl ?_
          refine Rg.move rfl rfl ?_
          refine Rg.gsplitp (g := 20) rfl (fun g1_17 => ?_) (fun g1_17 => ?_)
          · -- g1_17 True
            refine Rg.gyes rfl rfl ?_
            refine Rg.move rfl rfl ?_
            refine Rg.gyes rfl rfl ?_
            refine Rg.ile rfl rfl rfl ?_
            refine Rg.gyes rfl rfl ?_
            refine Rg.pickt rfl rfl rfl ?_
            refine Rg.pickf rfl rfl rfl ?_
            refine Rg.nil ?_
            refine T.ifp rfl (fun c1 => ?_) (fun c1 => ?_)
            · -- c1 True
              refine T.seq ?_
              refine T.region ?_ -- region 2
              refine Rg.move rfl rfl ?_
              refine Rg.iadd rfl rfl rfl (by omega) ?_
              refine Rg.assign rfl rfl ?_
              refine Rg.nil ?_
              refine T.ret ?_
              exact Kret1 rfl rfl ⟨by rw [foldZ, if_pos (by omega)], rfl⟩
            · -- c1 False
              refine T.skip ?_
              refine T.seq ?_
              refine T.region ?_ -- region 3
              refine Rg.move rfl rfl ?_
              refine Rg.assign rfl rfl ?_
              refine Rg.nil ?_
              refine T.ret ?_
              exact Kret1 rfl rfl ⟨by rw [foldZ, if_neg (by omega)], rfl⟩
          · -- g1_17 False
            refine Rg.gno rfl rfl rfl rfl ?_
            refine Rg.gno rfl rfl rfl rfl ?_
            refine Rg.gyes rfl rfl ?_
            refine Rg.pickf rfl rfl rfl ?_
            refine Rg.pickf rfl rfl rfl ?_
            refine Rg.nil ?_
            refine T.iff rfl ?_
            refine T.skip ?_
            refine T.seq ?_
            refine T.region ?_ -- region 3
            refine Rg.move rfl rfl ?_
            refine Rg.assign rfl rfl ?_
            refine Rg.nil ?_
            refine T.ret ?_
            exact Kret1 rfl rfl ⟨by rw [foldZ, if_neg (by omega)], rfl⟩
      · -- g1_9 False
        refine Rg.gno rfl rfl rfl rfl ?_
        refine Rg.gno rfl rfl rfl rfl ?_
        refine Rg.gyes rfl rfl ?_
        refine Rg.pickf rfl rfl rfl ?_
        refine Rg.pickf rfl rfl rfl ?_
        refine Rg.move rfl rfl ?_
        refine Rg.gyes rfl rfl ?_
        refine Rg.move rfl rfl ?_
        refine Rg.gyes rfl rfl ?_
        refine Rg.ige rfl rfl rfl ?_
        refine Rg.gyes rfl rfl ?_
        refine Rg.move rfl rfl ?_
        refine Rg.gsplitp (g := 20) rfl (fun g1_17 => ?_) (fun g1_17 => ?_)
        · -- g1_17 True
          refine Rg.gyes rfl rfl ?_
          refine Rg.move rfl rfl ?_
          refine Rg.gyes rfl rfl ?_
          refine Rg.ile rfl rfl rfl ?_
          refine Rg.gyes rfl rfl ?_
          refine Rg.pickt rfl rfl rfl ?_
          refine Rg.pickf rfl rfl rfl ?_
          refine Rg.nil ?_
          refine T.ifp rfl (fun c1 => ?_) (fun c1 => ?_)
          · -- c1 True
            refine T.seq ?_
            refine T.region ?_ -- region 2
            refine Rg.move rfl rfl ?_
            refine Rg.iadd rfl rfl rfl (by omega) ?_
            refine Rg.assign rfl rfl ?_
            refine Rg.nil ?_
            refine T.ret ?_
            exact Kret1 rfl rfl ⟨by rw [foldZ, if_pos (by omega)], rfl⟩
          · -- c1 False
            refine T.skip ?_
            refine T.seq ?_
            refine T.region ?_ -- region 3
            refine Rg.move rfl rfl ?_
            refine Rg.assign rfl rfl ?_
            refine Rg.nil ?_
            refine T.ret ?_
            exact Kret1 rfl rfl ⟨by rw [foldZ, if_neg (by omega)], rfl⟩
        · -- g1_17 False
          refine Rg.gno rfl rfl rfl rfl ?_
          refine Rg.gno rfl rfl rfl rfl ?_
          refine Rg.gyes rfl rfl ?_
          refine Rg.pickf rfl rfl rfl ?_
          refine Rg.pickf rfl rfl rfl ?_
          refine Rg.nil ?_
          refine T.iff rfl ?_
          refine T.skip ?_
          refine T.seq ?_
          refine T.region ?_ -- region 3
          refine Rg.move rfl rfl ?_
          refine Rg.assign rfl rfl ?_
          refine Rg.nil ?_
          refine T.ret ?_
          exact Kret1 rfl rfl ⟨by rw [foldZ, if_neg (by omega)], rfl⟩
  · -- g1_2 False
    refine Rg.gno rfl rfl rfl rfl ?_
    refine Rg.gno rfl rfl rfl rfl ?_
    refine Rg.pickf rfl rfl rfl ?_
    refine Rg.move rfl rfl ?_
    refine Rg.gyes rfl rfl ?_
    refine Rg.move rfl rfl ?_
    refine Rg.gyes rfl rfl ?_
    refine Rg.ige rfl rfl rfl ?_
    refine Rg.gyes rfl rfl ?_
    refine Rg.move rfl rfl ?_
    refine Rg.gsplitp (g := 12) rfl (fun g1_9 => ?_) (fun g1_9 => ?_)
    · -- g1_9 True
      refine Rg.gyes rfl rfl ?_
      refine Rg.move rfl rfl ?_
      refine Rg.gyes rfl rfl ?_
      refine Rg.ile rfl rfl rfl ?_
      refine Rg.gyes rfl rfl ?_
      refine Rg.pickt rfl rfl rfl ?_
      refine Rg.pickf rfl rfl rfl ?_
      refine Rg.move rfl rfl ?_
      refine Rg.gsplitp (g := 17) rfl (fun g1_14 => ?_) (fun g1_14 => ?_)
      · -- g1_14 True
        refine Rg.gno rfl rfl rfl rfl ?_
        refine Rg.gno rfl rfl rfl rfl ?_
        refine Rg.gno rfl rfl rfl rfl ?_
        refine Rg.gnox rfl rfl rfl ?_
        refine Rg.gnox rfl rfl rfl ?_
        refine Rg.gno rfl rfl rfl rfl ?_
        refine Rg.pickt rfl rfl rfl ?_
        refine Rg.nil ?_
        refine T.ift rfl ?_
        refine T.seq ?_
        refine T.region ?_ -- region 2
        refine Rg.move rfl rfl ?_
        refine Rg.iadd rfl rfl rfl (by omega) ?_
        refine Rg.assign rfl rfl ?_
        refine Rg.nil ?_
        refine T.ret ?_
        exact Kret1 rfl rfl ⟨by rw [foldZ, if_pos (by omega)], rfl⟩
      · -- g1_14 False
        refine Rg.gyes rfl rfl ?_
        refine Rg.move rfl rfl ?_
        refine Rg.gyes rfl rfl ?_
        refine Rg.ige rfl rfl rfl ?_
        refine Rg.gyes rfl rfl ?_
        refine Rg.move rfl rfl ?_
        refine Rg.gsplitp (g := 20) rfl (fun g1_17 => ?_) (fun g1_17 => ?_)
        · -- g1_17 True
          refine Rg.gyes rfl rfl ?_
          refine Rg.move rfl rfl ?_
          refine Rg.gyes rfl rfl ?_
          refine Rg.ile rfl rfl rfl ?_
          refine Rg.gyes rfl rfl ?_
          refine Rg.pickt rfl rfl rfl ?_
          refine Rg.pickf rfl rfl rfl ?_
          refine Rg.nil ?_
          refine T.ifp rfl (fun c1 => ?_) (fun c1 => ?_)
          · -- c1 True
            refine T.seq ?_
            refine T.region ?_ -- region 2
            refine Rg.move rfl rfl ?_
            refine Rg.iadd rfl rfl rfl (by omega) ?_
            refine Rg.assign rfl rfl ?_
            refine Rg.nil ?_
            refine T.ret ?_
            exact Kret1 rfl rfl ⟨by rw [foldZ, if_pos (by omega)], rfl⟩
          · -- c1 False
            refine T.skip ?_
            refine T.seq ?_
            refine T.region ?_ -- region 3
            refine Rg.move rfl rfl ?_
            refine Rg.assign rfl rfl ?_
            refine Rg.nil ?_
            refine T.ret ?_
            exact Kret1 rfl rfl ⟨by rw [foldZ, if_neg (by omega)], rfl⟩
        · -- g1_17 False
          refine Rg.gno rfl rfl rfl rfl ?_
          refine Rg.gno rfl rfl rfl rfl ?_
          refine Rg.gyes rfl rfl ?_
          refine Rg.pickf rfl rfl rfl ?_
          refine Rg.pickf rfl rfl rfl ?_
          refine Rg.nil ?_
          refine T.iff rfl ?_
          refine T.skip ?_
          refine T.seq ?_
          refine T.region ?_ -- region 3
          refine Rg.move rfl rfl ?_
          refine Rg.assign rfl rfl ?_
          refine Rg.nil ?_
          refine T.ret ?_
          exact Kret1 rfl rfl ⟨by rw [foldZ, if_neg (by omega)], rfl⟩
    · -- g1_9 False
      refine Rg.gno rfl rfl rfl rfl ?_
      refine Rg.gno rfl rfl rfl rfl ?_
      refine Rg.gyes rfl rfl ?_
      refine Rg.pickf rfl rfl rfl ?_
      refine Rg.pickf rfl rfl rfl ?_
      refine Rg.move rfl rfl ?_
      refine Rg.gyes rfl rfl ?_
      refine Rg.move rfl rfl ?_
      refine Rg.gyes rfl rfl ?_
      refine Rg.ige rfl rfl rfl ?_
      refine Rg.gyes rfl rfl ?_
      refine Rg.move rfl rfl ?_
      refine Rg.gsplitp (g := 20) rfl (fun g1_17 => ?_) (fun g1_17 => ?_)
      · -- g1_17 True
        refine Rg.gyes rfl rfl ?_
        refine Rg.move rfl rfl ?_
        refine Rg.gyes rfl rfl ?_
        refine Rg.ile rfl rfl rfl ?_
        refine Rg.gyes rfl rfl ?_
        refine Rg.pickt rfl rfl rfl ?_
        refine Rg.pickf rfl rfl rfl ?_
        refine Rg.nil ?_
        refine T.ifp rfl (fun c1 => ?_) (fun c1 => ?_)
        · -- c1 True
          refine T.seq ?_
          refine T.region ?_ -- region 2
          refine Rg.move rfl rfl ?_
          refine Rg.iadd rfl rfl rfl (by omega) ?_
          refine Rg.assign rfl rfl ?_
          refine Rg.nil ?_
          refine T.ret ?_
          exact Kret1 rfl rfl ⟨by rw [foldZ, if_pos (by omega)], rfl⟩
        · -- c1 False
          refine T.skip ?_
          refine T.seq ?_
          refine T.region ?_ -- region 3
          refine Rg.move rfl rfl ?_
          refine Rg.assign rfl rfl ?_
          refine Rg.nil ?_
          refine T.ret ?_
          exact Kret1 rfl rfl ⟨by rw [foldZ, if_neg (by omega)], rfl⟩
      · -- g1_17 False
        refine Rg.gno rfl rfl rfl rfl ?_
        refine Rg.gno rfl rfl rfl rfl ?_
        refine Rg.gyes rfl rfl ?_
        refine Rg.pickf rfl rfl rfl ?_
        refine Rg.pickf rfl rfl rfl ?_
        refine Rg.nil ?_
        refine T.iff rfl ?_
        refine T.skip ?_
        refine T.seq ?_
        refine T.region ?_ -- region 3
        refine Rg.move rfl rfl ?_
        refine Rg.assign rfl rfl ?_
        refine Rg.nil ?_
        refine T.ret ?_
        exact Kret1 rfl rfl ⟨by rw [foldZ, if_neg (by omega)], rfl⟩
def inB (c : Int) : Bool := decide (letB c = true ∨ digB c = true)
/-- 'concordance/concordanceref02.in' -/
theorem rin_spec (c : Int) (w0 : World) :
    Spec Tryz.prog 217 #[.int .i64 c] w0 (fun v w => v = .bool (inB c) ∧ w = w0) := by
  refine spec_of (args := [_]) (fn := Tryz.f217) Tryz.func217 rfl (n := 13) Tryz.ntmps217 ?_
  refine T.seq ?_
  refine T.region ?_ -- region 0
  refine Rg.assign rfl rfl ?_
  refine Rg.nil ?_
  refine T.seq ?_
  refine T.region ?_ -- region 1
  refine Rg.move rfl rfl ?_
  refine Rg.call rfl rfl E253 (rletter_spec _ _) (fun r wc hc => ?_)
  obtain ⟨rfl, rfl⟩ := hc 
  refine Rg.eqv (v' := .bool (decide (letB c = true))) (by cases letB c <;> rfl) ?_
  refine Rg.move rfl rfl ?_
  refine Rg.gsplitp (g := 5) rfl (fun g1_2 => ?_) (fun g1_2 => ?_)
  · -- g1_2 True
    refine Rg.gno rfl rfl rfl rfl ?_
    refine Rg.gno rfl rfl rfl rfl ?_
    refine Rg.gno rfl rfl rfl rfl ?_
    refine Rg.gnox rfl rfl rfl ?_
    refine Rg.gnox rfl rfl rfl ?_
    refine Rg.gno rfl rfl rfl rfl ?_
    refine Rg.pickt rfl rfl rfl ?_
    refine Rg.assign rfl rfl ?_
    refine Rg.nil ?_
    refine T.ret ?_
    have e : (digB c = true) = (48 ≤ c ∧ c ≤ 57) := by simp [digB]
    exact Kret1 rfl rfl ⟨by simp only [inB, e]; first | (congr 1; first | (exact (decide_eq_true (.inl (by assumption))).symm) | (exact (decide_eq_true (.inr (by omega))).symm) | (exact (decide_eq_false (by rintro (h | h) <;> first | exact absurd h (by assumption) | omega)).symm) | (exact decide_eq_decide.2 ⟨fun h => .inr (by omega), fun h => h.elim (fun h => absurd h (by assumption)) (fun h => by omega)⟩)), rfl⟩
  · -- g1_2 False
    refine Rg.gyes rfl rfl ?_
    refine Rg.move rfl rfl ?_
    refine Rg.gyes rfl rfl ?_
    refine Rg.ige rfl rfl rfl ?_
    refine Rg.gyes rfl rfl ?_
    refine Rg.move rfl rfl ?_
    refine Rg.gsplitp (g := 8) rfl (fun g1_5 => ?_) (fun g1_5 => ?_)
    · -- g1_5 True
      refine Rg.gyes rfl rfl ?_
      refine Rg.move rfl rfl ?_
      refine Rg.gyes rfl rfl ?_
      refine Rg.ile rfl rfl rfl ?_
      refine Rg.gyes rfl rfl ?_
      refine Rg.pickt rfl rfl rfl ?_
      refine Rg.pickf rfl rfl rfl ?_
      refine Rg.assign rfl rfl ?_
      refine Rg.nil ?_
      refine T.ret ?_
      have e : (digB c = true) = (48 ≤ c ∧ c ≤ 57) := by simp [digB]
      exact Kret1 rfl rfl ⟨by simp only [inB, e]; first | (congr 1; first | (exact (decide_eq_true (.inl (by assumption))).symm) | (exact (decide_eq_true (.inr (by omega))).symm) | (exact (decide_eq_false (by rintro (h | h) <;> first | exact absurd h (by assumption) | omega)).symm) | (exact decide_eq_decide.2 ⟨fun h => .inr (by omega), fun h => h.elim (fun h => absurd h (by assumption)) (fun h => by omega)⟩)), rfl⟩
    · -- g1_5 False
      refine Rg.gno rfl rfl rfl rfl ?_
      refine Rg.gno rfl rfl rfl rfl ?_
      refine Rg.gyes rfl rfl ?_
      refine Rg.pickf rfl rfl rfl ?_
      refine Rg.pickf rfl rfl rfl ?_
      refine Rg.assign rfl rfl ?_
      refine Rg.nil ?_
      refine T.ret ?_
      have e : (digB c = true) = (48 ≤ c ∧ c ≤ 57) := by simp [digB]
      exact Kret1 rfl rfl ⟨by simp only [inB, e]; first | (congr 1; first | (exact (decide_eq_true (.inl (by assumption))).symm) | (exact (decide_eq_true (.inr (by omega))).symm) | (exact (decide_eq_false (by rintro (h | h) <;> first | exact absurd h (by assumption) | omega)).symm) | (exact decide_eq_decide.2 ⟨fun h => .inr (by omega), fun h => h.elim (fun h => absurd h (by assumption)) (fun h => by omega)⟩)), rfl⟩
theorem vO_rng {l : List UInt8} {c : Int} (hc : c = (atB l 0 : Int)) (hn : nO c ≠ 0) : ∀ {k : Nat}, (∀ j : Nat, 1 ≤ j → j < k + 1 → contB l j = true) → k ≤ 3 → 0 ≤ vO l k ∧ vO l k ≤ 100000000 := by
  have key : ∀ k : Nat, (∀ j : Nat, 1 ≤ j → j < k + 1 → contB l j = true) → 0 ≤ vO l k ∧ vO l k ≤ 33 * 64 ^ k - 1 := by
    intro k
    induction k with
    | zero =>
      intro _
      have := nO_cases hn
      show 0 ≤ vO0 (atB l 0 : Int) ∧ vO0 (atB l 0 : Int) ≤ 33 * 64 ^ 0 - 1
      rw [← hc]; simp only [Int.pow_zero]; omega
    | succ k ih =>
      intro h
      have h1 := ih fun j h2 h3 => h j h2 (by omega)
      have h2 := contB_iff.1 (h (k + 1) (by omega) (by omega))
      show 0 ≤ 64 * vO l k + _ - 128 ∧ 64 * vO l k + _ - 128 ≤ _
      rw [Int.pow_succ]
      omega
  intro k h hk
  have := key k h
  have h3 : (64 : Int) ^ k ≤ 262144 := by
    rcases (show k = 0 ∨ k = 1 ∨ k = 2 ∨ k = 3 by omega) with rfl | rfl | rfl | rfl <;> decide
  omega
/-- 'concordance/concordanceref01.one' -/
theorem one_spec {l : List UInt8} (w0 : World) (hl : l ≠ []) (hlen : l.length ≤ 1000000) :
    Spec Tryz.prog 252 #[.string ⟨l.toArray⟩] w0 (fun v w => v = .tuple #[.int .i64 ((dec l).1 : Int), .int .i64 ((dec l).2 : Int)] ∧ w = w0) := by
  have hpos : 0 < l.length := List.length_pos_iff.2 hl
  have hb0 := atB_lt l 0
  obtain ⟨c, hc⟩ : ∃ c : Int, c = (atB l 0 : Int) := ⟨_, rfl⟩
  have hcr : 0 ≤ c ∧ c < 256 := by omega
  refine spec_of (args := [_]) (fn := Tryz.f252) Tryz.func252 rfl (n := 85) Tryz.ntmps252 ?_
  refine T.seq ?_
  refine T.region ?_ -- region 0
  refine Rg.assign rfl rfl ?_
  refine Rg.assign rfl rfl ?_
  refine Rg.nil ?_
  refine T.seq ?_
  refine T.region ?_ -- region 1
  refine Rg.move rfl rfl ?_
  refine Rg.strAt (c := l.getD 0 0) Tryz.underlying9 rfl rfl rfl (by decide) (by rw [List.getD_eq_getElem?_getD]; show l[0]? = _; rw [List.getElem?_eq_getElem hpos]; rfl) ?_
  refine Rg.eqv (v' := .int .u8 c) (by rw [hc]; rfl) ?_
  refine Rg.conv64 Tryz.underlying5 Tryz.underlying3 rfl rfl (by omega) ?_
  refine Rg.assign rfl rfl ?_
  refine Rg.nil ?_
  refine T.seq ?_
  refine T.seq ?_
  refine T.region ?_ -- region 2
  refine Rg.move rfl rfl ?_
  refine Rg.ilt rfl rfl rfl ?_
  refine Rg.nil ?_
  refine T.ifp rfl (fun c2 => ?_) (fun c2 => ?_)
  · -- c2 True
    refine T.seq ?_
    refine T.region ?_ -- region 3
    refine Rg.move rfl rfl ?_
    refine Rg.assign rfl rfl ?_
    refine Rg.assign rfl rfl ?_
    refine Rg.nil ?_
    refine T.ret ?_
    exact Kret2 rfl rfl rfl ⟨by rw [dec_A (by omega), hc]; rfl, rfl⟩
  · -- c2 False
    refine T.skip ?_
    refine T.seq ?_
    refine T.region ?_ -- region 4
    refine Rg.assign rfl rfl ?_
    refine Rg.nil ?_
    refine T.seq ?_
    refine T.region ?_ -- region 5
    refine Rg.assign rfl rfl ?_
    refine Rg.nil ?_
    refine T.seq ?_
    refine T.region ?_ -- region 6
    refine Rg.assign rfl rfl ?_
    refine Rg.nil ?_
    refine T.seqJoin [(0, .string ⟨l.toArray⟩), (4, .int .i64 c), (5, .int .i64 (nO c)), (6, .int .i64 (leastO c)), (7, .int .i64 (vO0 c))] ?_ ?_
    · -- join c7
      refine T.seq ?_
      refine T.region ?_ -- region 7
      refine Rg.move rfl rfl ?_
      refine Rg.ige rfl rfl rfl ?_
      refine Rg.move rfl rfl ?_
      refine Rg.gsplitp (g := 18) rfl (fun g7_2 => ?_) (fun g7_2 => ?_)
      · -- g7_2 True
        refine Rg.gyes rfl rfl ?_
        refine Rg.move rfl rfl ?_
        refine Rg.gyes rfl rfl ?_
        refine Rg.ilt rfl rfl rfl ?_
        refine Rg.pickt rfl rfl rfl ?_
        refine Rg.nil ?_
        refine T.ifp rfl (fun c7 => ?_) (fun c7 => ?_)
        · -- c7 True
          refine T.seq ?_
          refine T.region ?_ -- region 8
          refine Rg.assign rfl rfl ?_
          refine Rg.nil ?_
          refine T.seq ?_
          refine T.region ?_ -- region 9
          refine Rg.assign rfl rfl ?_
          refine Rg.nil ?_
          refine T.region ?_ -- region 10
          refine Rg.move rfl rfl ?_
          refine Rg.isub rfl rfl rfl (by omega) ?_
          refine Rg.assign rfl rfl ?_
          refine Rg.nil ?_
          exact ⟨rfl, rfl, rfl, .cons rfl (.cons rfl (.cons (congrArg (fun z => some (Value.int .i64 z)) (by first | (exfalso; omega) | (unfold nO; repeat (first | rw [if_pos (by omega)] | rw [if_neg (by omega)])))) (.cons (congrArg (fun z => some (Value.int .i64 z)) (by first | (exfalso; omega) | (unfold leastO; repeat (first | rw [if_pos (by omega)] | rw [if_neg (by omega)])))) (.cons (congrArg (fun z => some (Value.int .i64 z)) (by first | (exfalso; omega) | (unfold vO0; repeat (first | rw [if_pos (by omega)] | rw [if_neg (by omega)])))) (.nil)))))⟩
        · -- c7 False
          refine T.seq ?_
          refine T.region ?_ -- region 11
          refine Rg.move rfl rfl ?_
          refine Rg.ige rfl rfl rfl ?_
          refine Rg.move rfl rfl ?_
          refine Rg.gsplitp (g := 26) rfl (fun g11_2 => ?_) (fun g11_2 => ?_)
          · -- g11_2 True
            refine Rg.gyes rfl rfl ?_
            refine Rg.move rfl rfl ?_
            refine Rg.gyes rfl rfl ?_
            refine Rg.ilt rfl rfl rfl ?_
            refine Rg.pickt rfl rfl rfl ?_
            refine Rg.nil ?_
            refine T.ifp rfl (fun c11 => ?_) (fun c11 => ?_)
            · -- c11 True
              refine T.seq ?_
              refine T.region ?_ -- region 12
              refine Rg.assign rfl rfl ?_
              refine Rg.nil ?_
              refine T.seq ?_
              refine T.region ?_ -- region 13
              refine Rg.assign rfl rfl ?_
              refine Rg.nil ?_
              refine T.region ?_ -- region 14
              refine Rg.move rfl rfl ?_
              refine Rg.isub rfl rfl rfl (by omega) ?_
              refine Rg.assign rfl rfl ?_
              refine Rg.nil ?_
              exact ⟨rfl, rfl, rfl, .cons rfl (.cons rfl (.cons (congrArg (fun z => some (Value.int .i64 z)) (by first | (exfalso; omega) | (unfold nO; repeat (first | rw [if_pos (by omega)] | rw [if_neg (by omega)])))) (.cons (congrArg (fun z => some (Value.int .i64 z)) (by first | (exfalso; omega) | (unfold leastO; repeat (first | rw [if_pos (by omega)] | rw [if_neg (by omega)])))) (.cons (congrArg (fun z => some (Value.int .i64 z)) (by first | (exfalso; omega) | (unfold vO0; repeat (first | rw [if_pos (by omega)] | rw [if_neg (by omega)])))) (.nil)))))⟩
            · -- c11 False
              refine T.seq ?_
              refine T.region ?_ -- region 15
              refine Rg.move rfl rfl ?_
              refine Rg.ige rfl rfl rfl ?_
              refine Rg.move rfl rfl ?_
              refine Rg.gsplitp (g := 34) rfl (fun g15_2 => ?_) (fun g15_2 => ?_)
              · -- g15_2 True
                refine Rg.gyes rfl rfl ?_
                refine Rg.move rfl rfl ?_
                refine Rg.gyes rfl rfl ?_
                refine Rg.ilt rfl rfl rfl ?_
                refine Rg.pickt rfl rfl rfl ?_
                refine Rg.nil ?_
                refine T.ifp rfl (fun c15 => ?_) (fun c15 => ?_)
                · -- c15 True
                  refine T.seq ?_
                  refine T.region ?_ -- region 16
                  refine Rg.assign rfl rfl ?_
                  refine Rg.nil ?_
                  refine T.seq ?_
                  refine T.region ?_ -- region 17
                  refine Rg.assign rfl rfl ?_
                  refine Rg.nil ?_
                  refine T.region ?_ -- region 18
                  refine Rg.move rfl rfl ?_
                  refine Rg.isub rfl rfl rfl (by omega) ?_
                  refine Rg.assign rfl rfl ?_
                  refine Rg.nil ?_
                  exact ⟨rfl, rfl, rfl, .cons rfl (.cons rfl (.cons (congrArg (fun z => some (Value.int .i64 z)) (by first | (exfalso; omega) | (unfold nO; repeat (first | rw [if_pos (by omega)] | rw [if_neg (by omega)])))) (.cons (congrArg (fun z => some (Value.int .i64 z)) (by first | (exfalso; omega) | (unfold leastO; repeat (first | rw [if_pos (by omega)] | rw [if_neg (by omega)])))) (.cons (congrArg (fun z => some (Value.int .i64 z)) (by first | (exfalso; omega) | (unfold vO0; repeat (first | rw [if_pos (by omega)] | rw [if_neg (by omega)])))) (.nil)))))⟩
                · -- c15 False
                  refine T.skip ?_
                  exact ⟨rfl, rfl, rfl, .cons rfl (.cons rfl (.cons (congrArg (fun z => some (Value.int .i64 z)) (by first | (exfalso; omega) | (unfold nO; repeat (first | rw [if_pos (by omega)] | rw [if_neg (by omega)])))) (.cons (congrArg (fun z => some (Value.int .i64 z)) (by first | (exfalso; omega) | (unfold leastO; repeat (first | rw [if_pos (by omega)] | rw [if_neg (by omega)])))) (.cons (congrArg (fun z => some (Value.int .i64 z)) (by first | (exfalso; omega) | (unfold vO0; repeat (first | rw [if_pos (by omega)] | rw [if_neg (by omega)])))) (.nil)))))⟩
              · -- g15_2 False
                refine Rg.gno rfl rfl rfl rfl ?_
                refine Rg.gno rfl rfl rfl rfl ?_
                refine Rg.pickf rfl rfl rfl ?_
                refine Rg.nil ?_
                refine T.iff rfl ?_
                refine T.skip ?_
                exact ⟨rfl, rfl, rfl, .cons rfl (.cons rfl (.cons (congrArg (fun z => some (Value.int .i64 z)) (by first | (exfalso; omega) | (unfold nO; repeat (first | rw [if_pos (by omega)] | rw [if_neg (by omega)])))) (.cons (congrArg (fun z => some (Value.int .i64 z)) (by first | (exfalso; omega) | (unfold leastO; repeat (first | rw [if_pos (by omega)] | rw [if_neg (by omega)])))) (.cons (congrArg (fun z => some (Value.int .i64 z)) (by first | (exfalso; omega) | (unfold vO0; repeat (first | rw [if_pos (by omega)] | rw [if_neg (by omega)])))) (.nil)))))⟩
          · -- g11_2 False
            refine Rg.gno rfl rfl rfl rfl ?_
            refine Rg.gno rfl rfl rfl rfl ?_
            refine Rg.pickf rfl rfl rfl ?_
            refine Rg.nil ?_
            refine T.iff rfl ?_
            refine T.seq ?_
            refine T.region ?_ -- region 15
            refine Rg.move rfl rfl ?_
            refine Rg.ige rfl rfl rfl ?_
            refine Rg.move rfl rfl ?_
            refine Rg.gsplitp (g := 34) rfl (fun g15_2 => ?_) (fun g15_2 => ?_)
            · -- g15_2 True
              refine Rg.gyes rfl rfl ?_
              refine Rg.move rfl rfl ?_
              refine Rg.gyes rfl rfl ?_
              refine Rg.ilt rfl rfl rfl ?_
              refine Rg.pickt rfl rfl rfl ?_
              refine Rg.nil ?_
              refine T.ifp rfl (fun c15 => ?_) (fun c15 => ?_)
              · -- c15 True
                refine T.seq ?_
                refine T.region ?_ -- region 16
                refine Rg.assign rfl rfl ?_
                refine Rg.nil ?_
                refine T.seq ?_
                refine T.region ?_ -- region 17
                refine Rg.assign rfl rfl ?_
                refine Rg.nil ?_
                refine T.region ?_ -- region 18
                refine Rg.move rfl rfl ?_
                refine Rg.isub rfl rfl rfl (by omega) ?_
                refine Rg.assign rfl rfl ?_
                refine Rg.nil ?_
                exact ⟨rfl, rfl, rfl, .cons rfl (.cons rfl (.cons (congrArg (fun z => some (Value.int .i64 z)) (by first | (exfalso; omega) | (unfold nO; repeat (first | rw [if_pos (by omega)] | rw [if_neg (by omega)])))) (.cons (congrArg (fun z => some (Value.int .i64 z)) (by first | (exfalso; omega) | (unfold leastO; repeat (first | rw [if_pos (by omega)] | rw [if_neg (by omega)])))) (.cons (congrArg (fun z => some (Value.int .i64 z)) (by first | (exfalso; omega) | (unfold vO0; repeat (first | rw [if_pos (by omega)] | rw [if_neg (by omega)])))) (.nil)))))⟩
              · -- c15 False
                refine T.skip ?_
                exact ⟨rfl, rfl, rfl, .cons rfl (.cons rfl (.cons (congrArg (fun z => some (Value.int .i64 z)) (by first | (exfalso; omega) | (unfold nO; repeat (first | rw [if_pos (by omega)] | rw [if_neg (by omega)])))) (.cons (congrArg (fun z => some (Value.int .i64 z)) (by first | (exfalso; omega) | (unfold leastO; repeat (first | rw [if_pos (by omega)] | rw [if_neg (by omega)])))) (.cons (congrArg (fun z => some (Value.int .i64 z)) (by first | (exfalso; omega) | (unfold vO0; repeat (first | rw [if_pos (by omega)] | rw [if_neg (by omega)])))) (.nil)))))⟩
            · -- g15_2 False
              refine Rg.gno rfl rfl rfl rfl ?_
              refine Rg.gno rfl rfl rfl rfl ?_
              refine Rg.pickf rfl rfl rfl ?_
              refine Rg.nil ?_
              refine T.iff rfl ?_
              refine T.skip ?_
              exact ⟨rfl, rfl, rfl, .cons rfl (.cons rfl (.cons (congrArg (fun z => some (Value.int .i64 z)) (by first | (exfalso; omega) | (unfold nO; repeat (first | rw [if_pos (by omega)] | rw [if_neg (by omega)])))) (.cons (congrArg (fun z => some (Value.int .i64 z)) (by first | (exfalso; omega) | (unfold leastO; repeat (first | rw [if_pos (by omega)] | rw [if_neg (by omega)])))) (.cons (congrArg (fun z => some (Value.int .i64 z)) (by first | (exfalso; omega) | (unfold vO0; repeat (first | rw [if_pos (by omega)] | rw [if_neg (by omega)])))) (.nil)))))⟩
      · -- g7_2 False
        refine Rg.gno rfl rfl rfl rfl ?_
        refine Rg.gno rfl rfl rfl rfl ?_
        refine Rg.pickf rfl rfl rfl ?_
        refine Rg.nil ?_
        refine T.iff rfl ?_
        refine T.seq ?_
        refine T.region ?_ -- region 11
        refine Rg.move rfl rfl ?_
        refine Rg.ige rfl rfl rfl ?_
        refine Rg.move rfl rfl ?_
        refine Rg.gsplitp (g := 26) rfl (fun g11_2 => ?_) (fun g11_2 => ?_)
        · -- g11_2 True
          refine Rg.gyes rfl rfl ?_
          refine Rg.move rfl rfl ?_
          refine Rg.gyes rfl rfl ?_
          refine Rg.ilt rfl rfl rfl ?_
          refine Rg.pickt rfl rfl rfl ?_
          refine Rg.nil ?_
          refine T.ifp rfl (fun c11 => ?_) (fun c11 => ?_)
          · -- c11 True
            refine T.seq ?_
            refine T.region ?_ -- region 12
            refine Rg.assign rfl rfl ?_
            refine Rg.nil ?_
            refine T.seq ?_
            refine T.region ?_ -- region 13
            refine Rg.assign rfl rfl ?_
            refine Rg.nil ?_
            refine T.region ?_ -- region 14
            refine Rg.move rfl rfl ?_
            refine Rg.isub rfl rfl rfl (by omega) ?_
            refine Rg.assign rfl rfl ?_
            refine Rg.nil ?_
            exact ⟨rfl, rfl, rfl, .cons rfl (.cons rfl (.cons (congrArg (fun z => some (Value.int .i64 z)) (by first | (exfalso; omega) | (unfold nO; repeat (first | rw [if_pos (by omega)] | rw [if_neg (by omega)])))) (.cons (congrArg (fun z => some (Value.int .i64 z)) (by first | (exfalso; omega) | (unfold leastO; repeat (first | rw [if_pos (by omega)] | rw [if_neg (by omega)])))) (.cons (congrArg (fun z => some (Value.int .i64 z)) (by first | (exfalso; omega) | (unfold vO0; repeat (first | rw [if_pos (by omega)] | rw [if_neg (by omega)])))) (.nil)))))⟩
          · -- c11 False
            refine T.seq ?_
            refine T.region ?_ -- region 15
            refine Rg.move rfl rfl ?_
            refine Rg.ige rfl rfl rfl ?_
            refine Rg.move rfl rfl ?_
            refine Rg.gsplitp (g := 34) rfl (fun g15_2 => ?_) (fun g15_2 => ?_)
            · -- g15_2 True
              refine Rg.gyes rfl rfl ?_
              refine Rg.move rfl rfl ?_
              refine Rg.gyes rfl rfl ?_
              refine Rg.ilt rfl rfl rfl ?_
              refine Rg.pickt rfl rfl rfl ?_
              refine Rg.nil ?_
              refine T.ifp rfl (fun c15 => ?_) (fun c15 => ?_)
              · -- c15 True
                refine T.seq ?_
                refine T.region ?_ -- region 16
                refine Rg.assign rfl rfl ?_
                refine Rg.nil ?_
                refine T.seq ?_
                refine T.region ?_ -- region 17
                refine Rg.assign rfl rfl ?_
                refine Rg.nil ?_
                refine T.region ?_ -- region 18
                refine Rg.move rfl rfl ?_
                refine Rg.isub rfl rfl rfl (by omega) ?_
                refine Rg.assign rfl rfl ?_
                refine Rg.nil ?_
                exact ⟨rfl, rfl, rfl, .cons rfl (.cons rfl (.cons (congrArg (fun z => some (Value.int .i64 z)) (by first | (exfalso; omega) | (unfold nO; repeat (first | rw [if_pos (by omega)] | rw [if_neg (by omega)])))) (.cons (congrArg (fun z => some (Value.int .i64 z)) (by first | (exfalso; omega) | (unfold leastO; repeat (first | rw [if_pos (by omega)] | rw [if_neg (by omega)])))) (.cons (congrArg (fun z => some (Value.int .i64 z)) (by first | (exfalso; omega) | (unfold vO0; repeat (first | rw [if_pos (by omega)] | rw [if_neg (by omega)])))) (.nil)))))⟩
              · -- c15 False
                refine T.skip ?_
                exact ⟨rfl, rfl, rfl, .cons rfl (.cons rfl (.cons (congrArg (fun z => some (Value.int .i64 z)) (by first | (exfalso; omega) | (unfold nO; repeat (first | rw [if_pos (by omega)] | rw [if_neg (by omega)])))) (.cons (congrArg (fun z => some (Value.int .i64 z)) (by first | (exfalso; omega) | (unfold leastO; repeat (first | rw [if_pos (by omega)] | rw [if_neg (by omega)])))) (.cons (congrArg (fun z => some (Value.int .i64 z)) (by first | (exfalso; omega) | (unfold vO0; repeat (first | rw [if_pos (by omega)] | rw [if_neg (by omega)])))) (.nil)))))⟩
            · -- g15_2 False
              refine Rg.gno rfl rfl rfl rfl ?_
              refine Rg.gno rfl rfl rfl rfl ?_
              refine Rg.pickf rfl rfl rfl ?_
              refine Rg.nil ?_
              refine T.iff rfl ?_
              refine T.skip ?_
              exact ⟨rfl, rfl, rfl, .cons rfl (.cons rfl (.cons (congrArg (fun z => some (Value.int .i64 z)) (by first | (exfalso; omega) | (unfold nO; repeat (first | rw [if_pos (by omega)] | rw [if_neg (by omega)])))) (.cons (congrArg (fun z => some (Value.int .i64 z)) (by first | (exfalso; omega) | (unfold leastO; repeat (first | rw [if_pos (by omega)] | rw [if_neg (by omega)])))) (.cons (congrArg (fun z => some (Value.int .i64 z)) (by first | (exfalso; omega) | (unfold vO0; repeat (first | rw [if_pos (by omega)] | rw [if_neg (by omega)])))) (.nil)))))⟩
        · -- g11_2 False
          refine Rg.gno rfl rfl rfl rfl ?_
          refine Rg.gno rfl rfl rfl rfl ?_
          refine Rg.pickf rfl rfl rfl ?_
          refine Rg.nil ?_
          refine T.iff rfl ?_
          refine T.seq ?_
          refine T.region ?_ -- region 15
          refine Rg.move rfl rfl ?_
          refine Rg.ige rfl rfl rfl ?_
          refine Rg.move rfl rfl ?_
          refine Rg.gsplitp (g := 34) rfl (fun g15_2 => ?_) (fun g15_2 => ?_)
          · -- g15_2 True
            refine Rg.gyes rfl rfl ?_
            refine Rg.move rfl rfl ?_
            refine Rg.gyes rfl rfl ?_
            refine Rg.ilt rfl rfl rfl ?_
            refine Rg.pickt rfl rfl rfl ?_
            refine Rg.nil ?_
            refine T.ifp rfl (fun c15 => ?_) (fun c15 => ?_)
            · -- c15 True
              refine T.seq ?_
              refine T.region ?_ -- region 16
              refine Rg.assign rfl rfl ?_
              refine Rg.nil ?_
              refine T.seq ?_
              refine T.region ?_ -- region 17
              refine Rg.assign rfl rfl ?_
              refine Rg.nil ?_
              refine T.region ?_ -- region 18
              refine Rg.move rfl rfl ?_
              refine Rg.isub rfl rfl rfl (by omega) ?_
              refine Rg.assign rfl rfl ?_
              refine Rg.nil ?_
              exact ⟨rfl, rfl, rfl, .cons rfl (.cons rfl (.cons (congrArg (fun z => some (Value.int .i64 z)) (by first | (exfalso; omega) | (unfold nO; repeat (first | rw [if_pos (by omega)] | rw [if_neg (by omega)])))) (.cons (congrArg (fun z => some (Value.int .i64 z)) (by first | (exfalso; omega) | (unfold leastO; repeat (first | rw [if_pos (by omega)] | rw [if_neg (by omega)])))) (.cons (congrArg (fun z => some (Value.int .i64 z)) (by first | (exfalso; omega) | (unfold vO0; repeat (first | rw [if_pos (by omega)] | rw [if_neg (by omega)])))) (.nil)))))⟩
            · -- c15 False
              refine T.skip ?_
              exact ⟨rfl, rfl, rfl, .cons rfl (.cons rfl (.cons (congrArg (fun z => some (Value.int .i64 z)) (by first | (exfalso; omega) | (unfold nO; repeat (first | rw [if_pos (by omega)] | rw [if_neg (by omega)])))) (.cons (congrArg (fun z => some (Value.int .i64 z)) (by first | (exfalso; omega) | (unfold leastO; repeat (first | rw [if_pos (by omega)] | rw [if_neg (by omega)])))) (.cons (congrArg (fun z => some (Value.int .i64 z)) (by first | (exfalso; omega) | (unfold vO0; repeat (first | rw [if_pos (by omega)] | rw [if_neg (by omega)])))) (.nil)))))⟩
          · -- g15_2 False
            refine Rg.gno rfl rfl rfl rfl ?_
            refine Rg.gno rfl rfl rfl rfl ?_
            refine Rg.pickf rfl rfl rfl ?_
            refine Rg.nil ?_
            refine T.iff rfl ?_
            refine T.skip ?_
            exact ⟨rfl, rfl, rfl, .cons rfl (.cons rfl (.cons (congrArg (fun z => some (Value.int .i64 z)) (by first | (exfalso; omega) | (unfold nO; repeat (first | rw [if_pos (by omega)] | rw [if_neg (by omega)])))) (.cons (congrArg (fun z => some (Value.int .i64 z)) (by first | (exfalso; omega) | (unfold leastO; repeat (first | rw [if_pos (by omega)] | rw [if_neg (by omega)])))) (.cons (congrArg (fun z => some (Value.int .i64 z)) (by first | (exfalso; omega) | (unfold vO0; repeat (first | rw [if_pos (by omega)] | rw [if_neg (by omega)])))) (.nil)))))⟩
    · -- joined
      refine T.seq ?_
      refine T.seq ?_
      refine T.region ?_ -- region 19
      refine Rg.move rfl rfl ?_
      refine Rg.ieq rfl rfl rfl ?_
      refine Rg.move rfl rfl ?_
      refine Rg.gsplitp (g := 42) rfl (fun g19_2 => ?_) (fun g19_2 => ?_)
      · -- g19_2 True
        refine Rg.gno rfl rfl rfl rfl ?_
        refine Rg.gno rfl rfl rfl rfl ?_
        refine Rg.gno rfl rfl rfl rfl ?_
        refine Rg.gno rfl rfl rfl rfl ?_
        refine Rg.pickt rfl rfl rfl ?_
        refine Rg.nil ?_
        refine T.ift rfl ?_
        refine T.seq ?_
        refine T.region ?_ -- region 20
        refine Rg.assign rfl rfl ?_
        refine Rg.assign rfl rfl ?_
        refine Rg.nil ?_
        refine T.ret ?_
        have hx : nO (atB l 0 : Int) = 0 ∨ ∃ k : Nat, 1 ≤ k ∧ (k : Int) < nO (atB l 0 : Int) ∧ contB l k = false := by
          rw [← hc]
          by_cases h0 : nO c = 0
          · exact .inl h0
          · have hnc := nO_cases h0; exact .inr ⟨(nO c).toNat - 1, by omega, by omega, Bool.eq_false_iff.2 fun h => by have := (contB_iff.1 h).1; omega⟩
        have e : dec l = (65533, 1) := dec_D (by omega) hx
        exact Kret2 rfl rfl rfl ⟨by rw [e]; rfl, rfl⟩
      · -- g19_2 False
        refine Rg.gyes rfl rfl ?_
        refine Rg.move rfl rfl ?_
        refine Rg.gyes rfl rfl ?_
        refine Rg.lenstr Tryz.underlying9 rfl rfl ?_
        refine Rg.eqv (v' := .int .i64 (l.length : Int)) (by simp [ByteArray.size]) ?_
        refine Rg.gyes rfl rfl ?_
        refine Rg.move rfl rfl ?_
        refine Rg.gyes rfl rfl ?_
        refine Rg.ilt rfl rfl rfl ?_
        refine Rg.pickf rfl rfl rfl ?_
        refine Rg.nil ?_
        refine T.ifp rfl (fun c19 => ?_) (fun c19 => ?_)
        · -- c19 True
          refine T.seq ?_
          refine T.region ?_ -- region 20
          refine Rg.assign rfl rfl ?_
          refine Rg.assign rfl rfl ?_
          refine Rg.nil ?_
          refine T.ret ?_
          have hx : nO (atB l 0 : Int) = 0 ∨ ∃ k : Nat, 1 ≤ k ∧ (k : Int) < nO (atB l 0 : Int) ∧ contB l k = false := by
            rw [← hc]
            by_cases h0 : nO c = 0
            · exact .inl h0
            · have hnc := nO_cases h0; exact .inr ⟨(nO c).toNat - 1, by omega, by omega, Bool.eq_false_iff.2 fun h => by have := (contB_iff.1 h).1; omega⟩
          have e : dec l = (65533, 1) := dec_D (by omega) hx
          exact Kret2 rfl rfl rfl ⟨by rw [e]; rfl, rfl⟩
        · -- c19 False
          refine T.skip ?_
          refine T.seq ?_
          refine T.seq ?_
          refine T.region ?_ -- region 21
          refine Rg.assign rfl rfl ?_
          refine Rg.nil ?_
          refine T.block ?_
          refine T.loop (σ := Nat) (fun i => [(0, .string ⟨l.toArray⟩), (5, .int .i64 (nO c)), (6, .int .i64 (leastO c)), (7, .int .i64 (vO l (i - 1))), (8, .int .i64 (i : Int))]) (fun i w => w = w0 ∧ 1 ≤ i ∧ (i : Int) ≤ nO c ∧ ∀ k : Nat, 1 ≤ k → k < i → contB l k = true) (fun i => (nO c).toNat - i) 1 (.cons rfl (.cons rfl (.cons rfl (.cons (congrArg (fun z => some (Value.int .i64 z)) (by show vO0 c = vO0 (atB l 0 : Int); rw [hc])) (.cons rfl .nil))))) ?_ ?_ -- loop 0
          · exact ⟨rfl, Nat.le_refl _, by have := nO_cases (c := c) (by omega); omega, fun k h1 h2 => by omega⟩
          · rintro i w ⟨rfl, hi1, hi2, hok⟩
            have hnc := nO_cases (c := c) (by omega)
            have hvr : 0 ≤ vO l (i - 1) ∧ vO l (i - 1) ≤ 100000000 := by
              exact vO_rng (l := l) (c := c) (k := i - 1) hc (by omega) (fun j h1 h2 => hok j h1 (by omega)) (by omega)
            refine T.seq ?_
            refine T.seq ?_
            refine T.region ?_ -- region 22
            refine Rg.move rfl rfl ?_
            refine Rg.move rfl rfl ?_
            refine Rg.ilt rfl rfl rfl ?_
            refine Rg.nil ?_
            refine T.ifp rfl (fun c22 => ?_) (fun c22 => ?_)
            · -- c22 True
              refine T.skip ?_
              refine T.seq ?_
              refine T.block ?_
              refine T.seq ?_
              refine T.region ?_ -- region 24
              refine Rg.move rfl rfl ?_
              refine Rg.move rfl rfl ?_
              have hin : i < l.length := by omega
              refine Rg.strAt (c := l.getD i 0) Tryz.underlying9 rfl rfl rfl (by omega) (by rw [List.getD_eq_getElem?_getD, Int.toNat_natCast, List.getElem?_eq_getElem hin]; rfl) ?_
              refine Rg.eqv (v' := .int .u8 (atB l i : Int)) rfl ?_
              have hbi := atB_lt l i
              refine Rg.conv64 Tryz.underlying5 Tryz.underlying3 rfl rfl (by omega) ?_
              refine Rg.assign rfl rfl ?_
              refine Rg.nil ?_
              refine T.seq ?_
              refine T.seq ?_
              refine T.region ?_ -- region 25
              refine Rg.move rfl rfl ?_
              refine Rg.ilt rfl rfl rfl ?_
              refine Rg.move rfl rfl ?_
              refine Rg.gsplitp (g := 59) rfl (fun g25_2 => ?_) (fun g25_2 => ?_)
              · -- g25_2 True
                refine Rg.gno rfl rfl rfl rfl ?_
                refine Rg.gno rfl rfl rfl rfl ?_
                refine Rg.pickt rfl rfl rfl ?_
                refine Rg.nil ?_
                refine T.ift rfl ?_
                refine T.seq ?_
                refine T.region ?_ -- region 26
                refine Rg.assign rfl rfl ?_
                refine Rg.assign rfl rfl ?_
                refine Rg.nil ?_
                refine T.ret ?_
                have hx : nO (atB l 0 : Int) = 0 ∨ ∃ k : Nat, 1 ≤ k ∧ (k : Int) < nO (atB l 0 : Int) ∧ contB l k = false := by
                  rw [← hc]
                  exact .inr ⟨i, hi1, by omega, Bool.eq_false_iff.2 fun h => by have := contB_iff.1 h; omega⟩
                have e : dec l = (65533, 1) := dec_D (by omega) hx
                exact Kret2 rfl rfl rfl ⟨by rw [e]; rfl, rfl⟩
              · -- g25_2 False
                refine Rg.gyes rfl rfl ?_
                refine Rg.move rfl rfl ?_
                refine Rg.gyes rfl rfl ?_
                refine Rg.ige rfl rfl rfl ?_
                refine Rg.pickf rfl rfl rfl ?_
                refine Rg.nil ?_
                refine T.ifp rfl (fun c25 => ?_) (fun c25 => ?_)
                · -- c25 True
                  refine T.seq ?_
                  refine T.region ?_ -- region 26
                  refine Rg.assign rfl rfl ?_
                  refine Rg.assign rfl rfl ?_
                  refine Rg.nil ?_
                  refine T.ret ?_
                  have hx : nO (atB l 0 : Int) = 0 ∨ ∃ k : Nat, 1 ≤ k ∧ (k : Int) < nO (atB l 0 : Int) ∧ contB l k = false := by
                    rw [← hc]
                    exact .inr ⟨i, hi1, by omega, Bool.eq_false_iff.2 fun h => by have := contB_iff.1 h; omega⟩
                  have e : dec l = (65533, 1) := dec_D (by omega) hx
                  exact Kret2 rfl rfl rfl ⟨by rw [e]; rfl, rfl⟩
                · -- c25 False
                  refine T.skip ?_
                  refine T.region ?_ -- region 27
                  refine Rg.move rfl rfl ?_
                  refine Rg.imul rfl rfl rfl (by omega) ?_
                  refine Rg.move rfl rfl ?_
                  refine Rg.iadd rfl rfl rfl (by omega) ?_
                  refine Rg.isub rfl rfl rfl (by omega) ?_
                  refine Rg.assign rfl rfl ?_
                  refine Rg.nil ?_
                  refine T.region ?_ -- region 23
                  refine Rg.move rfl rfl ?_
                  refine Rg.iadd rfl rfl rfl (by omega) ?_
                  refine Rg.assign rfl rfl ?_
                  refine Rg.nil ?_
                  refine ⟨rfl, i + 1, (.cons rfl (.cons rfl (.cons rfl (.cons (congrArg (fun z => some (Value.int .i64 z)) (by obtain ⟨q, rfl⟩ : ∃ q, i = q + 1 := ⟨i - 1, by omega⟩; rfl)) (.cons rfl .nil))))), ?_, ?_⟩
                  · exact ⟨rfl, by omega, by omega, fun k h1 h2 => by
                      rcases Nat.lt_or_ge k i with h | h
                      · exact hok k h1 h
                      · obtain rfl : k = i := by omega
                        exact contB_iff.2 (by omega)⟩
                  · omega
            · -- c22 False
              refine T.exit ?_
              refine T.seq ?_
              refine T.seq ?_
              refine T.region ?_ -- region 28
              refine Rg.move rfl rfl ?_
              refine Rg.move rfl rfl ?_
              refine Rg.ilt rfl rfl rfl ?_
              refine Rg.move rfl rfl ?_
              refine Rg.gsplitp (g := 71) rfl (fun g28_3 => ?_) (fun g28_3 => ?_)
              · -- g28_3 True
                refine Rg.gno rfl rfl rfl rfl ?_
                refine Rg.gno rfl rfl rfl rfl ?_
                refine Rg.pickt rfl rfl rfl ?_
                refine Rg.move rfl rfl ?_
                refine Rg.gno rfl rfl rfl rfl ?_
                refine Rg.gno rfl rfl rfl rfl ?_
                refine Rg.gno rfl rfl rfl rfl ?_
                refine Rg.gnox rfl rfl rfl ?_
                refine Rg.gnox rfl rfl rfl ?_
                refine Rg.gno rfl rfl rfl rfl ?_
                refine Rg.pickt rfl rfl rfl ?_
                refine Rg.nil ?_
                refine T.ift rfl ?_
                refine T.seq ?_
                refine T.region ?_ -- region 29
                refine Rg.assign rfl rfl ?_
                refine Rg.assign rfl rfl ?_
                refine Rg.nil ?_
                refine T.ret ?_
                have e := dec_E (l := l) (by rw [← hc]; omega) (by rw [← hc]; exact fun k h1 h2 => hok k h1 (by omega)) (vO l (i - 1)) (by rw [← hc]; congr 1; omega)
                rw [← hc, if_pos (by omega)] at e
                exact Kret2 rfl rfl rfl ⟨by rw [e]; rfl, rfl⟩
              · -- g28_3 False
                refine Rg.gyes rfl rfl ?_
                refine Rg.move rfl rfl ?_
                refine Rg.gyes rfl rfl ?_
                refine Rg.igt rfl rfl rfl ?_
                refine Rg.pickf rfl rfl rfl ?_
                refine Rg.move rfl rfl ?_
                refine Rg.gsplitp (g := 75) rfl (fun g28_7 => ?_) (fun g28_7 => ?_)
                · -- g28_7 True
                  refine Rg.gno rfl rfl rfl rfl ?_
                  refine Rg.gno rfl rfl rfl rfl ?_
                  refine Rg.gno rfl rfl rfl rfl ?_
                  refine Rg.gnox rfl rfl rfl ?_
                  refine Rg.gnox rfl rfl rfl ?_
                  refine Rg.gno rfl rfl rfl rfl ?_
                  refine Rg.pickt rfl rfl rfl ?_
                  refine Rg.nil ?_
                  refine T.ift rfl ?_
                  refine T.seq ?_
                  refine T.region ?_ -- region 29
                  refine Rg.assign rfl rfl ?_
                  refine Rg.assign rfl rfl ?_
                  refine Rg.nil ?_
                  refine T.ret ?_
                  have e := dec_E (l := l) (by rw [← hc]; omega) (by rw [← hc]; exact fun k h1 h2 => hok k h1 (by omega)) (vO l (i - 1)) (by rw [← hc]; congr 1; omega)
                  rw [← hc, if_pos (by omega)] at e
                  exact Kret2 rfl rfl rfl ⟨by rw [e]; rfl, rfl⟩
                · -- g28_7 False
                  refine Rg.gyes rfl rfl ?_
                  refine Rg.move rfl rfl ?_
                  refine Rg.gyes rfl rfl ?_
                  refine Rg.ige rfl rfl rfl ?_
                  refine Rg.gyes rfl rfl ?_
                  refine Rg.move rfl rfl ?_
                  refine Rg.gsplitp (g := 78) rfl (fun g28_10 => ?_) (fun g28_10 => ?_)
                  · -- g28_10 True
                    refine Rg.gyes rfl rfl ?_
                    refine Rg.move rfl rfl ?_
                    refine Rg.gyes rfl rfl ?_
                    refine Rg.ile rfl rfl rfl ?_
                    refine Rg.gyes rfl rfl ?_
                    refine Rg.pickt rfl rfl rfl ?_
                    refine Rg.pickf rfl rfl rfl ?_
                    refine Rg.nil ?_
                    refine T.ifp rfl (fun c28 => ?_) (fun c28 => ?_)
                    · -- c28 True
                      refine T.seq ?_
                      refine T.region ?_ -- region 29
                      refine Rg.assign rfl rfl ?_
                      refine Rg.assign rfl rfl ?_
                      refine Rg.nil ?_
                      refine T.ret ?_
                      have e := dec_E (l := l) (by rw [← hc]; omega) (by rw [← hc]; exact fun k h1 h2 => hok k h1 (by omega)) (vO l (i - 1)) (by rw [← hc]; congr 1; omega)
                      rw [← hc, if_pos (by omega)] at e
                      exact Kret2 rfl rfl rfl ⟨by rw [e]; rfl, rfl⟩
                    · -- c28 False
                      refine T.skip ?_
                      refine T.seq ?_
                      refine T.region ?_ -- region 30
                      refine Rg.move rfl rfl ?_
                      refine Rg.move rfl rfl ?_
                      refine Rg.assign rfl rfl ?_
                      refine Rg.assign rfl rfl ?_
                      refine Rg.nil ?_
                      refine T.ret ?_
                      have e := dec_E (l := l) (by rw [← hc]; omega) (by rw [← hc]; exact fun k h1 h2 => hok k h1 (by omega)) (vO l (i - 1)) (by rw [← hc]; congr 1; omega)
                      rw [← hc, if_neg (by omega)] at e
                      exact Kret2 rfl rfl rfl ⟨by rw [e]; simp only []; rw [Int.toNat_of_nonneg hvr.1, Int.toNat_of_nonneg (by omega)], rfl⟩
                  · -- g28_10 False
                    refine Rg.gno rfl rfl rfl rfl ?_
                    refine Rg.gno rfl rfl rfl rfl ?_
                    refine Rg.gyes rfl rfl ?_
                    refine Rg.pickf rfl rfl rfl ?_
                    refine Rg.pickf rfl rfl rfl ?_
                    refine Rg.nil ?_
                    refine T.iff rfl ?_
                    refine T.skip ?_
                    refine T.seq ?_
                    refine T.region ?_ -- region 30
                    refine Rg.move rfl rfl ?_
                    refine Rg.move rfl rfl ?_
                    refine Rg.assign rfl rfl ?_
                    refine Rg.assign rfl rfl ?_
                    refine Rg.nil ?_
                    refine T.ret ?_
                    have e := dec_E (l := l) (by rw [← hc]; omega) (by rw [← hc]; exact fun k h1 h2 => hok k h1 (by omega)) (vO l (i - 1)) (by rw [← hc]; congr 1; omega)
                    rw [← hc, if_neg (by omega)] at e
                    exact Kret2 rfl rfl rfl ⟨by rw [e]; simp only []; rw [Int.toNat_of_nonneg hvr.1, Int.toNat_of_nonneg (by omega)], rfl⟩
/-- 'concordance/concordanceref01.Signs' -/
theorem rsigns_spec {M : PSet} {l : List UInt8} (w0 : World) (hM : Lt M w0) (hl : l.length ≤ 1000000) :
    Spec Tryz.prog 216 #[.string ⟨l.toArray⟩] w0 (fun v w => ((RT.int .i64).sl).V M w (signs l) v ∧ Step M w0 M w none') := by
  have hM0 := hM
  refine spec_of (args := [_]) (fn := Tryz.f216) Tryz.func216 rfl (n := 22) Tryz.ntmps216 ?_
  have S : Step M w0 M w0 none' := (Step.refl _ _).widen (fun _ h => h.elim) (fun _ h => h.elim)
  refine T.seq ?_
  refine T.region ?_ -- region 0
  refine Rg.assign rfl rfl ?_
  refine Rg.nil ?_
  refine T.seq ?_
  refine T.region ?_ -- region 1
  refine Rg.assign rfl rfl ?_
  refine Rg.nil ?_
  refine T.seq ?_
  refine T.block ?_
  refine T.loop (σ := Nat × List Int × Value) (fun q => [(0, .string ⟨(l.drop q.1).toArray⟩), (3, q.2.2)]) (fun q w => ∃ M', Lt M' w ∧ Step M w0 M' w none' ∧ Own (RT.int .i64) 3 M' w w0.heap.size q.2.2 q.2.1 ∧ signs l = q.2.1 ++ signs (l.drop q.1) ∧ q.1 ≤ l.length) (fun q => l.length - q.1) (0, [], .slice none 0 0) (.cons rfl (.cons rfl .nil)) ?_ ?_ -- loop 0
  · exact ⟨M, hM, S, Own.nil _ _ _ _ _, by simp, by simp⟩
  · rintro ⟨p, xs, u⟩ w ⟨M1, hM, S, ho, hsg, hp⟩
    dsimp only at ho hsg hp ⊢
    refine T.seq ?_
    refine T.seq ?_
    refine T.region ?_ -- region 2
    refine Rg.move rfl rfl ?_
    refine Rg.lenstr Tryz.underlying9 rfl rfl ?_
    refine Rg.eqv (v' := .int .i64 ((l.drop p).length : Int)) (by simp [ByteArray.size]) ?_
    refine Rg.igt rfl rfl rfl ?_
    refine Rg.nil ?_
    refine T.ifp rfl (fun c2 => ?_) (fun c2 => ?_)
    · -- c2 True
      refine T.skip ?_
      refine T.block ?_
      refine T.seq ?_
      refine T.region ?_ -- region 3
      refine Rg.move rfl rfl ?_
      have hne : l.drop p ≠ [] := by intro h; rw [h] at c2; simp at c2
      have hpl : p < l.length := by have := List.length_pos_iff.2 hne; rw [List.length_drop] at this; omega
      have hwd := dec_width hne
      refine Rg.call rfl rfl E252 (one_spec (l := l.drop p) _ hne (by rw [List.length_drop]; omega)) (fun r3 w3 hc => ?_)
      obtain ⟨rfl, rfl⟩ := hc 
      refine Rg.move rfl rfl ?_
      refine Rg.extract rfl rfl rfl ?_
      refine Rg.extract rfl rfl rfl ?_
      refine Rg.assign rfl rfl ?_
      refine Rg.assign rfl rfl ?_
      refine Rg.nil ?_
      refine T.seq ?_
      refine T.region ?_ -- region 4
      refine Rg.move rfl rfl ?_
      refine Rg.move rfl rfl ?_
      refine Rg.sl1 (A := RT.int .i64) (hn := by decide) (M := M1) Tryz.underlying32 I3 (by decide) rfl rfl hM (V_i64 (by have := dec_bound (l.drop p); omega)) (.inr ⟨rfl, rfl⟩) (fun u4_2 w4_2 hu4_2 s4_2 => ?_)
      replace ho := ho.step0 s4_2
      replace hM := s4_2.lt hM
      have := S.size
      replace S := S.trans0 s4_2
      refine Rg.append (M := M1) (base := w0.heap.size) Tryz.underlying32 I3 rfl rfl rfl rfl ho hu4_2 (Le.refl _ _) (by simp; have := signs_len l; rw [hsg] at this; simp at this; omega) (by simp; have := signs_len l; rw [hsg] at this; simp at this; omega) (S.size) (fun u4_3 M4_3 w4_3 ho4_3 s4_3 => ?_)
      replace hu4_2 := hu4_2.le s4_3.le
      replace hM := s4_3.lt hM
      have := S.size
      replace S := S.transBlk s4_3 ho (Nat.le_refl _)
      replace ho := ho4_3
      refine Rg.assign rfl rfl ?_
      refine Rg.nil ?_
      refine T.region ?_ -- region 5
      refine Rg.move rfl rfl ?_
      refine Rg.move rfl rfl ?_
      refine Rg.strFrom Tryz.underlying9 rfl rfl rfl (by omega) ?_
      refine Rg.eqv (v' := .string ⟨(l.drop (p + (dec (l.drop p)).2)).toArray⟩) (by rw [List.drop_drop]; simp) ?_
      refine Rg.assign rfl rfl ?_
      refine Rg.nil ?_
      refine ⟨rfl, (p + (dec (l.drop p)).2, xs ++ [((dec (l.drop p)).1 : Int)], u4_3), (.cons rfl (.cons rfl .nil)), ?_, ?_⟩
      · refine ⟨M4_3, hM, S, ho, ?_, ?_⟩
        · rw [hsg, signs_step hne, List.drop_drop]; simp
        · have := hwd.2; rw [List.length_drop] at this; dsimp only; omega
      · have := hwd.1
        have := hwd.2
        rw [List.length_drop] at this
        dsimp only; omega
    · -- c2 False
      refine T.exit ?_
      refine T.seq ?_
      refine T.region ?_ -- region 6
      refine Rg.move rfl rfl ?_
      refine Rg.assign rfl rfl ?_
      refine Rg.nil ?_
      refine T.ret ?_
      have e : signs l = xs := by rw [hsg, List.drop_of_length_le (by simp at c2; omega), signs_nil]; simp
      rw [e]
      have := signs_len l
      rw [e] at this
      exact Kret1 rfl rfl ⟨ho.close hM0 S (by omega), S.back⟩
theorem V_u8w {M : PSet} {w : World} {x : Int} (h : 0 ≤ x ∧ x < 256) : RT.u8.V M w x.toNat.toUInt8 (.int .u8 (IntKind.u8.wrap x)) := by
  have e1 : IntKind.u8.wrap x = x := by
    show (if (false && decide (x % 256 ≥ 128)) = true then x % 256 - 256 else x % 256) = x
    rw [if_neg (by simp)]; omega
  have e2 : ((x.toNat.toUInt8).toNat : Int) = x := by
    have : x.toNat.toUInt8.toNat = x.toNat % 256 := UInt8.toNat_ofNat' ..
    omega
  rw [e1]
  exact ⟨[.int .u8 x], by show _ = _; rw [e2], rfl⟩
theorem enc1 {r : Int} (h : 0 ≤ r ∧ r < 128) : Lib.encodeRune r = [r.toNat.toUInt8] := by rw [Lib.encodeRune, Lib.encodeRuneZ_one h.1 (by omega)]; rfl
theorem enc2 {r : Int} (h : 128 ≤ r ∧ r < 2048) : Lib.encodeRune r = [(192 + r / 64).toNat.toUInt8, (128 + r % 64).toNat.toUInt8] := by rw [Lib.encodeRune, Lib.encodeRuneZ_two h.1 (by omega)]; rfl
theorem sgn_cases (c : Int) : sgn c < 55296 ∨ 57343 < sgn c := by
  unfold sgn
  split
  · omega
  · rename_i h
    have h2 : Lib.validRune c = true := by
      cases hv : Lib.validRune c with
      | true => rfl
      | false => exact absurd (.inr (.inr hv)) h
    simp only [Lib.validRune, decide_eq_true_eq] at h2
    omega
theorem enc3 {r : Int} (h : 2048 ≤ r ∧ r < 65536) (h2 : r < 55296 ∨ 57343 < r) : Lib.encodeRune r = [(224 + r / 4096).toNat.toUInt8, (128 + r / 64 % 64).toNat.toUInt8, (128 + r % 64).toNat.toUInt8] := by rw [Lib.encodeRune, Lib.encodeRuneZ_three (by omega)]; rfl
theorem enc4 {r : Int} (h : 65536 ≤ r ∧ r ≤ 1114111) : Lib.encodeRune r = [(240 + r / 262144).toNat.toUInt8, (128 + r / 4096 % 64).toNat.toUInt8, (128 + r / 64 % 64).toNat.toUInt8, (128 + r % 64).toNat.toUInt8] := by rw [Lib.encodeRune, Lib.encodeRuneZ_four h.1 h.2]; rfl
theorem sgn_bad {c : Int} (h : c < 0 ∨ c > 1114111 ∨ (55296 ≤ c ∧ c ≤ 57343)) : sgn c = 65533 := by
  rw [sgn, if_pos]
  rcases h with h | h | h
  · exact .inl h
  · exact .inr (.inl h)
  · refine .inr (.inr ?_)
    simp only [Lib.validRune, decide_eq_false_iff_not]; omega
theorem sgn_good {c : Int} (h : ¬ (c < 0 ∨ c > 1114111 ∨ (55296 ≤ c ∧ c ≤ 57343))) : sgn c = c := by
  rw [sgn, if_neg]
  rintro (h1 | h1 | h1)
  · omega
  · omega
  · simp only [Lib.validRune, decide_eq_false_iff_not] at h1; omega
/-- 'concordance/concordanceref01.Text' -/
theorem rtext_spec {M : PSet} {xs : List Int} {v0 : Value} (w0 : World) (hM : Lt M w0) (hv : ((RT.int .i64).sl).V M w0 xs v0) (hl : xs.length ≤ 1000000) :
    Spec Tryz.prog 219 #[v0] w0 (fun v w => v = .string ⟨(textB xs).toArray⟩ ∧ Step M w0 M w none') := by
  have hM0 := hM
  refine spec_of (args := [_]) (fn := Tryz.f219) Tryz.func219 rfl (n := 91) Tryz.ntmps219 ?_
  have S : Step M w0 M w0 none' := (Step.refl _ _).widen (fun _ h => h.elim) (fun _ h => h.elim)
  refine T.seq ?_
  refine T.region ?_ -- region 0
  refine Rg.assign rfl rfl ?_
  refine Rg.nil ?_
  refine T.seq ?_
  refine T.region ?_ -- region 1
  refine Rg.assign rfl rfl ?_
  refine Rg.nil ?_
  refine T.seq ?_
  refine T.seq ?_
  refine T.region ?_ -- region 2
  refine Rg.assign rfl rfl ?_
  refine Rg.nil ?_
  refine T.block ?_
  refine T.loop (σ := Nat × Value) (fun q => [(0, v0), (3, q.2), (4, .int .i64 (q.1 : Int))]) (fun q w => ∃ M', Lt M' w ∧ Step M w0 M' w none' ∧ Own RT.u8 5 M' w w0.heap.size q.2 (textB (xs.take q.1)) ∧ ((RT.int .i64).sl).V M' w xs v0 ∧ q.1 ≤ xs.length) (fun q => xs.length - q.1) (0, .slice none 0 0) (.cons rfl (.cons rfl (.cons rfl .nil))) ?_ ?_ -- loop 0
  · exact ⟨M, hM, S, Own.nil _ _ _ _ _, hv, Nat.zero_le _⟩
  · rintro ⟨k, u⟩ w ⟨M1, hM, S, ho, hv, hk⟩
    dsimp only at ho hk ⊢
    refine T.seq ?_
    refine T.seq ?_
    refine T.region ?_ -- region 3
    refine Rg.move rfl rfl ?_
    refine Rg.move rfl rfl ?_
    refine Rg.lensl Tryz.underlying32 rfl hv rfl ?_
    refine Rg.ilt rfl rfl rfl ?_
    refine Rg.nil ?_
    refine T.ifp rfl (fun c3 => ?_) (fun c3 => ?_)
    · -- c3 True
      refine T.skip ?_
      refine T.seq ?_
      refine T.block ?_
      refine T.seq ?_
      refine T.region ?_ -- region 5
      refine Rg.move rfl rfl ?_
      refine Rg.move rfl rfl ?_
      refine Rg.idx (M := M1) Tryz.underlying32 I3 rfl rfl rfl hv (Le.refl _ _) (by omega) (fun u5 c hg5 hu5 => ?_) --@ptr RT.int .i64 ;; c
      refine Rg.loadi64 (M := M1) Tryz.underlying3 rfl rfl hu5 (Le.refl _ _) (fun in5 => ?_)
      have tk : xs.take (k + 1) = xs.take k ++ [c] := by rw [List.take_add_one]; simp only [Int.toNat_natCast] at hg5; rw [hg5]; rfl
      have hsr := sgn_rng c
      have hsc := sgn_cases c
      refine Rg.assign rfl rfl ?_
      refine Rg.nil ?_
      refine T.seqJoin [(0, v0), (3, u), (4, .int .i64 (k : Int)), (5, .int .i64 (sgn c))] ?_ ?_
      · -- join c6
        refine T.seq ?_
        refine T.region ?_ -- region 6
        refine Rg.move rfl rfl ?_
        refine Rg.ilt rfl rfl rfl ?_
        refine Rg.move rfl rfl ?_
        refine Rg.gsplitp (g := 18) rfl (fun g6_2 => ?_) (fun g6_2 => ?_)
        · -- g6_2 True
          refine Rg.gno rfl rfl rfl rfl ?_
          refine Rg.gno rfl rfl rfl rfl ?_
          refine Rg.pickt rfl rfl rfl ?_
          refine Rg.move rfl rfl ?_
          refine Rg.gno rfl rfl rfl rfl ?_
          refine Rg.gno rfl rfl rfl rfl ?_
          refine Rg.gno rfl rfl rfl rfl ?_
          refine Rg.gnox rfl rfl rfl ?_
          refine Rg.gnox rfl rfl rfl ?_
          refine Rg.gno rfl rfl rfl rfl ?_
          refine Rg.pickt rfl rfl rfl ?_
          refine Rg.nil ?_
          refine T.ift rfl ?_
          refine T.region ?_ -- region 7
          refine Rg.assign rfl rfl ?_
          refine Rg.nil ?_
          exact ⟨rfl, rfl, rfl, .cons rfl (.cons rfl (.cons rfl (.cons (congrArg (fun z => some (Value.int .i64 z)) (by first | exact (sgn_bad (by omega)).symm | exact (sgn_good (by omega)).symm)) (.nil))))⟩
        · -- g6_2 False
          refine Rg.gyes rfl rfl ?_
          refine Rg.move rfl rfl ?_
          refine Rg.gyes rfl rfl ?_
          refine Rg.igt rfl rfl rfl ?_
          refine Rg.pickf rfl rfl rfl ?_
          refine Rg.move rfl rfl ?_
          refine Rg.gsplitp (g := 22) rfl (fun g6_6 => ?_) (fun g6_6 => ?_)
          · -- g6_6 True
            refine Rg.gno rfl rfl rfl rfl ?_
            refine Rg.gno rfl rfl rfl rfl ?_
            refine Rg.gno rfl rfl rfl rfl ?_
            refine Rg.gnox rfl rfl rfl ?_
            refine Rg.gnox rfl rfl rfl ?_
            refine Rg.gno rfl rfl rfl rfl ?_
            refine Rg.pickt rfl rfl rfl ?_
            refine Rg.nil ?_
            refine T.ift rfl ?_
            refine T.region ?_ -- region 7
            refine Rg.assign rfl rfl ?_
            refine Rg.nil ?_
            exact ⟨rfl, rfl, rfl, .cons rfl (.cons rfl (.cons rfl (.cons (congrArg (fun z => some (Value.int .i64 z)) (by first | exact (sgn_bad (by omega)).symm | exact (sgn_good (by omega)).symm)) (.nil))))⟩
          · -- g6_6 False
            refine Rg.gyes rfl rfl ?_
            refine Rg.move rfl rfl ?_
            refine Rg.gyes rfl rfl ?_
            refine Rg.ige rfl rfl rfl ?_
            refine Rg.gyes rfl rfl ?_
            refine Rg.move rfl rfl ?_
            refine Rg.gsplitp (g := 25) rfl (fun g6_9 => ?_) (fun g6_9 => ?_)
            · -- g6_9 True
              refine Rg.gyes rfl rfl ?_
              refine Rg.move rfl rfl ?_
              refine Rg.gyes rfl rfl ?_
              refine Rg.ile rfl rfl rfl ?_
              refine Rg.gyes rfl rfl ?_
              refine Rg.pickt rfl rfl rfl ?_
              refine Rg.pickf rfl rfl rfl ?_
              refine Rg.nil ?_
              refine T.ifp rfl (fun c6 => ?_) (fun c6 => ?_)
              · -- c6 True
                refine T.region ?_ -- region 7
                refine Rg.assign rfl rfl ?_
                refine Rg.nil ?_
                exact ⟨rfl, rfl, rfl, .cons rfl (.cons rfl (.cons rfl (.cons (congrArg (fun z => some (Value.int .i64 z)) (by first | exact (sgn_bad (by omega)).symm | exact (sgn_good (by omega)).symm)) (.nil))))⟩
              · -- c6 False
                refine T.skip ?_
                exact ⟨rfl, rfl, rfl, .cons rfl (.cons rfl (.cons rfl (.cons (congrArg (fun z => some (Value.int .i64 z)) (by first | exact (sgn_bad (by omega)).symm | exact (sgn_good (by omega)).symm)) (.nil))))⟩
            · -- g6_9 False
              refine Rg.gno rfl rfl rfl rfl ?_
              refine Rg.gno rfl rfl rfl rfl ?_
              refine Rg.gyes rfl rfl ?_
              refine Rg.pickf rfl rfl rfl ?_
              refine Rg.pickf rfl rfl rfl ?_
              refine Rg.nil ?_
              refine T.iff rfl ?_
              refine T.skip ?_
              exact ⟨rfl, rfl, rfl, .cons rfl (.cons rfl (.cons rfl (.cons (congrArg (fun z => some (Value.int .i64 z)) (by first | exact (sgn_bad (by omega)).symm | exact (sgn_good (by omega)).symm)) (.nil))))⟩
      · -- joined
        refine T.seq ?_
        refine T.region ?_ -- region 8
        refine Rg.move rfl rfl ?_
        refine Rg.ilt rfl rfl rfl ?_
        refine Rg.nil ?_
        refine T.ifp rfl (fun c8 => ?_) (fun c8 => ?_)
        · -- c8 True
          refine T.region ?_ -- region 9
          refine Rg.move rfl rfl ?_
          refine Rg.move rfl rfl ?_
          refine Rg.conv Tryz.underlying3 Tryz.underlying5 rfl rfl ?_
          refine Rg.sl1 (A := RT.u8) (hn := by decide) (M := M1) Tryz.underlying147 I5 (by decide) rfl rfl hM (V_u8w (by omega)) (.inr ⟨rfl, rfl⟩) (fun u9_3 w9_3 hu9_3 s9_3 => ?_)
          replace hv := hv.le s9_3.le
          replace ho := ho.step0 s9_3
          replace hM := s9_3.lt hM
          have := S.size
          replace S := S.trans0 s9_3
          refine Rg.append (M := M1) (base := w0.heap.size) Tryz.underlying147 I5 rfl rfl rfl rfl ho hu9_3 (Le.refl _ _) (by have := textB_len (xs.take k); rw [List.length_take] at this; simp; omega) (by have := textB_len (xs.take k); rw [List.length_take] at this; simp; omega) (S.size) (fun u9_4 M9_4 w9_4 ho9_4 s9_4 => ?_)
          replace hv := hv.le s9_4.le
          replace hu9_3 := hu9_3.le s9_4.le
          replace hM := s9_4.lt hM
          have := S.size
          replace S := S.transBlk s9_4 ho (Nat.le_refl _)
          replace ho := ho9_4
          refine Rg.assign rfl rfl ?_
          refine Rg.nil ?_
          refine T.region ?_ -- region 4
          refine Rg.move rfl rfl ?_
          refine Rg.iadd rfl rfl rfl (by omega) ?_
          refine Rg.assign rfl rfl ?_
          refine Rg.nil ?_
          refine ⟨rfl, (k + 1, u9_4), (.cons rfl (.cons rfl (.cons rfl .nil))), ?_, ?_⟩
          · exact ⟨M9_4, hM, S, by rw [tk, textB_snoc, enc1 (by omega)]; exact ho, hv, by dsimp only; omega⟩
          · dsimp only; omega
        · -- c8 False
          refine T.seq ?_
          refine T.region ?_ -- region 10
          refine Rg.move rfl rfl ?_
          refine Rg.ilt rfl rfl rfl ?_
          refine Rg.nil ?_
          refine T.ifp rfl (fun c10 => ?_) (fun c10 => ?_)
          · -- c10 True
            refine T.region ?_ -- region 11
            refine Rg.move rfl rfl ?_
            refine Rg.move rfl rfl ?_
            refine Rg.idiv rfl rfl rfl (by omega) ?_
            refine Rg.iadd rfl rfl rfl (by omega) ?_
            refine Rg.conv Tryz.underlying3 Tryz.underlying5 rfl rfl ?_
            refine Rg.move rfl rfl ?_
            refine Rg.imod rfl rfl rfl (by omega) ?_
            refine Rg.iadd rfl rfl rfl (by omega) ?_
            refine Rg.conv Tryz.underlying3 Tryz.underlying5 rfl rfl ?_
            refine Rg.sln (A := RT.u8) (hn := by decide) (M := M1) (xs := [(192 + sgn c / 64).toNat.toUInt8, (128 + sgn c % 64).toNat.toUInt8]) Tryz.underlying147 I5 rfl (by decide) rfl ⟨_, _, _, rfl, rfl, rfl, V_u8w (by omega), _, _, _, rfl, rfl, rfl, V_u8w (by omega), rfl⟩ rfl hM (.inr ⟨rfl, rfl⟩) (by decide) (fun u11_9 w11_9 hu11_9 s11_9 => ?_) --@step s11_9
            --@vf hu11_9
            replace hv := hv.le s11_9.le
            replace ho := ho.step0 s11_9
            replace hM := s11_9.lt hM
            have := S.size
            replace S := S.trans0 s11_9
            refine Rg.append (M := M1) (base := w0.heap.size) Tryz.underlying147 I5 rfl rfl rfl rfl ho hu11_9 (Le.refl _ _) (by have := textB_len (xs.take k); rw [List.length_take] at this; simp; omega) (by have := textB_len (xs.take k); rw [List.length_take] at this; simp; omega) (S.size) (fun u11_10 M11_10 w11_10 ho11_10 s11_10 => ?_)
            replace hv := hv.le s11_10.le
            replace hu11_9 := hu11_9.le s11_10.le
            replace hM := s11_10.lt hM
            have := S.size
            replace S := S.transBlk s11_10 ho (Nat.le_refl _)
            replace ho := ho11_10
            refine Rg.assign rfl rfl ?_
            refine Rg.nil ?_
            refine T.region ?_ -- region 4
            refine Rg.move rfl rfl ?_
            refine Rg.iadd rfl rfl rfl (by omega) ?_
            refine Rg.assign rfl rfl ?_
            refine Rg.nil ?_
            refine ⟨rfl, (k + 1, u11_10), (.cons rfl (.cons rfl (.cons rfl .nil))), ?_, ?_⟩
            · exact ⟨M11_10, hM, S, by rw [tk, textB_snoc, enc2 (by omega)]; exact ho, hv, by dsimp only; omega⟩
            · dsimp only; omega
          · -- c10 False
            refine T.seq ?_
            refine T.region ?_ -- region 12
            refine Rg.move rfl rfl ?_
            refine Rg.ilt rfl rfl rfl ?_
            refine Rg.nil ?_
            refine T.ifp rfl (fun c12 => ?_) (fun c12 => ?_)
            · -- c12 True
              refine T.region ?_ -- region 13
              refine Rg.move rfl rfl ?_
              refine Rg.move rfl rfl ?_
              refine Rg.idiv rfl rfl rfl (by omega) ?_
              refine Rg.iadd rfl rfl rfl (by omega) ?_
              refine Rg.conv Tryz.underlying3 Tryz.underlying5 rfl rfl ?_
              refine Rg.move rfl rfl ?_
              refine Rg.idiv rfl rfl rfl (by omega) ?_
              refine Rg.imod rfl rfl rfl (by omega) ?_
              refine Rg.iadd rfl rfl rfl (by omega) ?_
              refine Rg.conv Tryz.underlying3 Tryz.underlying5 rfl rfl ?_
              refine Rg.move rfl rfl ?_
              refine Rg.imod rfl rfl rfl (by omega) ?_
              refine Rg.iadd rfl rfl rfl (by omega) ?_
              refine Rg.conv Tryz.underlying3 Tryz.underlying5 rfl rfl ?_
              refine Rg.sln (A := RT.u8) (hn := by decide) (M := M1) (xs := [(224 + sgn c / 4096).toNat.toUInt8, (128 + sgn c / 64 % 64).toNat.toUInt8, (128 + sgn c % 64).toNat.toUInt8]) Tryz.underlying147 I5 rfl (by decide) rfl ⟨_, _, _, rfl, rfl, rfl, V_u8w (by omega), _, _, _, rfl, rfl, rfl, V_u8w (by omega), _, _, _, rfl, rfl, rfl, V_u8w (by omega), rfl⟩ rfl hM (.inr ⟨rfl, rfl⟩) (by decide) (fun u13_14 w13_14 hu13_14 s13_14 => ?_) --@step s13_14
              --@vf hu13_14
              replace hv := hv.le s13_14.le
              replace ho := ho.step0 s13_14
              replace hM := s13_14.lt hM
              have := S.size
              replace S := S.trans0 s13_14
              refine Rg.append (M := M1) (base := w0.heap.size) Tryz.underlying147 I5 rfl rfl rfl rfl ho hu13_14 (Le.refl _ _) (by have := textB_len (xs.take k); rw [List.length_take] at this; simp; omega) (by have := textB_len (xs.take k); rw [List.length_take] at this; simp; omega) (S.size) (fun u13_15 M13_15 w13_15 ho13_15 s13_15 => ?_)
              replace hv := hv.le s13_15.le
              replace hu13_14 := hu13_14.le s13_15.le
              replace hM := s13_15.lt hM
              have := S.size
              replace S := S.transBlk s13_15 ho (Nat.le_refl _)
              replace ho := ho13_15
              refine Rg.assign rfl rfl ?_
              refine Rg.nil ?_
              refine T.region ?_ -- region 4
              refine Rg.move rfl rfl ?_
              refine Rg.iadd rfl rfl rfl (by omega) ?_
              refine Rg.assign rfl rfl ?_
              refine Rg.nil ?_
              refine ⟨rfl, (k + 1, u13_15), (.cons rfl (.cons rfl (.cons rfl .nil))), ?_, ?_⟩
              · exact ⟨M13_15, hM, S, by rw [tk, textB_snoc, enc3 (by omega) hsc]; exact ho, hv, by dsimp only; omega⟩
              · dsimp only; omega
            · -- c12 False
              refine T.region ?_ -- region 14
              refine Rg.move rfl rfl ?_
              refine Rg.move rfl rfl ?_
              refine Rg.idiv rfl rfl rfl (by omega) ?_
              refine Rg.iadd rfl rfl rfl (by omega) ?_
              refine Rg.conv Tryz.underlying3 Tryz.underlying5 rfl rfl ?_
              refine Rg.move rfl rfl ?_
              refine Rg.idiv rfl rfl rfl (by omega) ?_
              refine Rg.imod rfl rfl rfl (by omega) ?_
              refine Rg.iadd rfl rfl rfl (by omega) ?_
              refine Rg.conv Tryz.underlying3 Tryz.underlying5 rfl rfl ?_
              refine Rg.move rfl rfl ?_
              refine Rg.idiv rfl rfl rfl (by omega) ?_
              refine Rg.imod rfl rfl rfl (by omega) ?_
              refine Rg.iadd rfl rfl rfl (by omega) ?_
              refine Rg.conv Tryz.underlying3 Tryz.underlying5 rfl rfl ?_
              refine Rg.move rfl rfl ?_
              refine Rg.imod rfl rfl rfl (by omega) ?_
              refine Rg.iadd rfl rfl rfl (by omega) ?_
              refine Rg.conv Tryz.underlying3 Tryz.underlying5 rfl rfl ?_
              refine Rg.sln (A := RT.u8) (hn := by decide) (M := M1) (xs := [(240 + sgn c / 262144).toNat.toUInt8, (128 + sgn c / 4096 % 64).toNat.toUInt8, (128 + sgn c / 64 % 64).toNat.toUInt8, (128 + sgn c % 64).toNat.toUInt8]) Tryz.underlying147 I5 rfl (by decide) rfl ⟨_, _, _, rfl, rfl, rfl, V_u8w (by omega), _, _, _, rfl, rfl, rfl, V_u8w (by omega), _, _, _, rfl, rfl, rfl, V_u8w (by omega), _, _, _, rfl, rfl, rfl, V_u8w (by omega), rfl⟩ rfl hM (.inr ⟨rfl, rfl⟩) (by decide) (fun u14_19 w14_19 hu14_19 s14_19 => ?_) --@step s14_19
              --@vf hu14_19
              replace hv := hv.le s14_19.le
              replace ho := ho.step0 s14_19
              replace hM := s14_19.lt hM
              have := S.size
              replace S := S.trans0 s14_19
              refine Rg.append (M := M1) (base := w0.heap.size) Tryz.underlying147 I5 rfl rfl rfl rfl ho hu14_19 (Le.refl _ _) (by have := textB_len (xs.take k); rw [List.length_take] at this; simp; omega) (by have := textB_len (xs.take k); rw [List.length_take] at this; simp; omega) (S.size) (fun u14_20 M14_20 w14_20 ho14_20 s14_20 => ?_)
              replace hv := hv.le s14_20.le
              replace hu14_19 := hu14_19.le s14_20.le
              replace hM := s14_20.lt hM
              have := S.size
              replace S := S.transBlk s14_20 ho (Nat.le_refl _)
              replace ho := ho14_20
              refine Rg.assign rfl rfl ?_
              refine Rg.nil ?_
              refine T.region ?_ -- region 4
              refine Rg.move rfl rfl ?_
              refine Rg.iadd rfl rfl rfl (by omega) ?_
              refine Rg.assign rfl rfl ?_
              refine Rg.nil ?_
              refine ⟨rfl, (k + 1, u14_20), (.cons rfl (.cons rfl (.cons rfl .nil))), ?_, ?_⟩
              · exact ⟨M14_20, hM, S, by rw [tk, textB_snoc, enc4 (by omega)]; exact ho, hv, by dsimp only; omega⟩
              · dsimp only; omega
    · -- c3 False
      refine T.exit ?_
      refine T.seq ?_
      refine T.region ?_ -- region 15
      refine Rg.move rfl rfl ?_
      refine Rg.b2s (hn := by decide) (M := M) Tryz.underlying147 Tryz.underlying5 Tryz.underlying9 rfl rfl (ho.close hM0 S (by have := textB_len (xs.take k); rw [List.length_take] at this; omega)) (Le.refl _ _) ?_
      refine Rg.assign rfl rfl ?_
      refine Rg.nil ?_
      refine T.ret ?_
      have e : xs.take k = xs := List.take_of_length_le (by omega)
      rw [e]
      exact Kret1 rfl rfl ⟨rfl, S.back⟩
end Go.K
namespace Go.K
open Go.Proofs
set_option linter.unusedVariables false
set_option linter.unusedSimpArgs false
set_option maxRecDepth 10000
/-- 'concordance/sign.Signs' -/
theorem signs_spec {M : PSet} {l : List UInt8} (w0 : World) (hM : Lt M w0) (hl : l.length ≤ 1000000) :
    Spec Tryz.prog 225 #[.string ⟨l.toArray⟩] w0 (fun v w => ((RT.int .i64).sl).V M w (signs l) v ∧ Step M w0 M w none') := by
  have hM0 := hM
  refine spec_of (args := [_]) (fn := Tryz.f225) Tryz.func225 rfl (n := 17) Tryz.ntmps225 ?_
  have S : Step M w0 M w0 none' := (Step.refl _ _).widen (fun _ h => h.elim) (fun _ h => h.elim)
  refine T.seq ?_
  refine T.region ?_ -- region 0
  refine Rg.assign rfl rfl ?_
  refine Rg.nil ?_
  refine T.seq ?_
  refine T.region ?_ -- region 1
  refine Rg.assign rfl rfl ?_
  refine Rg.nil ?_
  refine T.seq ?_
  refine T.seq ?_
  refine T.region ?_ -- region 2
  refine Rg.move rfl rfl ?_
  refine Rg.rangeStr M Tryz.underlying9 rfl rfl (fun b2_1 w2_1 p2_1 q2_1 g2_1 s2_1 => ?_)
  obtain ⟨M_2_1, eM_2_1⟩ : ∃ M', M' = ins M b2_1 := ⟨_, rfl⟩
  rw [← eM_2_1] at s2_1
  have m_g2_1 : M_2_1 b2_1 := by rw [eM_2_1]; exact .inl rfl
  replace hM := s2_1.lt hM
  have := S.size
  replace S := S.trans0 s2_1
  refine Rg.nil ?_
  refine T.block ?_
  refine T.loop (σ := Nat × List Int × Value) (fun q => [(3, q.2.2), (7, .pointer (some ⟨b2_1, 0, none⟩))]) (fun q w => ∃ M', Lt M' w ∧ Step M w0 M' w none' ∧ w.heap[b2_1]? = some (.stringIter ⟨l.toArray⟩ q.1) ∧ M' b2_1 ∧ Own (RT.int .i64) 3 M' w w0.heap.size q.2.2 q.2.1 ∧ signs l = q.2.1 ++ signs (l.drop q.1) ∧ q.1 ≤ l.length) (fun q => l.length - q.1) (0, [], .slice none 0 0) (.cons rfl (.cons rfl .nil)) ?_ ?_ -- loop 0
  · exact ⟨M_2_1, hM, S, g2_1, m_g2_1, Own.nil _ _ _ _ _, by simp, by simp⟩
  · rintro ⟨p, xs, u⟩ w ⟨M1, hM, S, g, m_g, ho, hsg, hp⟩
    dsimp only at g ho hsg hp ⊢
    refine T.seq ?_
    refine T.region ?_ -- region 3
    refine Rg.nextStr (M := M1) rfl g m_g rfl (fun n3_0 w3_0 g3_0 s3_0 => ?_) (fun n3_0 => ?_)
    · -- next 3_0 True
      have := lt_of_get g
      replace m_g := (s3_0.mem _ this).2 m_g
      replace ho := ho.step s3_0 (fun b hb hk => ho.notIter g (hk ▸ hb))
      replace hM := s3_0.lt hM
      have := S.size
      replace S := S.trans s3_0 (fun k hk h => by have h : _ = _ := h; subst h; first | (exfalso; omega) | (show _ ≤ _; omega) | exact ⟨by omega, (S.mem _ hk).1 ((s3_0.mem _ (lt_of_get g)).1 m_g)⟩ | exact .inl rfl | exact .inr rfl | exact .inr (.inl rfl) | exact .inr (.inr rfl) | exact rfl)
      have g_ := g3_0
      clear g
      have g := g_
      clear g_
      refine Rg.extract rfl rfl rfl ?_
      refine Rg.nil ?_
      refine T.seq ?_
      refine T.ift rfl ?_
      refine T.skip ?_
      refine T.block ?_
      refine T.seq ?_
      refine T.region ?_ -- region 4
      refine Rg.extract rfl rfl rfl ?_
      refine Rg.assign rfl rfl ?_
      refine Rg.nil ?_
      refine T.region ?_ -- region 5
      refine Rg.move rfl rfl ?_
      refine Rg.move rfl rfl ?_
      refine Rg.conv64 Tryz.underlying21 Tryz.underlying3 rfl rfl (by have := dec_bound (l.drop p); omega) ?_
      refine Rg.sl1 (A := RT.int .i64) (hn := by decide) (M := M1) Tryz.underlying32 I3 (by decide) rfl rfl hM (V_i64 (by have := dec_bound (l.drop p); omega)) (.inr ⟨rfl, rfl⟩) (fun u5_3 w5_3 hu5_3 s5_3 => ?_)
      have := lt_of_get g
      replace m_g := (s5_3.mem _ this).2 m_g
      replace g := s5_3.same0 g
      replace ho := ho.step0 s5_3
      replace hM := s5_3.lt hM
      have := S.size
      replace S := S.trans0 s5_3
      refine Rg.append (M := M1) (base := w0.heap.size) Tryz.underlying32 I3 rfl rfl rfl rfl ho hu5_3 (Le.refl _ _) (by simp; have := signs_len l; rw [hsg] at this; simp at this; omega) (by simp; have := signs_len l; rw [hsg] at this; simp at this; omega) (S.size) (fun u5_4 M5_4 w5_4 ho5_4 s5_4 => ?_)
      have := lt_of_get g
      replace m_g := (s5_4.mem _ this).2 m_g
      replace g := s5_4.keep g (fun h => by first | exact ho.notIter g h | exact ho.neT g (by decide) h | (have := (ho.base _ h).1; omega))
      replace hu5_3 := hu5_3.le s5_4.le
      replace hM := s5_4.lt hM
      have := S.size
      replace S := S.transBlk s5_4 ho (Nat.le_refl _)
      replace ho := ho5_4
      refine Rg.assign rfl rfl ?_
      refine Rg.nil ?_
      have hne : l.drop p ≠ [] := by intro h; have := congrArg List.length h; simp at this; omega
      refine ⟨rfl, (p + (dec (l.drop p)).2, xs ++ [((dec (l.drop p)).1 : Int)], u5_4), (.cons rfl (.cons rfl .nil)), ?_, ?_⟩
      · refine ⟨M5_4, hM, S, g, m_g, ho, ?_, ?_⟩
        · rw [hsg, signs_step hne, List.drop_drop]; simp
        · have := (dec_width hne).2; rw [List.length_drop] at this; dsimp only; omega
      · have := (dec_width hne).1
        have := (dec_width hne).2
        rw [List.length_drop] at this
        dsimp only; omega
    · -- next 3_0 False
      refine Rg.extract rfl rfl rfl ?_
      refine Rg.nil ?_
      refine T.seq ?_
      refine T.iff rfl ?_
      refine T.exit ?_
      refine T.seq ?_
      refine T.region ?_ -- region 6
      refine Rg.move rfl rfl ?_
      refine Rg.assign rfl rfl ?_
      refine Rg.nil ?_
      refine T.ret ?_
      have e : signs l = xs := by rw [hsg, List.drop_of_length_le (by omega), signs_nil]; simp
      rw [e]
      have := signs_len l
      rw [e] at this
      exact Kret1 rfl rfl ⟨ho.close hM0 S (by omega), S.back⟩
/-- a text's words, sign by sign: the word that is being read, those that were -/
def takeF (p : List Int × List (List UInt8)) (c : Int) : List Int × List (List UInt8) :=
  if letB c = true ∨ digB c = true then (p.1 ++ [foldZ c], p.2) else if 0 < p.1.length then ([], p.2 ++ [textB p.1]) else ([], p.2)
structure TakeS (M : PSet) (w : World) (B bo bs : Nat) (p : List Int × List (List UInt8)) : Prop where
  a : ∃ u, w.heap[bo]? = some (.cells #[u] 32 (0, 0)) ∧ Own (RT.int .i64) 3 M w B u p.1
  b : ∃ u, w.heap[bs]? = some (.cells #[u] 55 (0, 0)) ∧ Own RT.str 9 M w B u p.2
  m : M bo ∧ M bs ∧ B ≤ bo ∧ B ≤ bs
theorem letB_rng {c : Int} (h : letB c = true ∨ digB c = true) : 0 ≤ c ∧ c ≤ 1114111 := by
  simp only [letB, digB, decide_eq_true_eq] at h; omega
/-- 'concordance/word.Words$1' -/
theorem wtake_spec {M : PSet} {B bo bs : Nat} {p : List Int × List (List UInt8)} (w0 : World) (hM : Lt M w0) (c : Int) (ht : TakeS M w0 B bo bs p) (hl : p.1.length ≤ 1000000 ∧ p.2.length ≤ 1000000) :
    Spec Tryz.prog 220 #[.int .i64 c, .pointer (some ⟨bo, 0, none⟩), .pointer (some ⟨bs, 0, none⟩)] w0 (fun v w => ∃ M', Lt M' w ∧ TakeS M' w B bo bs (takeF p c) ∧ Step M w0 M' w (mine M B)) := by
  obtain ⟨⟨uo, go, ho⟩, ⟨us, gs, hs⟩, m_go, m_gs, hBo, hBs⟩ := ht
  obtain ⟨own, out⟩ := p
  dsimp only at ho hs hl ⊢
  have hne : bo ≠ bs := fun e => by subst e; rw [go] at gs; cases gs
  refine spec_of (args := [_, _, _]) (fn := Tryz.f220) Tryz.func220 rfl (n := 23) Tryz.ntmps220 ?_
  have S : Step M w0 M w0 (mine M B) := (Step.refl _ _).widen (fun _ h => h.elim) (fun _ h => h.2)
  refine T.seq ?_
  refine T.seq ?_
  refine T.region ?_ -- region 0
  refine Rg.move rfl rfl ?_
  refine Rg.call rfl rfl E221 (letter_spec _ _) (fun r wc hc => ?_)
  obtain ⟨rfl, rfl⟩ := hc 
  refine Rg.eqv (v' := .bool (decide (letB c = true))) (by cases letB c <;> rfl) ?_
  refine Rg.move rfl rfl ?_
  refine Rg.gsplitp (g := 6) rfl (fun g0_2 => ?_) (fun g0_2 => ?_)
  · -- g0_2 True
    refine Rg.gno rfl rfl rfl rfl ?_
    refine Rg.gno rfl rfl rfl rfl ?_
    refine Rg.pickt rfl rfl rfl ?_
    refine Rg.nil ?_
    refine T.ift rfl ?_
    refine T.seq ?_
    apply T.drawF 2 [0] 2 none' mixed rfl rfl rfl rfl -- region 1
    intro wD1 sA1
    have sD1 := sA1 M
    have := lt_of_get go
    replace m_go := (sD1.mem _ this).2 m_go
    replace go := sD1.same0 go
    have := lt_of_get gs
    replace m_gs := (sD1.mem _ this).2 m_gs
    replace gs := sD1.same0 gs
    replace ho := ho.step0 sD1
    replace hs := hs.step0 sD1
    replace hM := sD1.lt hM
    have := S.size
    replace S := S.trans0 sD1
    refine Rg.loadc Tryz.underlying32 rfl rfl rfl (by first | assumption | exact Step.same0 sD1 (by assumption)) rfl ?_
    refine Rg.nil ⟨rfl, rfl, rfl, ?_⟩
    refine Rg.move rfl rfl ?_
    refine Rg.nil ⟨rfl, rfl, rfl, ?_⟩
    refine QRg.nil ?_
    refine ⟨Floats.all ⟨FloatOk.load rfl (by assumption) (by first | assumption | exact fun h => h | (intro h; have h : _ = _ := h; omega)), trivial⟩, ?_⟩
    have kp := Keep.refl none' wD1
    have hlet : letB c = true ∨ digB c = true := by first | exact .inl (by assumption) | exact .inr (by assumption)
    refine Rg.call rfl rfl E223 (fold_spec c _ (letB_rng hlet)) (fun r wc hc => ?_)
    obtain ⟨rfl, rfl⟩ := hc 
    refine (fun (kp : Keep _ _ _) => Rg.nil ⟨rfl, rfl, fun _ => kp, ?_⟩) (by first | exact kp | exact kp.go0 (by assumption) | exact kp.goN (by assumption) | exact kp.go (by assumption) (fun _ _ h => by first | exact h | exact h.elim))
    refine Rg.sl1 (A := RT.int .i64) (hn := by decide) (M := M) Tryz.underlying32 I3 (by decide) rfl rfl hM (V_i64 (by have := letB_rng hlet; unfold foldZ; split <;> omega)) (.inr ⟨rfl, rfl⟩) (fun u1_3 w1_3 hu1_3 s1_3 => ?_)
    have := lt_of_get go
    replace m_go := (s1_3.mem _ this).2 m_go
    replace go := s1_3.same0 go
    have := lt_of_get gs
    replace m_gs := (s1_3.mem _ this).2 m_gs
    replace gs := s1_3.same0 gs
    replace ho := ho.step0 s1_3
    replace hs := hs.step0 s1_3
    replace hM := s1_3.lt hM
    have := S.size
    replace S := S.trans0 s1_3
    refine (fun (kp : Keep _ _ _) => Rg.nil ⟨rfl, rfl, fun _ => kp, ?_⟩) (by first | exact kp | exact kp.go0 (by assumption) | exact kp.goN (by assumption) | exact kp.go (by assumption) (fun _ _ h => by first | exact h | exact h.elim))
    refine Rg.append (M := M) (base := B) Tryz.underlying32 I3 rfl rfl rfl rfl ho hu1_3 (Le.refl _ _) (by simp; omega) (by simp; omega) (by have := lt_of_get go; omega) (fun u1_4 M1_4 w1_4 ho1_4 s1_4 => ?_)
    have := lt_of_get go
    replace m_go := (s1_4.mem _ this).2 m_go
    replace go := s1_4.keep go (fun h => by first | exact ho.notIter go h | exact ho.neT go (by decide) h | (have := (ho.base _ h).1; omega))
    have := lt_of_get gs
    replace m_gs := (s1_4.mem _ this).2 m_gs
    replace gs := s1_4.keep gs (fun h => by first | exact ho.notIter gs h | exact ho.neT gs (by decide) h | (have := (ho.base _ h).1; omega))
    replace hu1_3 := hu1_3.le s1_4.le
    replace hs := hs.step s1_4 (fun b h1 h2 => hs.apartT ho (by decide) h1 h2)
    replace hM := s1_4.lt hM
    have := S.size
    replace S := S.trans s1_4 (fun b hb h => ⟨(ho.base b h).1, (S.mem b hb).1 (ho.mut_ b h)⟩)
    replace ho := ho1_4
    refine Rg.nil ⟨rfl, rfl, fun h => absurd rfl h, ?_⟩
    refine Rg.storec (M := M1_4) I32 rfl rfl go rfl ((by obtain ⟨_, _, he, _⟩ := ho.isSlice; rw [he]; rfl)) m_go (fun w1_5 g1_5 s1_5 => ?_)
    change w1_5.heap[_]? = some (Obj.cells #[u1_4] _ _) at g1_5
    have := lt_of_get go
    replace m_go := (s1_5.mem _ this).2 m_go
    have := lt_of_get gs
    replace m_gs := (s1_5.mem _ this).2 m_gs
    replace gs := s1_5.keep gs (fun hk => by have hk : _ = _ := hk; omega)
    replace hu1_3 := hu1_3.le s1_5.le
    replace ho := ho.step s1_5 (fun b hb hk => by have hk : b = _ := hk; subst hk; first | exact absurd hb (ho.neT go (by decide)) | exact absurd hb (ho.neT gs (by decide)))
    replace hs := hs.step s1_5 (fun b hb hk => by have hk : b = _ := hk; subst hk; first | exact absurd hb (hs.neT go (by decide)) | exact absurd hb (hs.neT gs (by decide)))
    replace hM := s1_5.lt hM
    have := S.size
    replace S := S.trans s1_5 (fun k hk h => by have h : _ = _ := h; subst h; first | (exfalso; omega) | (show _ ≤ _; omega) | exact ⟨by omega, (S.mem _ hk).1 ((s1_5.mem _ (lt_of_get go)).1 m_go)⟩ | exact .inl rfl | exact .inr rfl | exact .inr (.inl rfl) | exact .inr (.inr rfl) | exact rfl)
    have go_ := g1_5
    clear go
    have go := go_
    clear go_
    refine Rg.nil ⟨rfl, rfl, fun h => absurd rfl h, ?_⟩
    refine TRg.nil ?_
    refine T.ret ?_
    rw [show takeF (own, out) c = (own ++ [foldZ c], out) from if_pos hlet]
    exact Kret0 rfl ⟨M1_4, hM, ⟨⟨_, go, ho⟩, ⟨_, gs, hs⟩, m_go, m_gs, hBo, hBs⟩, S⟩
  · -- g0_2 False
    refine Rg.gyes rfl rfl ?_
    refine Rg.move rfl rfl ?_
    refine Rg.gyes rfl rfl ?_
    refine Rg.call rfl rfl E222 (digit_spec _ _) (fun r wc hc => ?_)
    obtain ⟨rfl, rfl⟩ := hc 
    refine Rg.eqv (v' := .bool (decide (digB c = true))) (by cases digB c <;> rfl) ?_
    refine Rg.pickf rfl rfl rfl ?_
    refine Rg.nil ?_
    refine T.ifp rfl (fun c0 => ?_) (fun c0 => ?_)
    · -- c0 True
      refine T.seq ?_
      apply T.drawF 2 [0] 2 none' mixed rfl rfl rfl rfl -- region 1
      intro wD1 sA1
      have sD1 := sA1 M
      have := lt_of_get go
      replace m_go := (sD1.mem _ this).2 m_go
      replace go := sD1.same0 go
      have := lt_of_get gs
      replace m_gs := (sD1.mem _ this).2 m_gs
      replace gs := sD1.same0 gs
      replace ho := ho.step0 sD1
      replace hs := hs.step0 sD1
      replace hM := sD1.lt hM
      have := S.size
      replace S := S.trans0 sD1
      refine Rg.loadc Tryz.underlying32 rfl rfl rfl (by first | assumption | exact Step.same0 sD1 (by assumption)) rfl ?_
      refine Rg.nil ⟨rfl, rfl, rfl, ?_⟩
      refine Rg.move rfl rfl ?_
      refine Rg.nil ⟨rfl, rfl, rfl, ?_⟩
      refine QRg.nil ?_
      refine ⟨Floats.all ⟨FloatOk.load rfl (by assumption) (by first | assumption | exact fun h => h | (intro h; have h : _ = _ := h; omega)), trivial⟩, ?_⟩
      have kp := Keep.refl none' wD1
      have hlet : letB c = true ∨ digB c = true := by first | exact .inl (by assumption) | exact .inr (by assumption)
      refine Rg.call rfl rfl E223 (fold_spec c _ (letB_rng hlet)) (fun r wc hc => ?_)
      obtain ⟨rfl, rfl⟩ := hc 
      refine (fun (kp : Keep _ _ _) => Rg.nil ⟨rfl, rfl, fun _ => kp, ?_⟩) (by first | exact kp | exact kp.go0 (by assumption) | exact kp.goN (by assumption) | exact kp.go (by assumption) (fun _ _ h => by first | exact h | exact h.elim))
      refine Rg.sl1 (A := RT.int .i64) (hn := by decide) (M := M) Tryz.underlying32 I3 (by decide) rfl rfl hM (V_i64 (by have := letB_rng hlet; unfold foldZ; split <;> omega)) (.inr ⟨rfl, rfl⟩) (fun u1_3 w1_3 hu1_3 s1_3 => ?_)
      have := lt_of_get go
      replace m_go := (s1_3.mem _ this).2 m_go
      replace go := s1_3.same0 go
      have := lt_of_get gs
      replace m_gs := (s1_3.mem _ this).2 m_gs
      replace gs := s1_3.same0 gs
      replace ho := ho.step0 s1_3
      replace hs := hs.step0 s1_3
      replace hM := s1_3.lt hM
      have := S.size
      replace S := S.trans0 s1_3
      refine (fun (kp : Keep _ _ _) => Rg.nil ⟨rfl, rfl, fun _ => kp, ?_⟩) (by first | exact kp | exact kp.go0 (by assumption) | exact kp.goN (by assumption) | exact kp.go (by assumption) (fun _ _ h => by first | exact h | exact h.elim))
      refine Rg.append (M := M) (base := B) Tryz.underlying32 I3 rfl rfl rfl rfl ho hu1_3 (Le.refl _ _) (by simp; omega) (by simp; omega) (by have := lt_of_get go; omega) (fun u1_4 M1_4 w1_4 ho1_4 s1_4 => ?_)
      have := lt_of_get go
      replace m_go := (s1_4.mem _ this).2 m_go
      replace go := s1_4.keep go (fun h => by first | exact ho.notIter go h | exact ho.neT go (by decide) h | (have := (ho.base _ h).1; omega))
      have := lt_of_get gs
      replace m_gs := (s1_4.mem _ this).2 m_gs
      replace gs := s1_4.keep gs (fun h => by first | exact ho.notIter gs h | exact ho.neT gs (by decide) h | (have := (ho.base _ h).1; omega))
      replace hu1_3 := hu1_3.le s1_4.le
      replace hs := hs.step s1_4 (fun b h1 h2 => hs.apartT ho (by decide) h1 h2)
      replace hM := s1_4.lt hM
      have := S.size
      replace S := S.trans s1_4 (fun b hb h => ⟨(ho.base b h).1, (S.mem b hb).1 (ho.mut_ b h)⟩)
      replace ho := ho1_4
      refine Rg.nil ⟨rfl, rfl, fun h => absurd rfl h, ?_⟩
      refine Rg.storec (M := M1_4) I32 rfl rfl go rfl ((by obtain ⟨_, _, he, _⟩ := ho.isSlice; rw [he]; rfl)) m_go (fun w1_5 g1_5 s1_5 => ?_)
      change w1_5.heap[_]? = some (Obj.cells #[u1_4] _ _) at g1_5
      have := lt_of_get go
      replace m_go := (s1_5.mem _ this).2 m_go
      have := lt_of_get gs
      replace m_gs := (s1_5.mem _ this).2 m_gs
      replace gs := s1_5.keep gs (fun hk => by have hk : _ = _ := hk; omega)
      replace hu1_3 := hu1_3.le s1_5.le
      replace ho := ho.step s1_5 (fun b hb hk => by have hk : b = _ := hk; subst hk; first | exact absurd hb (ho.neT go (by decide)) | exact absurd hb (ho.neT gs (by decide)))
      replace hs := hs.step s1_5 (fun b hb hk => by have hk : b = _ := hk; subst hk; first | exact absurd hb (hs.neT go (by decide)) | exact absurd hb (hs.neT gs (by decide)))
      replace hM := s1_5.lt hM
      have := S.size
      replace S := S.trans s1_5 (fun k hk h => by have h : _ = _ := h; subst h; first | (exfalso; omega) | (show _ ≤ _; omega) | exact ⟨by omega, (S.mem _ hk).1 ((s1_5.mem _ (lt_of_get go)).1 m_go)⟩ | exact .inl rfl | exact .inr rfl | exact .inr (.inl rfl) | exact .inr (.inr rfl) | exact rfl)
      have go_ := g1_5
      clear go
      have go := go_
      clear go_
      refine Rg.nil ⟨rfl, rfl, fun h => absurd rfl h, ?_⟩
      refine TRg.nil ?_
      refine T.ret ?_
      rw [show takeF (own, out) c = (own ++ [foldZ c], out) from if_pos hlet]
      exact Kret0 rfl ⟨M1_4, hM, ⟨⟨_, go, ho⟩, ⟨_, gs, hs⟩, m_go, m_gs, hBo, hBs⟩, S⟩
    · -- c0 False
      refine T.skip ?_
      refine T.seq ?_
      refine T.seq ?_
      refine T.region ?_ -- region 2
      refine Rg.loadc Tryz.underlying32 rfl rfl rfl (by assumption) rfl ?_
      refine Rg.lenown Tryz.underlying32 rfl ho rfl ?_
      refine Rg.igt rfl rfl rfl ?_
      refine Rg.nil ?_
      refine T.ifp rfl (fun c2 => ?_) (fun c2 => ?_)
      · -- c2 True
        apply T.drawF 2 [0] 2 none' mixed rfl rfl rfl rfl -- region 3
        intro wD3 sA3
        have sD3 := sA3 M
        have := lt_of_get go
        replace m_go := (sD3.mem _ this).2 m_go
        replace go := sD3.same0 go
        have := lt_of_get gs
        replace m_gs := (sD3.mem _ this).2 m_gs
        replace gs := sD3.same0 gs
        replace ho := ho.step0 sD3
        replace hs := hs.step0 sD3
        replace hM := sD3.lt hM
        have := S.size
        replace S := S.trans0 sD3
        refine Rg.loadc Tryz.underlying55 rfl rfl rfl (by first | assumption | exact Step.same0 sD3 (by assumption)) rfl ?_
        refine Rg.nil ⟨rfl, rfl, rfl, ?_⟩
        refine Rg.loadc Tryz.underlying32 rfl rfl rfl (by first | assumption | exact Step.same0 sD3 (by assumption)) rfl ?_
        refine Rg.nil ⟨rfl, rfl, rfl, ?_⟩
        refine QRg.nil ?_
        refine ⟨Floats.all ⟨FloatOk.load rfl (by assumption) (by first | assumption | exact fun h => h | (intro h; have h : _ = _ := h; omega)), trivial⟩, ?_⟩
        have kp := Keep.refl none' wD3
        refine Rg.call rfl rfl E224 (text_spec (M := rm M uo) _ (fun b hb => hM b hb.1) (ho.view (by omega)) (by omega)) (fun r3 w3 hc => ?_)
        obtain ⟨rfl, s3⟩ := hc
        replace s3 := s3.any M --@step s3
        have := lt_of_get go
        replace m_go := (s3.mem _ this).2 m_go
        replace go := s3.same0 go
        have := lt_of_get gs
        replace m_gs := (s3.mem _ this).2 m_gs
        replace gs := s3.same0 gs
        replace ho := ho.step0 s3
        replace hs := hs.step0 s3
        replace hM := s3.lt hM
        have := S.size
        replace S := S.trans0 s3
        refine (fun (kp : Keep _ _ _) => Rg.nil ⟨rfl, rfl, fun _ => kp, ?_⟩) (by first | exact kp | exact kp.go0 (by assumption) | exact kp.goN (by assumption) | exact kp.go (by assumption) (fun _ _ h => by first | exact h | exact h.elim))
        refine Rg.sl1 (A := RT.str) (hn := by decide) (M := M) Tryz.underlying55 I9 (by decide) rfl rfl hM (V_str.2 ⟨rfl, by have := textB_len own; omega⟩) (.inr ⟨rfl, rfl⟩) (fun u3_3 w3_3 hu3_3 s3_3 => ?_)
        have := lt_of_get go
        replace m_go := (s3_3.mem _ this).2 m_go
        replace go := s3_3.same0 go
        have := lt_of_get gs
        replace m_gs := (s3_3.mem _ this).2 m_gs
        replace gs := s3_3.same0 gs
        replace ho := ho.step0 s3_3
        replace hs := hs.step0 s3_3
        replace hM := s3_3.lt hM
        have := S.size
        replace S := S.trans0 s3_3
        refine (fun (kp : Keep _ _ _) => Rg.nil ⟨rfl, rfl, fun _ => kp, ?_⟩) (by first | exact kp | exact kp.go0 (by assumption) | exact kp.goN (by assumption) | exact kp.go (by assumption) (fun _ _ h => by first | exact h | exact h.elim))
        refine Rg.append (M := M) (base := B) Tryz.underlying55 I9 rfl rfl rfl rfl hs hu3_3 (Le.refl _ _) (by simp; omega) (by simp; omega) (by have := lt_of_get go; omega) (fun u3_4 M3_4 w3_4 ho3_4 s3_4 => ?_)
        have := lt_of_get go
        replace m_go := (s3_4.mem _ this).2 m_go
        replace go := s3_4.keep go (fun h => by first | exact hs.notIter go h | exact hs.neT go (by decide) h | (have := (hs.base _ h).1; omega))
        have := lt_of_get gs
        replace m_gs := (s3_4.mem _ this).2 m_gs
        replace gs := s3_4.keep gs (fun h => by first | exact hs.notIter gs h | exact hs.neT gs (by decide) h | (have := (hs.base _ h).1; omega))
        replace hu3_3 := hu3_3.le s3_4.le
        replace ho := ho.step s3_4 (fun b h1 h2 => ho.apartT hs (by decide) h1 h2)
        replace hM := s3_4.lt hM
        have := S.size
        replace S := S.trans s3_4 (fun b hb h => ⟨(hs.base b h).1, (S.mem b hb).1 (hs.mut_ b h)⟩)
        replace hs := ho3_4
        refine Rg.nil ⟨rfl, rfl, fun h => absurd rfl h, ?_⟩
        refine Rg.storec (M := M3_4) I55 rfl rfl gs rfl ((by obtain ⟨_, _, he, _⟩ := hs.isSlice; rw [he]; rfl)) m_gs (fun w3_5 g3_5 s3_5 => ?_)
        change w3_5.heap[_]? = some (Obj.cells #[u3_4] _ _) at g3_5
        have := lt_of_get go
        replace m_go := (s3_5.mem _ this).2 m_go
        replace go := s3_5.keep go (fun hk => by have hk : _ = _ := hk; omega)
        have := lt_of_get gs
        replace m_gs := (s3_5.mem _ this).2 m_gs
        replace hu3_3 := hu3_3.le s3_5.le
        replace ho := ho.step s3_5 (fun b hb hk => by have hk : b = _ := hk; subst hk; first | exact absurd hb (ho.neT go (by decide)) | exact absurd hb (ho.neT gs (by decide)))
        replace hs := hs.step s3_5 (fun b hb hk => by have hk : b = _ := hk; subst hk; first | exact absurd hb (hs.neT go (by decide)) | exact absurd hb (hs.neT gs (by decide)))
        replace hM := s3_5.lt hM
        have := S.size
        replace S := S.trans s3_5 (fun k hk h => by have h : _ = _ := h; subst h; first | (exfalso; omega) | (show _ ≤ _; omega) | exact ⟨by omega, (S.mem _ hk).1 ((s3_5.mem _ (lt_of_get gs)).1 m_gs)⟩ | exact .inl rfl | exact .inr rfl | exact .inr (.inl rfl) | exact .inr (.inr rfl) | exact rfl)
        have gs_ := g3_5
        clear gs
        have gs := gs_
        clear gs_
        refine Rg.nil ⟨rfl, rfl, fun h => absurd rfl h, ?_⟩
        refine TRg.nil ?_
        refine T.region ?_ -- region 4
        refine Rg.storec (M := M3_4) I32 rfl rfl go rfl (rfl) m_go (fun w4_0 g4_0 s4_0 => ?_)
        change w4_0.heap[_]? = some (Obj.cells #[.slice none 0 0] _ _) at g4_0
        have := lt_of_get go
        replace m_go := (s4_0.mem _ this).2 m_go
        have := lt_of_get gs
        replace m_gs := (s4_0.mem _ this).2 m_gs
        replace gs := s4_0.keep gs (fun hk => by have hk : _ = _ := hk; omega)
        replace hu3_3 := hu3_3.le s4_0.le
        replace ho := ho.step s4_0 (fun b hb hk => by have hk : b = _ := hk; subst hk; first | exact absurd hb (ho.neT go (by decide)) | exact absurd hb (ho.neT gs (by decide)))
        replace hs := hs.step s4_0 (fun b hb hk => by have hk : b = _ := hk; subst hk; first | exact absurd hb (hs.neT go (by decide)) | exact absurd hb (hs.neT gs (by decide)))
        replace hM := s4_0.lt hM
        have := S.size
        replace S := S.trans s4_0 (fun k hk h => by have h : _ = _ := h; subst h; first | (exfalso; omega) | (show _ ≤ _; omega) | exact ⟨by omega, (S.mem _ hk).1 ((s4_0.mem _ (lt_of_get go)).1 m_go)⟩ | exact .inl rfl | exact .inr rfl | exact .inr (.inl rfl) | exact .inr (.inr rfl) | exact rfl)
        have go_ := g4_0
        clear go
        have go := go_
        clear go_
        refine Rg.nil ?_
        first | refine EndP.nil ?_ | simp +decide only [Kseq, Kblock, if_true, if_false] | skip
        have hnl : ¬ (letB c = true ∨ digB c = true) := by rintro (h | h) <;> exact absurd h (by assumption)
        first
        | rw [show takeF (own, out) c = ([], out ++ [textB own]) from (if_neg hnl).trans (if_pos (by show 0 < own.length; omega))]
          exact Kret0n rfl ⟨_, hM, ⟨⟨_, go, Own.nil _ _ _ _ _⟩, ⟨_, gs, hs⟩, m_go, m_gs, hBo, hBs⟩, S⟩
        | rw [show takeF (own, out) c = ([], out) from (if_neg hnl).trans (if_neg (by show ¬ 0 < own.length; omega))]
          exact Kret0n rfl ⟨_, hM, ⟨⟨_, go, Own.nil _ _ _ _ _⟩, ⟨_, gs, hs⟩, m_go, m_gs, hBo, hBs⟩, S⟩
      · -- c2 False
        refine T.skip ?_
        refine T.region ?_ -- region 4
        refine Rg.storec (M := M) I32 rfl rfl go rfl (rfl) m_go (fun w4_0 g4_0 s4_0 => ?_)
        change w4_0.heap[_]? = some (Obj.cells #[.slice none 0 0] _ _) at g4_0
        have := lt_of_get go
        replace m_go := (s4_0.mem _ this).2 m_go
        have := lt_of_get gs
        replace m_gs := (s4_0.mem _ this).2 m_gs
        replace gs := s4_0.keep gs (fun hk => by have hk : _ = _ := hk; omega)
        replace ho := ho.step s4_0 (fun b hb hk => by have hk : b = _ := hk; subst hk; first | exact absurd hb (ho.neT go (by decide)) | exact absurd hb (ho.neT gs (by decide)))
        replace hs := hs.step s4_0 (fun b hb hk => by have hk : b = _ := hk; subst hk; first | exact absurd hb (hs.neT go (by decide)) | exact absurd hb (hs.neT gs (by decide)))
        replace hM := s4_0.lt hM
        have := S.size
        replace S := S.trans s4_0 (fun k hk h => by have h : _ = _ := h; subst h; first | (exfalso; omega) | (show _ ≤ _; omega) | exact ⟨by omega, (S.mem _ hk).1 ((s4_0.mem _ (lt_of_get go)).1 m_go)⟩ | exact .inl rfl | exact .inr rfl | exact .inr (.inl rfl) | exact .inr (.inr rfl) | exact rfl)
        have go_ := g4_0
        clear go
        have go := go_
        clear go_
        refine Rg.nil ?_
        first | refine EndP.nil ?_ | simp +decide only [Kseq, Kblock, if_true, if_false] | skip
        have hnl : ¬ (letB c = true ∨ digB c = true) := by rintro (h | h) <;> exact absurd h (by assumption)
        first
        | rw [show takeF (own, out) c = ([], out ++ [textB own]) from (if_neg hnl).trans (if_pos (by show 0 < own.length; omega))]
          exact Kret0n rfl ⟨_, hM, ⟨⟨_, go, Own.nil _ _ _ _ _⟩, ⟨_, gs, hs⟩, m_go, m_gs, hBo, hBs⟩, S⟩
        | rw [show takeF (own, out) c = ([], out) from (if_neg hnl).trans (if_neg (by show ¬ 0 < own.length; omega))]
          exact Kret0n rfl ⟨_, hM, ⟨⟨_, go, Own.nil _ _ _ _ _⟩, ⟨_, gs, hs⟩, m_go, m_gs, hBo, hBs⟩, S⟩
theorem take_len (l : List Int) : ∀ p, (l.foldl takeF p).1.length ≤ p.1.length + l.length ∧ (l.foldl takeF p).2.length ≤ p.2.length + l.length := by
  induction l with
  | nil => intro p; simp
  | cons c l ih =>
    intro p
    have := ih (takeF p c)
    have h1 : (takeF p c).1.length ≤ p.1.length + 1 ∧ (takeF p c).2.length ≤ p.2.length + 1 := by
      unfold takeF
      split
      · simp
      · split <;> simp
    simp only [List.foldl_cons, List.length_cons]; omega
def words (l : List UInt8) : List (List UInt8) := ((signs l ++ [32]).foldl takeF ([], [])).2
theorem words_len (l : List UInt8) : (words l).length ≤ l.length + 1 := by
  have h := (take_len (signs l ++ [32]) ([], [])).2
  have h2 := signs_len l
  rw [List.length_append] at h
  have h3 : ([] : List (List UInt8)).length = 0 := rfl
  have h4 : [(32 : Int)].length = 1 := rfl
  unfold words
  simp only [h3, h4] at h
  omega
/-- 'concordance/word.Words' -/
theorem words_spec {M : PSet} {l : List UInt8} (w0 : World) (hM : Lt M w0) (hl : l.length ≤ 900000) :
    Spec Tryz.prog 192 #[.string ⟨l.toArray⟩] w0 (fun v w => (RT.str.sl).V M w (words l) v ∧ Step M w0 M w none') := by
  have hM0 := hM
  refine spec_of (args := [_]) (fn := Tryz.f192) Tryz.func192 rfl (n := 23) Tryz.ntmps192 ?_
  have S : Step M w0 M w0 none' := (Step.refl _ _).widen (fun _ h => h.elim) (fun _ h => h.elim)
  refine T.seq ?_
  refine T.region ?_ -- region 0
  refine Rg.assign rfl rfl ?_
  refine Rg.nil ?_
  refine T.seq ?_
  refine T.region ?_ -- region 1
  refine Rg.alloc M I55 rfl (fun b1_0 w1_0 p1_0 q1_0 g1_0 s1_0 => ?_)
  obtain ⟨M_1_0, eM_1_0⟩ : ∃ M', M' = ins M b1_0 := ⟨_, rfl⟩
  rw [← eM_1_0] at s1_0
  have m_g1_0 : M_1_0 b1_0 := by rw [eM_1_0]; exact .inl rfl
  change w1_0.heap[b1_0]? = some (.cells #[.slice none 0 0] _ _) at g1_0
  replace hM := s1_0.lt hM
  have := S.size
  replace S := S.trans0 s1_0
  refine Rg.nil ?_
  refine T.seq ?_
  refine T.region ?_ -- region 2
  refine Rg.alloc M_1_0 I32 rfl (fun b2_0 w2_0 p2_0 q2_0 g2_0 s2_0 => ?_)
  obtain ⟨M_2_0, eM_2_0⟩ : ∃ M', M' = ins M_1_0 b2_0 := ⟨_, rfl⟩
  rw [← eM_2_0] at s2_0
  have m_g2_0 : M_2_0 b2_0 := by rw [eM_2_0]; exact .inl rfl
  change w2_0.heap[b2_0]? = some (.cells #[.slice none 0 0] _ _) at g2_0
  have := lt_of_get g1_0
  replace m_g1_0 := (s2_0.mem _ this).2 m_g1_0
  replace g1_0 := s2_0.same0 g1_0
  replace hM := s2_0.lt hM
  have := S.size
  replace S := S.trans0 s2_0
  refine Rg.nil ?_
  refine T.seq ?_
  refine T.region ?_ -- region 3
  refine Rg.makeFunc (xs := []) (ys := [.tmp 4, .tmp 3]) rfl rfl rfl ?_
  refine Rg.assign rfl rfl ?_
  refine Rg.nil ?_
  refine T.seq ?_
  refine T.seq ?_
  refine T.region ?_ -- region 4
  refine Rg.move rfl rfl ?_
  refine Rg.call rfl rfl E225 (signs_spec _ hM (by omega)) (fun v4 w4 hc => ?_)
  obtain ⟨hsg, s4⟩ := hc --@step s4
  --@vf hsg
  have := lt_of_get g1_0
  replace m_g1_0 := (s4.mem _ this).2 m_g1_0
  replace g1_0 := s4.same0 g1_0
  have := lt_of_get g2_0
  replace m_g2_0 := (s4.mem _ this).2 m_g2_0
  replace g2_0 := s4.same0 g2_0
  replace hM := s4.lt hM
  have := S.size
  replace S := S.trans0 s4
  refine Rg.lensl Tryz.underlying32 rfl hsg rfl ?_
  refine Rg.move rfl rfl ?_
  refine Rg.nil ?_
  refine T.block ?_
  refine T.loop (σ := Nat) (fun k => [(3, .pointer (some ⟨b1_0, 0, none⟩)), (5, .func (.func 220) #[] #[.pointer (some ⟨b2_0, 0, none⟩), .pointer (some ⟨b1_0, 0, none⟩)]), (10, v4), (11, .int .i64 ((signs l).length : Int)), (12, .int .i64 (k : Int))]) (fun k w => ∃ M', Lt M' w ∧ Step M w0 M' w none' ∧ TakeS M' w w0.heap.size b2_0 b1_0 (((signs l).take k).foldl takeF ([], [])) ∧ ((RT.int .i64).sl).V M' w (signs l) v4 ∧ k ≤ (signs l).length) (fun k => (signs l).length - k) 0 (.cons rfl (.cons rfl (.cons rfl (.cons rfl (.cons rfl .nil))))) ?_ ?_ -- loop 0
  · exact ⟨_, hM, S, ⟨⟨_, g2_0, Own.nil _ _ _ _ _⟩, ⟨_, g1_0, Own.nil _ _ _ _ _⟩, m_g2_0, m_g1_0, by omega, by omega⟩, hsg, Nat.zero_le _⟩
  · rintro k w ⟨M1, hM, S, ht, hsg, hk⟩
    refine T.seq ?_
    refine T.region ?_ -- region 5
    refine Rg.ilt rfl rfl rfl ?_
    refine Rg.nil ?_
    refine T.seq ?_
    refine T.ifp rfl (fun c5 => ?_) (fun c5 => ?_)
    · -- c5 True
      refine T.skip ?_
      refine T.seq ?_
      refine T.block ?_
      refine T.seq ?_
      refine T.region ?_ -- region 6
      refine Rg.idx (M := M1) Tryz.underlying32 I3 rfl rfl rfl hsg (Le.refl _ _) (by omega) (fun u6 c hg6 hu6 => ?_) --@ptr RT.int .i64 ;; c
      refine Rg.loadi64 (M := M1) Tryz.underlying3 rfl rfl hu6 (Le.refl _ _) (fun in6 => ?_)
      refine Rg.assign rfl rfl ?_
      refine Rg.nil ?_
      refine T.region ?_ -- region 7
      refine Rg.move rfl rfl ?_
      refine Rg.move rfl rfl ?_
      have hsl := signs_len l
      have hl2 := take_len ((signs l).take k) ([], [])
      rw [List.length_take] at hl2
      refine Rg.callv (first := []) (captured := [.pointer (some ⟨b2_0, 0, none⟩), .pointer (some ⟨b1_0, 0, none⟩)]) rfl rfl rfl E220 (wtake_spec (B := w0.heap.size) _ hM c ht (by simp at hl2; omega)) (fun r7 w7 hc => ?_)
      obtain ⟨M2, hM2, ht2, s7⟩ := hc
      have tk : (signs l).take (k + 1) = (signs l).take k ++ [c] := by rw [List.take_add_one]; simp only [Int.toNat_natCast] at hg6; rw [hg6]; rfl
      refine Rg.nil ?_
      refine T.region ?_ -- region 8
      refine Rg.iadd rfl rfl rfl (by omega) ?_
      refine Rg.move rfl rfl ?_
      refine Rg.nil ?_
      refine ⟨rfl, k + 1, (.cons rfl (.cons rfl (.cons rfl (.cons rfl (.cons rfl .nil))))), ?_, ?_⟩
      · exact ⟨M2, hM2, S.transOwn s7 (Nat.le_refl _), by rw [tk, List.foldl_append]; exact ht2, hsg.le s7.le, by omega⟩
      · omega
    · -- c5 False
      refine T.exit ?_
      refine T.seq ?_
      refine T.region ?_ -- region 9
      refine Rg.move rfl rfl ?_
      have hsl := signs_len l
      have hl2 := take_len ((signs l).take k) ([], [])
      rw [List.length_take] at hl2
      refine Rg.callv (first := []) (captured := [.pointer (some ⟨b2_0, 0, none⟩), .pointer (some ⟨b1_0, 0, none⟩)]) rfl rfl rfl E220 (wtake_spec (B := w0.heap.size) _ hM 32 ht (by simp at hl2; omega)) (fun r9 w9 hc => ?_)
      obtain ⟨M2, hM2, ht2, s9⟩ := hc
      have e9 : takeF (((signs l).take k).foldl takeF ([], [])) 32 = (signs l ++ [32]).foldl takeF ([], []) := by rw [List.foldl_append, List.take_of_length_le (by omega)]; rfl
      rw [e9] at ht2
      obtain ⟨_, ⟨us, gs, hs⟩, _⟩ := ht2
      replace S := S.transOwn s9 (Nat.le_refl _)
      refine Rg.nil ?_
      refine T.seq ?_
      refine T.region ?_ -- region 10
      refine Rg.loadc Tryz.underlying55 rfl rfl rfl gs rfl ?_
      refine Rg.assign rfl rfl ?_
      refine Rg.nil ?_
      refine T.ret ?_
      exact Kret1 rfl rfl ⟨Own.close hM0 S hs (by have := words_len l; omega), S.back⟩
end Go.K
namespace Go.K
open Go.Proofs
set_option linter.unusedVariables false
set_option linter.unusedSimpArgs false
set_option maxRecDepth 10000
theorem takeF_in {p : List Int × List (List UInt8)} {c : Int} (h : inB c = true) : takeF p c = (p.1 ++ [foldZ c], p.2) := if_pos (by simpa [inB] using h)
theorem takeF_out {p : List Int × List (List UInt8)} {c : Int} (h : inB c = false) : takeF p c = if 0 < p.1.length then ([], p.2 ++ [textB p.1]) else ([], p.2) := if_neg (by simpa [inB] using h)
/-- where the words of the first signs are taken, and no word is being read -/
def WAt (sg : List Int) (i : Nat) (ws : List (List UInt8)) : Prop := (i ≤ sg.length ∧ (sg.take i).foldl takeF ([], []) = ([], ws)) ∨ (i = sg.length + 1 ∧ ((sg ++ [32]).foldl takeF ([], [])).2 = ws)
theorem in_rng {c : Int} (h : inB c = true) : 0 ≤ c ∧ c ≤ 1114111 := letB_rng (by simpa [inB] using h)
theorem in32 : inB 32 = false := by decide
theorem fold_take {sg : List Int} {i : Nat} {c : Int} (h : sg[i]? = some c) (p : List Int × List (List UInt8)) : (sg.take (i + 1)).foldl takeF p = takeF ((sg.take i).foldl takeF p) c := by
  rw [List.take_add_one, h, Option.toList_some, List.foldl_append]; rfl
theorem WAt.skip {sg : List Int} {i : Nat} {ws : List (List UInt8)} {c : Int} (h : WAt sg i ws) (hc : sg[i]? = some c) (hi : inB c = false) : WAt sg (i + 1) ws := by
  have hlt := (List.getElem?_eq_some_iff.1 hc).1
  rcases h with ⟨_, h⟩ | ⟨h, _⟩
  · exact .inl ⟨hlt, by rw [fold_take hc, h, takeF_out hi]; rfl⟩
  · omega
theorem WAt.word {sg : List Int} {j : Nat} {own : List Int} {ws : List (List UInt8)} (h : (sg.take j).foldl takeF ([], []) = (own, ws)) (ho : 0 < own.length) (hj : j ≤ sg.length) (hn : ∀ c, sg[j]? = some c → inB c = false) : WAt sg (j + 1) (ws ++ [textB own]) := by
  rcases Nat.eq_or_lt_of_le hj with e | hlt
  · refine .inr ⟨by omega, ?_⟩
    rw [e, List.take_length] at h
    rw [List.foldl_append, h]
    show (takeF (own, ws) 32).2 = _
    rw [takeF_out in32, if_pos ho]
  · have hc : sg[j]? = some sg[j] := List.getElem?_eq_getElem hlt
    exact .inl ⟨hlt, by rw [fold_take hc, h, takeF_out (hn _ hc), if_pos ho]⟩
theorem WAt.done {sg : List Int} {i : Nat} {ws : List (List UInt8)} (h : WAt sg i ws) (hi : sg.length ≤ i) : ((sg ++ [32]).foldl takeF ([], [])).2 = ws := by
  rcases h with ⟨h1, h⟩ | ⟨_, h⟩
  · rw [List.take_of_length_le (by omega)] at h
    rw [List.foldl_append, h]
    show (takeF ([], ws) 32).2 = _
    rw [takeF_out in32]; rfl
  · exact h
theorem WAt.len {sg : List Int} {i : Nat} {ws : List (List UInt8)} (h : WAt sg i ws) : ws.length ≤ sg.length + 1 := by
  rcases h with ⟨_, h⟩ | ⟨_, h⟩
  · have := (take_len (sg.take i) ([], [])).2
    rw [h, List.length_take] at this
    simp only [List.length_nil] at this
    have e : (([] : List Int), ([] : List (List UInt8))).2.length = 0 := rfl
    omega
  · have := (take_len (sg ++ [32]) ([], [])).2
    rw [h, List.length_append] at this
    have e : (([] : List Int), ([] : List (List UInt8))).2.length = 0 := rfl
    have e2 : [(32 : Int)].length = 1 := rfl
    omega
theorem fold_len2 {sg : List Int} {j : Nat} {own : List Int} {ws : List (List UInt8)} (h : (sg.take j).foldl takeF ([], []) = (own, ws)) : own.length ≤ sg.length ∧ ws.length ≤ sg.length := by
  have := take_len (sg.take j) ([], [])
  rw [h, List.length_take] at this
  simp only [List.length_nil] at this
  have e : (([] : List Int), ([] : List (List UInt8))).1.length = 0 := rfl
  have e2 : (([] : List Int), ([] : List (List UInt8))).2.length = 0 := rfl
  omega
/-- 'concordance/concordanceref02.Words' -/
theorem rwords_spec {M : PSet} {l : List UInt8} (w0 : World) (hM : Lt M w0) (hl : l.length ≤ 900000) :
    Spec Tryz.prog 191 #[.string ⟨l.toArray⟩] w0 (fun v w => (RT.str.sl).V M w (words l) v ∧ Step M w0 M w none') := by
  have hM0 := hM
  have hsl := signs_len l
  refine spec_of (args := [_]) (fn := Tryz.f191) Tryz.func191 rfl (n := 50) Tryz.ntmps191 ?_
  have S : Step M w0 M w0 none' := (Step.refl _ _).widen (fun _ h => h.elim) (fun _ h => h.elim)
  refine T.seq ?_
  refine T.region ?_ -- region 0
  refine Rg.assign rfl rfl ?_
  refine Rg.nil ?_
  refine T.seq ?_
  refine T.region ?_ -- region 1
  refine Rg.move rfl rfl ?_
  refine Rg.call rfl rfl E216 (rsigns_spec _ hM (by omega)) (fun v1 w1 hc => ?_)
  obtain ⟨hv, s1⟩ := hc --@step s1
  --@vf hv
  replace hM := s1.lt hM
  have := S.size
  replace S := S.trans0 s1
  refine Rg.assign rfl rfl ?_
  refine Rg.nil ?_
  refine T.seq ?_
  refine T.region ?_ -- region 2
  refine Rg.assign rfl rfl ?_
  refine Rg.nil ?_
  refine T.seq ?_
  refine T.seq ?_
  refine T.region ?_ -- region 3
  refine Rg.assign rfl rfl ?_
  refine Rg.nil ?_
  refine T.block ?_
  refine T.loop (σ := Nat × Value) (fun q => [(3, v1), (4, q.2), (5, .int .i64 (q.1 : Int))]) (fun q w => ∃ M' ws, Lt M' w ∧ Step M w0 M' w none' ∧ Own RT.str 9 M' w w0.heap.size q.2 ws ∧ ((RT.int .i64).sl).V M' w (signs l) v1 ∧ WAt (signs l) q.1 ws) (fun q => (signs l).length + 1 - q.1) (0, .slice none 0 0) (.cons rfl (.cons rfl (.cons rfl .nil))) ?_ ?_ -- loop 0
  · exact ⟨M, [], hM, S, Own.nil _ _ _ _ _, hv, .inl ⟨Nat.zero_le _, rfl⟩⟩
  · rintro ⟨i, u4⟩ w ⟨M1, ws, hM, S, ho4, hv, hwa⟩
    dsimp only at ho4 hwa ⊢
    refine T.seq ?_
    refine T.seq ?_
    refine T.region ?_ -- region 4
    refine Rg.move rfl rfl ?_
    refine Rg.move rfl rfl ?_
    refine Rg.lensl Tryz.underlying32 rfl hv rfl ?_
    refine Rg.ilt rfl rfl rfl ?_
    refine Rg.nil ?_
    refine T.ifp rfl (fun c4 => ?_) (fun c4 => ?_)
    · -- c4 True
      refine T.skip ?_
      refine T.seq ?_
      refine T.block ?_
      refine T.seq ?_
      refine T.region ?_ -- region 6
      refine Rg.move rfl rfl ?_
      refine Rg.move rfl rfl ?_
      refine Rg.idx (M := M1) Tryz.underlying32 I3 rfl rfl rfl hv (Le.refl _ _) (by omega) (fun u6_2 c hgc huc => ?_) --@ptr RT.int .i64 ;; c
      refine Rg.loadi64 (M := M1) Tryz.underlying3 rfl rfl huc (Le.refl _ _) (fun inc => ?_)
      rw [Int.toNat_natCast] at hgc
      refine Rg.call rfl rfl E217 (rin_spec c _) (fun r wc hc => ?_)
      obtain ⟨rfl, rfl⟩ := hc 
      refine Rg.eqv (v' := .bool (decide (inB c = true))) (by cases inB c <;> rfl) ?_
      refine Rg.assign rfl rfl ?_
      refine Rg.nil ?_
      refine T.seq ?_
      refine T.seq ?_
      refine T.region ?_ -- region 7
      refine Rg.move rfl rfl ?_
      refine Rg.not rfl rfl ?_
      refine Rg.eqv (v' := .bool (decide (inB c = false))) (by cases inB c <;> rfl) ?_
      refine Rg.nil ?_
      refine T.ifp rfl (fun c7 => ?_) (fun c7 => ?_)
      · -- c7 True
        refine T.exit ?_
        refine T.region ?_ -- region 5
        refine Rg.move rfl rfl ?_
        refine Rg.iadd rfl rfl rfl (by omega) ?_
        refine Rg.assign rfl rfl ?_
        refine Rg.nil ?_
        refine ⟨rfl, (i + 1, u4), (.cons rfl (.cons rfl (.cons rfl .nil))), ?_, ?_⟩
        · exact ⟨M1, ws, hM, S, ho4, hv, hwa.skip hgc (by assumption)⟩
        · dsimp only; omega
      · -- c7 False
        refine T.skip ?_
        refine T.seq ?_
        refine T.region ?_ -- region 8
        refine Rg.assign rfl rfl ?_
        refine Rg.nil ?_
        refine T.seq ?_
        refine T.block ?_
        refine T.loop (σ := Nat × List Int × Value) (fun q => [(3, v1), (4, u4), (5, .int .i64 (q.1 : Int)), (7, q.2.2)]) (fun q w => ∃ M', Lt M' w ∧ Step M w0 M' w none' ∧ Own RT.str 9 M' w w0.heap.size u4 ws ∧ Own (RT.int .i64) 3 M' w w0.heap.size q.2.2 q.2.1 ∧ ((RT.int .i64).sl).V M' w (signs l) v1 ∧ ((signs l).take q.1).foldl takeF ([], []) = (q.2.1, ws) ∧ i ≤ q.1 ∧ q.1 ≤ (signs l).length ∧ (i < q.1 → 0 < q.2.1.length)) (fun q => (signs l).length - q.1) (i, [], .slice none 0 0) (.cons rfl (.cons rfl (.cons rfl (.cons rfl .nil)))) ?_ ?_ -- loop 1
        · have hwa2 : ((signs l).take i).foldl takeF ([], []) = ([], ws) := by
            rcases hwa with ⟨_, h⟩ | ⟨h, _⟩
            · exact h
            · omega
          exact ⟨M1, hM, S, ho4, Own.nil _ _ _ _ _, hv, hwa2, Nat.le_refl _, by dsimp only; omega, fun h => absurd h (Nat.lt_irrefl _)⟩
        · rintro ⟨j, own, u7⟩ w ⟨M2, hM, S, ho4, ho7, hv, hf, hj1, hj2, hown⟩
          dsimp only at ho7 hf hj1 hj2 hown ⊢
          refine T.seq ?_
          refine T.seq ?_
          refine T.region ?_ -- region 9
          refine Rg.move rfl rfl ?_
          refine Rg.move rfl rfl ?_
          refine Rg.lensl Tryz.underlying32 rfl hv rfl ?_
          refine Rg.ilt rfl rfl rfl ?_
          refine Rg.move rfl rfl ?_
          refine Rg.gsplitp (g := 27) rfl (fun g9_4 => ?_) (fun g9_4 => ?_)
          · -- g9_4 True
            refine Rg.gyes rfl rfl ?_
            refine Rg.move rfl rfl ?_
            refine Rg.gyes rfl rfl ?_
            refine Rg.move rfl rfl ?_
            refine Rg.gyes rfl rfl ?_
            refine Rg.idx (M := M2) Tryz.underlying32 I3 rfl rfl rfl hv (Le.refl _ _) (by omega) (fun u9_7 d hgd hud => ?_) --@ptr RT.int .i64 ;; d
            refine Rg.gyes rfl rfl ?_
            refine Rg.loadi64 (M := M2) Tryz.underlying3 rfl rfl hud (Le.refl _ _) (fun ind => ?_)
            rw [Int.toNat_natCast] at hgd
            refine Rg.gyes rfl rfl ?_
            refine Rg.call rfl rfl E217 (rin_spec d _) (fun r wc hc => ?_)
            obtain ⟨rfl, rfl⟩ := hc 
            refine Rg.eqv (v' := .bool (decide (inB d = true))) (by cases inB d <;> rfl) ?_
            refine Rg.pickt rfl rfl rfl ?_
            refine Rg.nil ?_
            refine T.ifp rfl (fun c9 => ?_) (fun c9 => ?_)
            · -- c9 True
              refine T.skip ?_
              refine T.block ?_
              refine T.seq ?_
              refine T.region ?_ -- region 10
              refine Rg.move rfl rfl ?_
              refine Rg.move rfl rfl ?_
              refine Rg.move rfl rfl ?_
              refine Rg.idx (M := M2) Tryz.underlying32 I3 rfl rfl rfl hv (Le.refl _ _) (by omega) (fun u10_3 e hge hue => ?_) --@ptr RT.int .i64 ;; e
              refine Rg.loadi64 (M := M2) Tryz.underlying3 rfl rfl hue (Le.refl _ _) (fun ine => ?_)
              rw [Int.toNat_natCast] at hge
              have hine : inB e = true := by rw [hgd] at hge; cases hge; assumption
              refine Rg.call rfl rfl E218 (rfold_spec e _ (in_rng hine)) (fun r wc hc => ?_)
              obtain ⟨rfl, rfl⟩ := hc 
              refine Rg.sl1 (A := RT.int .i64) (hn := by decide) (M := M2) Tryz.underlying32 I3 (by decide) rfl rfl hM (V_i64 (by have := in_rng hine; unfold foldZ; split <;> omega)) (.inr ⟨rfl, rfl⟩) (fun u10_6 w10_6 hu10_6 s10_6 => ?_)
              replace hv := hv.le s10_6.le
              replace ho4 := ho4.step0 s10_6
              replace ho7 := ho7.step0 s10_6
              replace hM := s10_6.lt hM
              have := S.size
              replace S := S.trans0 s10_6
              refine Rg.append (M := M2) (base := w0.heap.size) Tryz.underlying32 I3 rfl rfl rfl rfl ho7 hu10_6 (Le.refl _ _) (by have := fold_len2 hf; simp; omega) (by have := fold_len2 hf; simp; omega) (S.size) (fun u10_7 M10_7 w10_7 ho10_7 s10_7 => ?_)
              replace hv := hv.le s10_7.le
              replace hu10_6 := hu10_6.le s10_7.le
              replace ho4 := ho4.step s10_7 (fun b h1 h2 => ho4.apartT ho7 (by decide) h1 h2)
              replace hM := s10_7.lt hM
              have := S.size
              replace S := S.transBlk s10_7 ho7 (Nat.le_refl _)
              replace ho7 := ho10_7
              refine Rg.assign rfl rfl ?_
              refine Rg.nil ?_
              refine T.region ?_ -- region 11
              refine Rg.move rfl rfl ?_
              refine Rg.iadd rfl rfl rfl (by omega) ?_
              refine Rg.assign rfl rfl ?_
              refine Rg.nil ?_
              refine ⟨rfl, (j + 1, own ++ [foldZ e], u10_7), (.cons rfl (.cons rfl (.cons rfl (.cons rfl .nil)))), ?_, ?_⟩
              · exact ⟨M10_7, hM, S, ho4, ho7, hv, by rw [fold_take hge, hf, takeF_in hine], by dsimp only; omega, by dsimp only; omega, fun _ => by simp⟩
              · dsimp only; omega
            · -- c9 False
              refine T.exit ?_
              refine T.region ?_ -- region 12
              refine Rg.move rfl rfl ?_
              refine Rg.move rfl rfl ?_
              refine Rg.call rfl rfl E219 (rtext_spec (M := rm M2 u7) _ (fun b hb => hM b hb.1) (ho7.view (by have := fold_len2 hf; omega)) (by have := fold_len2 hf; omega)) (fun r12 w12 hc12 => ?_)
              obtain ⟨rfl, s12⟩ := hc12
              replace s12 := s12.any M2 --@step s12
              replace hv := hv.le s12.le
              replace ho4 := ho4.step0 s12
              replace ho7 := ho7.step0 s12
              replace hM := s12.lt hM
              have := S.size
              replace S := S.trans0 s12
              refine Rg.sl1 (A := RT.str) (hn := by decide) (M := M2) Tryz.underlying55 I9 (by decide) rfl rfl hM (V_str.2 ⟨rfl, by have := textB_len own; have := fold_len2 hf; omega⟩) (.inr ⟨rfl, rfl⟩) (fun u12_3 w12_3 hu12_3 s12_3 => ?_)
              replace hv := hv.le s12_3.le
              replace ho4 := ho4.step0 s12_3
              replace ho7 := ho7.step0 s12_3
              replace hM := s12_3.lt hM
              have := S.size
              replace S := S.trans0 s12_3
              refine Rg.append (M := M2) (base := w0.heap.size) Tryz.underlying55 I9 rfl rfl rfl rfl ho4 hu12_3 (Le.refl _ _) (by have := fold_len2 hf; simp; omega) (by have := fold_len2 hf; simp; omega) (S.size) (fun u12_4 M12_4 w12_4 ho12_4 s12_4 => ?_)
              replace hv := hv.le s12_4.le
              replace hu12_3 := hu12_3.le s12_4.le
              replace ho7 := ho7.step s12_4 (fun b h1 h2 => ho7.apartT ho4 (by decide) h1 h2)
              replace hM := s12_4.lt hM
              have := S.size
              replace S := S.transBlk s12_4 ho4 (Nat.le_refl _)
              replace ho4 := ho12_4
              refine Rg.assign rfl rfl ?_
              refine Rg.nil ?_
              refine T.region ?_ -- region 5
              refine Rg.move rfl rfl ?_
              refine Rg.iadd rfl rfl rfl (by omega) ?_
              refine Rg.assign rfl rfl ?_
              refine Rg.nil ?_
              have hown : 0 < own.length := by
                rcases Nat.eq_or_lt_of_le hj1 with e | h
                · exfalso
                  subst e
                  first | omega | (rw [hgc] at hgd; cases hgd; exact c9 (by cases hq : inB c with | true => rfl | false => exact absurd hq (by assumption)))
                · exact hown h
              have hnx : ∀ c, (signs l)[j]? = some c → inB c = false := fun c hc => by
                first | (rw [List.getElem?_eq_none (by omega)] at hc; cases hc) | (rw [hgd] at hc; cases hc; exact Bool.eq_false_iff.2 c9)
              refine ⟨rfl, (j + 1, u12_4), (.cons rfl (.cons rfl (.cons rfl .nil))), ?_, ?_⟩
              · exact ⟨M12_4, _, hM, S, ho4, hv, WAt.word hf hown hj2 hnx⟩
              · dsimp only; omega
          · -- g9_4 False
            refine Rg.gno rfl rfl rfl rfl ?_
            refine Rg.gno rfl rfl rfl rfl ?_
            refine Rg.gno rfl rfl rfl rfl ?_
            refine Rg.gno rfl rfl rfl rfl ?_
            refine Rg.gno rfl rfl rfl rfl ?_
            refine Rg.pickf rfl rfl rfl ?_
            refine Rg.nil ?_
            refine T.iff rfl ?_
            refine T.exit ?_
            refine T.region ?_ -- region 12
            refine Rg.move rfl rfl ?_
            refine Rg.move rfl rfl ?_
            refine Rg.call rfl rfl E219 (rtext_spec (M := rm M2 u7) _ (fun b hb => hM b hb.1) (ho7.view (by have := fold_len2 hf; omega)) (by have := fold_len2 hf; omega)) (fun r12 w12 hc12 => ?_)
            obtain ⟨rfl, s12⟩ := hc12
            replace s12 := s12.any M2 --@step s12
            replace hv := hv.le s12.le
            replace ho4 := ho4.step0 s12
            replace ho7 := ho7.step0 s12
            replace hM := s12.lt hM
            have := S.size
            replace S := S.trans0 s12
            refine Rg.sl1 (A := RT.str) (hn := by decide) (M := M2) Tryz.underlying55 I9 (by decide) rfl rfl hM (V_str.2 ⟨rfl, by have := textB_len own; have := fold_len2 hf; omega⟩) (.inr ⟨rfl, rfl⟩) (fun u12_3 w12_3 hu12_3 s12_3 => ?_)
            replace hv := hv.le s12_3.le
            replace ho4 := ho4.step0 s12_3
            replace ho7 := ho7.step0 s12_3
            replace hM := s12_3.lt hM
            have := S.size
            replace S := S.trans0 s12_3
            refine Rg.append (M := M2) (base := w0.heap.size) Tryz.underlying55 I9 rfl rfl rfl rfl ho4 hu12_3 (Le.refl _ _) (by have := fold_len2 hf; simp; omega) (by have := fold_len2 hf; simp; omega) (S.size) (fun u12_4 M12_4 w12_4 ho12_4 s12_4 => ?_)
            replace hv := hv.le s12_4.le
            replace hu12_3 := hu12_3.le s12_4.le
            replace ho7 := ho7.step s12_4 (fun b h1 h2 => ho7.apartT ho4 (by decide) h1 h2)
            replace hM := s12_4.lt hM
            have := S.size
            replace S := S.transBlk s12_4 ho4 (Nat.le_refl _)
            replace ho4 := ho12_4
            refine Rg.assign rfl rfl ?_
            refine Rg.nil ?_
            refine T.region ?_ -- region 5
            refine Rg.move rfl rfl ?_
            refine Rg.iadd rfl rfl rfl (by omega) ?_
            refine Rg.assign rfl rfl ?_
            refine Rg.nil ?_
            have hown : 0 < own.length := by
              rcases Nat.eq_or_lt_of_le hj1 with e | h
              · exfalso
                subst e
                first | omega | (rw [hgc] at hgd; cases hgd; exact c9 (by cases hq : inB c with | true => rfl | false => exact absurd hq (by assumption)))
              · exact hown h
            have hnx : ∀ c, (signs l)[j]? = some c → inB c = false := fun c hc => by
              first | (rw [List.getElem?_eq_none (by omega)] at hc; cases hc) | (rw [hgd] at hc; cases hc; exact Bool.eq_false_iff.2 c9)
            refine ⟨rfl, (j + 1, u12_4), (.cons rfl (.cons rfl (.cons rfl .nil))), ?_, ?_⟩
            · exact ⟨M12_4, _, hM, S, ho4, hv, WAt.word hf hown hj2 hnx⟩
            · dsimp only; omega
    · -- c4 False
      refine T.exit ?_
      refine T.seq ?_
      refine T.region ?_ -- region 13
      refine Rg.move rfl rfl ?_
      refine Rg.assign rfl rfl ?_
      refine Rg.nil ?_
      refine T.ret ?_
      have e := hwa.done (by omega)
      have e2 : words l = ws := e
      rw [e2]
      exact Kret1 rfl rfl ⟨ho4.close hM0 S (by have := hwa.len; omega), S.back⟩
end Go.K
namespace Go.K
open Go.Proofs
set_option linter.unusedVariables false
set_option linter.unusedSimpArgs false
set_option maxRecDepth 10000
/-- what is told of words: a word that is too long, or too many words, or neither -/
def tokE : Nat → List (List UInt8) → Int
  | _, [] => 0
  | i, w :: ws => if 30 < w.length then 3 else if 500 ≤ i then 7 else tokE (i + 1) ws
theorem tokE_at {i k : Nat} {ws : List (List UInt8)} {x : List UInt8} (h : ws[k]? = some x) : tokE i (ws.drop k) = if 30 < x.length then 3 else if 500 ≤ i then 7 else tokE (i + 1) (ws.drop (k + 1)) := by
  have hlt := (List.getElem?_eq_some_iff.1 h).1
  rw [List.drop_eq_getElem_cons hlt, (List.getElem?_eq_some_iff.1 h).2]
  rfl
theorem V_strE {M : PSet} {w : World} {x : List UInt8} {v : Value} (h : RT.str.V M w x v) : v = .string ⟨x.toArray⟩ := (V_str.1 h).1
/-- 'concordance/word.Tokens' -/
theorem toks_spec {M : PSet} {l : List UInt8} (w0 : World) (hM : Lt M w0) (hl : l.length ≤ 900000) :
    Spec Tryz.prog 150 #[.string ⟨l.toArray⟩] w0 (fun v w => (∃ u, v = .tuple #[u, .int .i64 (tokE 0 (words l))] ∧ (tokE 0 (words l) = 0 → ∃ a cap, u = .slice a (words l).length cap)) ∧ Step M w0 M w none') := by
  have hM0 := hM
  refine spec_of (args := [_]) (fn := Tryz.f150) Tryz.func150 rfl (n := 30) Tryz.ntmps150 ?_
  have S : Step M w0 M w0 none' := (Step.refl _ _).widen (fun _ h => h.elim) (fun _ h => h.elim)
  refine T.seq ?_
  refine T.region ?_ -- region 0
  refine Rg.assign rfl rfl ?_
  refine Rg.assign rfl rfl ?_
  refine Rg.nil ?_
  refine T.seq ?_
  refine T.region ?_ -- region 1
  refine Rg.assign rfl rfl ?_
  refine Rg.nil ?_
  refine T.seq ?_
  refine T.seq ?_
  refine T.region ?_ -- region 2
  refine Rg.move rfl rfl ?_
  refine Rg.call rfl rfl E192 (words_spec _ hM hl) (fun v1 w1 hc => ?_)
  obtain ⟨hv, s1⟩ := hc --@step s1
  --@vf hv
  replace hM := s1.lt hM
  have := S.size
  replace S := S.trans0 s1
  refine Rg.lensl Tryz.underlying55 rfl hv rfl ?_
  refine Rg.move rfl rfl ?_
  refine Rg.nil ?_
  refine T.block ?_
  refine T.loop (σ := Nat × Value) (fun q => [(8, v1), (4, q.2), (9, .int .i64 ((words l).length : Int)), (10, .int .i64 (q.1 : Int))]) (fun q w => (∃ M' xs, Lt M' w ∧ Step M w0 M' w none' ∧ Own (RT.pair RT.str (RT.int .i64)) 256 M' w w0.heap.size q.2 xs ∧ xs.length = q.1 ∧ (RT.str.sl).V M' w (words l) v1) ∧ tokE 0 (words l) = tokE q.1 ((words l).drop q.1) ∧ q.1 ≤ (words l).length ∧ q.1 ≤ 500) (fun q => (words l).length - q.1) (0, .slice none 0 0) (.cons rfl (.cons rfl (.cons rfl (.cons rfl .nil)))) ?_ ?_ -- loop 0
  · exact ⟨⟨M, [], hM, S, Own.nil _ _ _ _ _, rfl, hv⟩, rfl, Nat.zero_le _, Nat.zero_le _⟩
  · rintro ⟨i, u⟩ w ⟨⟨M1, xs, hM, S, ho, hxl, hv⟩, hte, hi, hi5⟩
    dsimp only at ho hxl hte hi hi5 ⊢
    refine T.seq ?_
    refine T.region ?_ -- region 3
    refine Rg.ilt rfl rfl rfl ?_
    refine Rg.nil ?_
    refine T.seq ?_
    refine T.ifp rfl (fun c3 => ?_) (fun c3 => ?_)
    · -- c3 True
      refine T.skip ?_
      refine T.seq ?_
      refine T.block ?_
      refine T.seq ?_
      refine T.region ?_ -- region 4
      refine Rg.move rfl rfl ?_
      refine Rg.idx (M := M1) Tryz.underlying55 I9 rfl rfl rfl hv (Le.refl _ _) (by omega) (fun u4_1 x hgx hux => ?_) --@ptr RT.str ;; x
      refine Rg.load (M := M1) Tryz.underlying9 rfl rfl rfl rfl rfl hux (Le.refl _ _) (fun vx hvx => ?_)
      rw [Int.toNat_natCast] at hgx
      obtain rfl := V_strE hvx
      have ht := tokE_at (i := i) hgx --@vf hvx
      refine Rg.assign rfl rfl ?_
      refine Rg.assign rfl rfl ?_
      refine Rg.nil ?_
      refine T.seq ?_
      refine T.block ?_
      refine T.seq ?_
      refine T.region ?_ -- region 5
      refine Rg.move rfl rfl ?_
      refine Rg.lenstr Tryz.underlying9 rfl rfl ?_
      refine Rg.eqv (v' := .int .i64 (x.length : Int)) (by simp [ByteArray.size]) ?_
      refine Rg.igt rfl rfl rfl ?_
      refine Rg.assign rfl rfl ?_
      refine Rg.nil ?_
      refine T.ifp rfl (fun c5 => ?_) (fun c5 => ?_)
      · -- c5 True
        refine T.seq ?_
        refine T.region ?_ -- region 6
        refine Rg.assign rfl rfl ?_
        refine Rg.assign rfl rfl ?_
        refine Rg.nil ?_
        refine T.ret ?_
        rw [hte, ht, if_pos (by omega)]
        exact Kret2 rfl rfl rfl ⟨⟨_, rfl, fun h => by cases h⟩, S.back⟩
      · -- c5 False
        refine T.seq ?_
        refine T.region ?_ -- region 7
        refine Rg.move rfl rfl ?_
        refine Rg.ieq rfl rfl rfl ?_
        refine Rg.assign rfl rfl ?_
        refine Rg.nil ?_
        refine T.ifp rfl (fun c7 => ?_) (fun c7 => ?_)
        · -- c7 True
          refine T.seq ?_
          refine T.region ?_ -- region 8
          refine Rg.assign rfl rfl ?_
          refine Rg.assign rfl rfl ?_
          refine Rg.nil ?_
          refine T.ret ?_
          rw [hte, ht, if_neg (by omega), if_pos (by omega)]
          exact Kret2 rfl rfl rfl ⟨⟨_, rfl, fun h => by cases h⟩, S.back⟩
        · -- c7 False
          refine T.skip ?_
          refine T.region ?_ -- region 9
          refine Rg.move rfl rfl ?_
          refine Rg.move rfl rfl ?_
          refine Rg.move rfl rfl ?_
          refine Rg.build (places := [(0, 1), (1, 1)]) Tryz.underlying256 I256 B256 rfl ⟨_, _, rfl, rfl, _, _, rfl, rfl, rfl⟩ (out := [_, _]) ⟨0, [_], rfl, rfl, by simp [Value.cells], 1, [_], rfl, rfl, by simp [Value.cells], rfl⟩ ?_
          refine Rg.sl1 (A := (RT.pair RT.str (RT.int .i64))) (hn := by decide) (M := M1) Tryz.underlying222 I256 (by decide) rfl rfl hM (V_pair_mk hvx (V_i64 (x := (i : Int)) (by omega)) rfl rfl rfl rfl) (.inl rfl) (fun u9_4 w9_4 hu9_4 s9_4 => ?_)
          replace hv := hv.le s9_4.le
          replace hvx := hvx.le s9_4.le
          replace ho := ho.step0 s9_4
          replace hM := s9_4.lt hM
          have := S.size
          replace S := S.trans0 s9_4
          refine Rg.append (M := M1) (base := w0.heap.size) Tryz.underlying222 I256 rfl rfl rfl rfl ho hu9_4 (Le.refl _ _) (by simp; omega) (by simp; omega) (S.size) (fun u9_5 M9_5 w9_5 ho9_5 s9_5 => ?_)
          replace hv := hv.le s9_5.le
          replace hvx := hvx.le s9_5.le
          replace hu9_4 := hu9_4.le s9_5.le
          replace hM := s9_5.lt hM
          have := S.size
          replace S := S.transBlk s9_5 ho (Nat.le_refl _)
          replace ho := ho9_5
          refine Rg.assign rfl rfl ?_
          refine Rg.nil ?_
          refine T.region ?_ -- region 10
          refine Rg.iadd rfl rfl rfl (by omega) ?_
          refine Rg.move rfl rfl ?_
          refine Rg.nil ?_
          refine ⟨rfl, (i + 1, u9_5), (.cons rfl (.cons rfl (.cons rfl (.cons rfl .nil)))), ?_, ?_⟩
          · exact ⟨⟨M9_5, _, hM, S, ho, by simp [hxl], hv⟩, by rw [hte, ht, if_neg (by omega), if_neg (by omega)], by dsimp only; omega, by dsimp only; omega⟩
          · dsimp only; omega
    · -- c3 False
      refine T.exit ?_
      refine T.seq ?_
      refine T.region ?_ -- region 11
      refine Rg.move rfl rfl ?_
      refine Rg.assign rfl rfl ?_
      refine Rg.assign rfl rfl ?_
      refine Rg.nil ?_
      refine T.ret ?_
      have e : tokE 0 (words l) = 0 := by rw [hte, List.drop_of_length_le (by omega)]; rfl
      rw [e]
      obtain ⟨a, cap, he, _⟩ := ho.isSlice
      exact Kret2 rfl rfl rfl ⟨⟨u, rfl, fun _ => ⟨a, cap, by rw [he, hxl]; congr 1; omega⟩⟩, S.back⟩
/-- 'concordance/concordanceref02.Tokens' -/
theorem rtoks_spec {M : PSet} {l : List UInt8} (w0 : World) (hM : Lt M w0) (hl : l.length ≤ 900000) :
    Spec Tryz.prog 167 #[.string ⟨l.toArray⟩] w0 (fun v w => (∃ u, v = .tuple #[u, .int .i64 (tokE 0 (words l))] ∧ (tokE 0 (words l) = 0 → ∃ a cap, u = .slice a (words l).length cap)) ∧ Step M w0 M w none') := by
  have hM0 := hM
  refine spec_of (args := [_]) (fn := Tryz.f167) Tryz.func167 rfl (n := 33) Tryz.ntmps167 ?_
  have S : Step M w0 M w0 none' := (Step.refl _ _).widen (fun _ h => h.elim) (fun _ h => h.elim)
  refine T.seq ?_
  refine T.region ?_ -- region 0
  refine Rg.assign rfl rfl ?_
  refine Rg.assign rfl rfl ?_
  refine Rg.nil ?_
  refine T.seq ?_
  refine T.region ?_ -- region 1
  refine Rg.move rfl rfl ?_
  refine Rg.call rfl rfl E191 (rwords_spec _ hM hl) (fun v1 w1 hc => ?_)
  obtain ⟨hv, s1⟩ := hc --@step s1
  --@vf hv
  replace hM := s1.lt hM
  have := S.size
  replace S := S.trans0 s1
  refine Rg.assign rfl rfl ?_
  refine Rg.nil ?_
  refine T.seq ?_
  refine T.region ?_ -- region 2
  refine Rg.assign rfl rfl ?_
  refine Rg.nil ?_
  refine T.seq ?_
  refine T.seq ?_
  refine T.region ?_ -- region 3
  refine Rg.assign rfl rfl ?_
  refine Rg.nil ?_
  refine T.block ?_
  refine T.loop (σ := Nat × Value) (fun q => [(4, v1), (5, q.2), (6, .int .i64 (q.1 : Int))]) (fun q w => (∃ M' xs, Lt M' w ∧ Step M w0 M' w none' ∧ Own (RT.pair RT.str (RT.int .i64)) 256 M' w w0.heap.size q.2 xs ∧ xs.length = q.1 ∧ (RT.str.sl).V M' w (words l) v1) ∧ tokE 0 (words l) = tokE q.1 ((words l).drop q.1) ∧ q.1 ≤ (words l).length ∧ q.1 ≤ 500) (fun q => (words l).length - q.1) (0, .slice none 0 0) (.cons rfl (.cons rfl (.cons rfl .nil))) ?_ ?_ -- loop 0
  · exact ⟨⟨M, [], hM, S, Own.nil _ _ _ _ _, rfl, hv⟩, rfl, Nat.zero_le _, Nat.zero_le _⟩
  · rintro ⟨i, u⟩ w ⟨⟨M1, xs, hM, S, ho, hxl, hv⟩, hte, hi, hi5⟩
    dsimp only at ho hxl hte hi hi5 ⊢
    refine T.seq ?_
    refine T.seq ?_
    refine T.region ?_ -- region 4
    refine Rg.move rfl rfl ?_
    refine Rg.move rfl rfl ?_
    refine Rg.lensl Tryz.underlying55 rfl hv rfl ?_
    refine Rg.ilt rfl rfl rfl ?_
    refine Rg.nil ?_
    refine T.ifp rfl (fun c4 => ?_) (fun c4 => ?_)
    · -- c4 True
      refine T.skip ?_
      refine T.seq ?_
      refine T.block ?_
      refine T.seq ?_
      refine T.seq ?_
      refine T.region ?_ -- region 6
      refine Rg.move rfl rfl ?_
      refine Rg.move rfl rfl ?_
      refine Rg.idx (M := M1) Tryz.underlying55 I9 rfl rfl rfl hv (Le.refl _ _) (by omega) (fun u6_2 x hgx hux => ?_) --@ptr RT.str ;; x
      refine Rg.load (M := M1) Tryz.underlying9 rfl rfl rfl rfl rfl hux (Le.refl _ _) (fun vx hvx => ?_)
      rw [Int.toNat_natCast] at hgx
      obtain rfl := V_strE hvx
      have ht := tokE_at (i := i) hgx --@vf hvx
      refine Rg.lenstr Tryz.underlying9 rfl rfl ?_
      refine Rg.eqv (v' := .int .i64 (x.length : Int)) (by simp [ByteArray.size]) ?_
      refine Rg.igt rfl rfl rfl ?_
      refine Rg.nil ?_
      refine T.ifp rfl (fun c6 => ?_) (fun c6 => ?_)
      · -- c6 True
        refine T.seq ?_
        refine T.region ?_ -- region 7
        refine Rg.assign rfl rfl ?_
        refine Rg.assign rfl rfl ?_
        refine Rg.nil ?_
        refine T.ret ?_
        rw [hte, ht, if_pos (by omega)]
        exact Kret2 rfl rfl rfl ⟨⟨_, rfl, fun h => by cases h⟩, S.back⟩
      · -- c6 False
        refine T.skip ?_
        refine T.seq ?_
        refine T.seq ?_
        refine T.region ?_ -- region 8
        refine Rg.move rfl rfl ?_
        refine Rg.ige rfl rfl rfl ?_
        refine Rg.nil ?_
        refine T.ifp rfl (fun c8 => ?_) (fun c8 => ?_)
        · -- c8 True
          refine T.seq ?_
          refine T.region ?_ -- region 9
          refine Rg.assign rfl rfl ?_
          refine Rg.assign rfl rfl ?_
          refine Rg.nil ?_
          refine T.ret ?_
          rw [hte, ht, if_neg (by omega), if_pos (by omega)]
          exact Kret2 rfl rfl rfl ⟨⟨_, rfl, fun h => by cases h⟩, S.back⟩
        · -- c8 False
          refine T.skip ?_
          refine T.region ?_ -- region 10
          refine Rg.move rfl rfl ?_
          refine Rg.move rfl rfl ?_
          refine Rg.move rfl rfl ?_
          refine Rg.idx (M := M1) Tryz.underlying55 I9 rfl rfl rfl hv (Le.refl _ _) (by omega) (fun u10_3 y hgy huy => ?_) --@ptr RT.str ;; y
          refine Rg.load (M := M1) Tryz.underlying9 rfl rfl rfl rfl rfl huy (Le.refl _ _) (fun vy hvy => ?_)
          rw [Int.toNat_natCast] at hgy
          obtain rfl := V_strE hvy
          obtain rfl : x = y := by rw [hgx] at hgy; exact Option.some.inj hgy --@vf hvy
          refine Rg.move rfl rfl ?_
          refine Rg.build (places := [(0, 1), (1, 1)]) Tryz.underlying256 I256 B256 rfl ⟨_, _, rfl, rfl, _, _, rfl, rfl, rfl⟩ (out := [_, _]) ⟨0, [_], rfl, rfl, by simp [Value.cells], 1, [_], rfl, rfl, by simp [Value.cells], rfl⟩ ?_
          refine Rg.sl1 (A := (RT.pair RT.str (RT.int .i64))) (hn := by decide) (M := M1) Tryz.underlying222 I256 (by decide) rfl rfl hM (V_pair_mk hvy (V_i64 (x := (i : Int)) (by omega)) rfl rfl rfl rfl) (.inl rfl) (fun u10_7 w10_7 hu10_7 s10_7 => ?_)
          replace hv := hv.le s10_7.le
          replace hvx := hvx.le s10_7.le
          replace hvy := hvy.le s10_7.le
          replace ho := ho.step0 s10_7
          replace hM := s10_7.lt hM
          have := S.size
          replace S := S.trans0 s10_7
          refine Rg.append (M := M1) (base := w0.heap.size) Tryz.underlying222 I256 rfl rfl rfl rfl ho hu10_7 (Le.refl _ _) (by simp; omega) (by simp; omega) (S.size) (fun u10_8 M10_8 w10_8 ho10_8 s10_8 => ?_)
          replace hv := hv.le s10_8.le
          replace hvx := hvx.le s10_8.le
          replace hvy := hvy.le s10_8.le
          replace hu10_7 := hu10_7.le s10_8.le
          replace hM := s10_8.lt hM
          have := S.size
          replace S := S.transBlk s10_8 ho (Nat.le_refl _)
          replace ho := ho10_8
          refine Rg.assign rfl rfl ?_
          refine Rg.nil ?_
          refine T.region ?_ -- region 5
          refine Rg.move rfl rfl ?_
          refine Rg.iadd rfl rfl rfl (by omega) ?_
          refine Rg.assign rfl rfl ?_
          refine Rg.nil ?_
          refine ⟨rfl, (i + 1, u10_8), (.cons rfl (.cons rfl (.cons rfl .nil))), ?_, ?_⟩
          · exact ⟨⟨M10_8, _, hM, S, ho, by simp [hxl], hv⟩, by rw [hte, ht, if_neg (by omega), if_neg (by omega)], by dsimp only; omega, by dsimp only; omega⟩
          · dsimp only; omega
    · -- c4 False
      refine T.exit ?_
      refine T.seq ?_
      refine T.region ?_ -- region 11
      refine Rg.move rfl rfl ?_
      refine Rg.assign rfl rfl ?_
      refine Rg.assign rfl rfl ?_
      refine Rg.nil ?_
      refine T.ret ?_
      have e : tokE 0 (words l) = 0 := by rw [hte, List.drop_of_length_le (by omega)]; rfl
      rw [e]
      obtain ⟨a, cap, he, _⟩ := ho.isSlice
      exact Kret2 rfl rfl rfl ⟨⟨u, rfl, fun _ => ⟨a, cap, by rw [he, hxl]; congr 1; omega⟩⟩, S.back⟩
end Go.K
namespace Go.K
set_option linter.unusedVariables false
abbrev Fd := List UInt8 × List UInt8
abbrev Dc := Int × List Fd
abbrev En := Dc × Int
abbrev RT.fd : RT Fd := RT.pair RT.str RT.str
abbrev RT.dc : RT Dc := RT.pair (RT.int .i64) (RT.fd.sl)
abbrev RT.en : RT En := RT.pair RT.dc (RT.int .i64)
theorem fd0 : Part RT.fd RT.str (fun p => p.1) 0 := Part.fst _ _
theorem fd1 : Part RT.fd RT.str (fun p => p.2) 1 := Part.snd _ _
theorem dc0 : Part RT.dc (RT.int .i64) (fun p => p.1) 0 := Part.fst _ _
theorem dc1 : Part RT.dc (RT.fd.sl) (fun p => p.2) 1 := Part.snd _ _
theorem en0 : Part RT.en RT.dc (fun p => p.1) 0 := Part.fst _ _
theorem en1 : Part RT.en (RT.int .i64) (fun p => p.2) 2 := Part.snd _ _
theorem dc_val {M : PSet} {w : World} {p : Dc} {v : Value} (h : RT.dc.V M w p v) : ∃ u, v = .agg #[.int .i64 p.1, u] := by
  obtain ⟨vs, ⟨va, vb, rfl, ⟨rfl, _⟩, hb⟩, rfl⟩ := h
  have := (RT.fd.sl (by decide)).len hb
  match vb, this with
  | [u], _ => exact ⟨u, rfl⟩
theorem en_mk {M : PSet} {w : World} {p : Dc} {u : Value} {s : Int} (h : RT.dc.V M w p (.agg #[.int .i64 p.1, u])) (hs : -9223372036854775808 ≤ s ∧ s ≤ 9223372036854775807) : RT.en.V M w (p, s) (.agg [.int .i64 p.1, u, .int .i64 s].toArray) := by
  obtain ⟨vs, h1, h2⟩ := h
  have h3 : vs = [.int .i64 p.1, u] := by
    have : Value.agg #[.int .i64 p.1, u] = .agg vs.toArray := h2
    injection this with this
    simpa using (congrArg Array.toList this).symm
  subst h3
  exact ⟨_, ⟨[.int .i64 p.1, u], [.int .i64 s], rfl, h1, rfl, hs.1, hs.2⟩, rfl⟩
/-- nothing yet -/
theorem Own.nilOf {α : Type} (A : RT α) (e : TypeId) (base : Nat) {M : PSet} {w : World} (h : Lt M w) : Own A e M w base (.slice none 0 0) [] := Own.nil _ _ _ _ _
section
variable {P : Program} {r : Option Nat} {n : Nat} {L : Sl} {ds : List Deferred} {w : World} {K : Kt} {ops : Array Oper} {rest : List Oper} {d : Nat} {x : Operand} {ty : TypeId} {pos : String} {af : Array Edge}
/-- a variable in memory of its own that is not written again -/
theorem Rg.boxp {α : Type} {A : RT α} {e : TypeId} {v : Value} {a : α} {M : PSet} (hx : ev L x = some v) (hd : Nat.blt d n = true) (hM : Lt M w) (hv : A.V M w a v) (hg : A.agg = true)
    (k : ∀ u w', PtrTo A M w' u a → Step M w M w' none' → w.heap.size ≤ w'.heap.size → Rg P r n ops rest ((d, u) :: L) ds w' K) :
    Rg P r n ops ({ dst := some d, op := .box e x, type := ty, pos, after := af, guard := none } :: rest) L ds w K := by
  refine Rg.box M hx hd (fun b w' h1 h2 hb s => ?_)
  obtain ⟨vs, h3, h4⟩ := hv
  have hc : v.cells = vs.toArray := by subst h4; simp [RT.val, hg, Value.cells]
  rw [hc] at hb
  refine k _ w' ⟨b, 0, vs, rfl, fun hm => ?_, A.le s.back.le h3, fun j u hj => ?_⟩ s.back s.size
  · have := hM b hm; omega
  · rw [Nat.zero_add]; exact cell_at hb (by simpa using hj)
end
end Go.K
namespace Go.Proofs
open Go.Shelf
def Tryz.lays160_ren : Go.Shelf.Ren := ⟨fun | 160 => 193 | 232 => 227 | 231 => 226 | 227 => 228 | 234 => 230 | 233 => 229 | 236 => 232 | 235 => 231 | 228 => 257 | 271 => 260 | 151 => 259 | 197 => 258 | 120 => 280 | 152 => 279 | 260 => 278 | 137 => 287 | 119 => 277 | 224 => 288 | 225 => 289 | 217 => 291 | 266 => 292 | n => n, fun | 9 => 9 | 4 => 4 | 3 => 3 | 5 => 5 | 117 => 283 | 116 => 282 | 0 => 0 | 124 => 286 | 21 => 21 | 105 => 317 | 46 => 183 | 119 => 338 | 139 => 341 | 138 => 340 | n => n, fun | 3 => 2 | 4 => 3 | n => n⟩
theorem Tryz.lays160 : Go.Proofs.Lays.n160 Tryz.prog Tryz.lays160_ren := {
  mixed := by kernel_rfl
  f119 := Tryz.func277.trans (congrArg some (by kernel_rfl))
  f120 := Tryz.func280.trans (congrArg some (by kernel_rfl))
  f137 := Tryz.func287.trans (congrArg some (by kernel_rfl))
  f151 := Tryz.func259.trans (congrArg some (by kernel_rfl))
  f152 := Tryz.func279.trans (congrArg some (by kernel_rfl))
  f160 := Tryz.func193.trans (congrArg some (by kernel_rfl))
  f197 := Tryz.func258.trans (congrArg some (by kernel_rfl))
  f217 := Tryz.func291.trans (congrArg some (by kernel_rfl))
  f224 := Tryz.func288.trans (congrArg some (by kernel_rfl))
  f225 := Tryz.func289.trans (congrArg some (by kernel_rfl))
  f227 := Tryz.func228.trans (congrArg some (by kernel_rfl))
  f228 := Tryz.func257.trans (congrArg some (by kernel_rfl))
  f231 := Tryz.func226.trans (congrArg some (by kernel_rfl))
  f232 := Tryz.func227.trans (congrArg some (by kernel_rfl))
  f233 := Tryz.func229.trans (congrArg some (by kernel_rfl))
  f234 := Tryz.func230.trans (congrArg some (by kernel_rfl))
  f235 := Tryz.func231.trans (congrArg some (by kernel_rfl))
  f236 := Tryz.func232.trans (congrArg some (by kernel_rfl))
  f260 := Tryz.func278.trans (congrArg some (by kernel_rfl))
  f266 := Tryz.func292.trans (congrArg some (by kernel_rfl))
  f271 := Tryz.func260.trans (congrArg some (by kernel_rfl))
  t0 := Tryz.underlying0
  a0 := Tryz.isAgg0
  z0 := Tryz.sizeOf0
  v0 := Tryz.zeroValue0
  t3 := Tryz.underlying3
  a3 := Tryz.isAgg3
  z3 := Tryz.sizeOf3
  v3 := Tryz.zeroValue3
  t4 := Tryz.underlying4
  a4 := Tryz.isAgg4
  z4 := Tryz.sizeOf4
  v4 := Tryz.zeroValue4
  t5 := Tryz.underlying5
  a5 := Tryz.isAgg5
  z5 := Tryz.sizeOf5
  v5 := Tryz.zeroValue5
  t9 := Tryz.underlying9
  a9 := Tryz.isAgg9
  z9 := Tryz.sizeOf9
  v9 := Tryz.zeroValue9
  t21 := Tryz.underlying21
  a21 := Tryz.isAgg21
  z21 := Tryz.sizeOf21
  v21 := Tryz.zeroValue21
  t46 := Tryz.underlying183
  a46 := Tryz.isAgg183
  z46 := Tryz.sizeOf183
  v46 := Tryz.zeroValue183
  t105 := Tryz.underlying317
  a105 := Tryz.isAgg317
  z105 := Tryz.sizeOf317
  v105 := Tryz.zeroValue317
  t116 := Tryz.underlying282
  a116 := Tryz.isAgg282
  z116 := Tryz.sizeOf282
  t117 := Tryz.underlying283
  a117 := Tryz.isAgg283
  z117 := Tryz.sizeOf283
  v117 := Tryz.zeroValue283
  t119 := Tryz.underlying338
  a119 := Tryz.isAgg338
  z119 := Tryz.sizeOf338
  t124 := Tryz.underlying286
  a124 := Tryz.isAgg286
  z124 := Tryz.sizeOf286
  v124 := Tryz.zeroValue286
  t138 := Tryz.underlying340
  a138 := Tryz.isAgg340
  z138 := Tryz.sizeOf340
  v138 := Tryz.zeroValue340
  t139 := Tryz.underlying341
  a139 := Tryz.isAgg341
  z139 := Tryz.sizeOf341
  v139 := Tryz.zeroValue341
  g3 := by kernel_rfl
  g4 := by kernel_rfl }
end Go.Proofs
namespace Go.K
open Go.Proofs
set_option linter.unusedVariables false
set_option linter.unusedSimpArgs false
set_option maxRecDepth 10000
open Go.RowKit Go.Shelf
def small26 : List UInt8 := [97, 98, 99, 100, 101, 102, 103, 104, 105, 106, 107, 108, 109, 110, 111, 112, 113, 114, 115, 116, 117, 118, 119, 120, 121, 122]
def smallB (b : UInt8) : Bool := decide (97 ≤ b.toNat ∧ b.toNat ≤ 122)
def nameB (s : List UInt8) : Bool := decide (1 ≤ s.length ∧ s.length ≤ 12) && s.all smallB
theorem small_is (b : UInt8) : small26.contains b = smallB b := by
  have key : ∀ n : Fin 256, small26.contains (UInt8.ofNat n) = smallB (UInt8.ofNat n) := by decide
  have := key ⟨b.toNat, UInt8.toNat_lt b⟩
  simpa using this
theorem drop_nil {α : Type} (p : α → Bool) : ∀ l : List α, l.dropWhile p = [] ↔ ∀ x ∈ l, p x = true
  | [] => by simp
  | x :: l => by
    rw [List.dropWhile_cons]
    by_cases h : p x = true
    · rw [if_pos h, drop_nil p l]; simp [h]
    · rw [if_neg h]; simp [h]
theorem trim_nil (s : List UInt8) : Lib.trimS s small26 = [] ↔ s.all smallB = true := by
  have e : (fun b => small26.contains b) = smallB := funext small_is
  unfold Lib.trimS Lib.trimLeftS Lib.trimRightS
  rw [e, drop_nil, List.all_eq_true]
  constructor
  · intro h
    have h2 : s.reverse.dropWhile smallB = [] := by
      cases hd : s.reverse.dropWhile smallB with
      | nil => rfl
      | cons x r =>
        have h3 := h x (by rw [hd]; simp)
        have h4 := List.head?_dropWhile_not smallB s.reverse
        rw [hd] at h4
        simp [h3] at h4
    intro x hx
    exact (drop_nil _ _).1 h2 x (List.mem_reverse.2 hx)
  · intro h x hx
    rw [(drop_nil smallB s.reverse).2 (fun y hy => h y (List.mem_reverse.1 hy))] at hx
    cases hx
theorem trim_spec (s : List UInt8) (hs : s.length ≤ 140737488355328) (w : World) : Spec Tryz.prog 193 #[.string ⟨s.toArray⟩, .string ⟨small26.toArray⟩] w (fun v w' => v = .string ⟨(Lib.trimS s small26).toArray⟩ ∧ ∀ M, Step M w M w' none') :=
  (Any.strings_Trim_ascii Tryz.lays160 Tryz.zeroValue282 (by kernel_rfl) ⟨s.toArray⟩ ⟨small26.toArray⟩ w (by simp [ByteArray.size]; omega) (by decide) (fun j b hj => by
    have hm : b ∈ small26 := List.mem_of_getElem? hj
    have := small_is b
    rw [List.contains_iff_mem.2 hm] at this
    have h2 : 97 ≤ b.toNat ∧ b.toNat ≤ 122 := by simpa [smallB] using this.symm
    omega)).mono fun e w' ⟨h1, h2⟩ => ⟨_, h1, rfl, fun M => .below' h2 M⟩
/-- 'concordance/doc.Name' -/
theorem name_spec (s : List UInt8) (hs : s.length ≤ 140737488355328) (w0 : World) :
    Spec Tryz.prog 151 #[.string ⟨s.toArray⟩] w0 (fun v w => v = .bool (nameB s) ∧ ∀ M, Step M w0 M w none') := by
  refine spec_of (args := [_]) (fn := Tryz.f151) Tryz.func151 rfl (n := 15) Tryz.ntmps151 ?_
  refine T.seq ?_
  refine T.region ?_ -- region 0
  refine Rg.assign rfl rfl ?_
  refine Rg.nil ?_
  refine T.seq ?_
  refine T.region ?_ -- region 1
  refine Rg.move rfl rfl ?_
  refine Rg.strne (p := s) (q := []) rfl rfl rfl ?_
  refine Rg.move rfl rfl ?_
  refine Rg.gsplitp (g := 5) rfl (fun g1_2 => ?_) (fun g1_2 => ?_)
  · -- g1_2 True
    refine Rg.gyes rfl rfl ?_
    refine Rg.move rfl rfl ?_
    refine Rg.gyes rfl rfl ?_
    refine Rg.lenstr Tryz.underlying9 rfl rfl ?_
    refine Rg.eqv (v' := .int .i64 (s.length : Int)) (by simp [ByteArray.size]) ?_
    refine Rg.gyes rfl rfl ?_
    refine Rg.ile rfl rfl rfl ?_
    refine Rg.pickt rfl rfl rfl ?_
    refine Rg.move rfl rfl ?_
    refine Rg.gsplitp (g := 10) rfl (fun g1_7 => ?_) (fun g1_7 => ?_)
    · -- g1_7 True
      refine Rg.gyes rfl rfl ?_
      refine Rg.move rfl rfl ?_
      refine Rg.gyes rfl rfl ?_
      refine Rg.call rfl rfl E193 (trim_spec s hs _) (fun r w9 hc => ?_)
      obtain ⟨rfl, s9⟩ := hc
      refine Rg.gyes rfl rfl ?_
      refine Rg.streq (p := Lib.trimS s small26) (q := []) rfl rfl rfl ?_
      refine Rg.pickt rfl rfl rfl ?_
      refine Rg.assign rfl rfl ?_
      refine Rg.nil ?_
      refine T.ret ?_
      first
      | exact Kret1 rfl rfl ⟨by rw [nameB, decide_eq_true (p := 1 ≤ s.length ∧ s.length ≤ 12) ⟨List.length_pos_iff.2 g1_2, by omega⟩, Bool.true_and]; exact congrArg Value.bool (by rw [Bool.eq_iff_iff, decide_eq_true_eq]; exact trim_nil s), s9⟩
      | exact Kret1 rfl rfl ⟨by rw [nameB, decide_eq_false (p := 1 ≤ s.length ∧ s.length ≤ 12) (by omega), Bool.false_and], fun M => Step.refl _ _⟩
      | (have hs0 : s = [] := Classical.not_not.1 g1_2
         subst hs0
         exact Kret1 rfl rfl ⟨rfl, fun M => Step.refl _ _⟩)
    · -- g1_7 False
      refine Rg.gno rfl rfl rfl rfl ?_
      refine Rg.gno rfl rfl rfl rfl ?_
      refine Rg.gno rfl rfl rfl rfl ?_
      refine Rg.pickf rfl rfl rfl ?_
      refine Rg.assign rfl rfl ?_
      refine Rg.nil ?_
      refine T.ret ?_
      first
      | exact Kret1 rfl rfl ⟨by rw [nameB, decide_eq_true (p := 1 ≤ s.length ∧ s.length ≤ 12) ⟨List.length_pos_iff.2 g1_2, by omega⟩, Bool.true_and]; exact congrArg Value.bool (by rw [Bool.eq_iff_iff, decide_eq_true_eq]; exact trim_nil s), s9⟩
      | exact Kret1 rfl rfl ⟨by rw [nameB, decide_eq_false (p := 1 ≤ s.length ∧ s.length ≤ 12) (by omega), Bool.false_and], fun M => Step.refl _ _⟩
      | (have hs0 : s = [] := Classical.not_not.1 g1_2
         subst hs0
         exact Kret1 rfl rfl ⟨rfl, fun M => Step.refl _ _⟩)
  · -- g1_2 False
    refine Rg.gno rfl rfl rfl rfl ?_
    refine Rg.gno rfl rfl rfl rfl ?_
    refine Rg.gno rfl rfl rfl rfl ?_
    refine Rg.pickf rfl rfl rfl ?_
    refine Rg.move rfl rfl ?_
    refine Rg.gno rfl rfl rfl rfl ?_
    refine Rg.gno rfl rfl rfl rfl ?_
    refine Rg.gno rfl rfl rfl rfl ?_
    refine Rg.pickf rfl rfl rfl ?_
    refine Rg.assign rfl rfl ?_
    refine Rg.nil ?_
    refine T.ret ?_
    first
    | exact Kret1 rfl rfl ⟨by rw [nameB, decide_eq_true (p := 1 ≤ s.length ∧ s.length ≤ 12) ⟨List.length_pos_iff.2 g1_2, by omega⟩, Bool.true_and]; exact congrArg Value.bool (by rw [Bool.eq_iff_iff, decide_eq_true_eq]; exact trim_nil s), s9⟩
    | exact Kret1 rfl rfl ⟨by rw [nameB, decide_eq_false (p := 1 ≤ s.length ∧ s.length ≤ 12) (by omega), Bool.false_and], fun M => Step.refl _ _⟩
    | (have hs0 : s = [] := Classical.not_not.1 g1_2
       subst hs0
       exact Kret1 rfl rfl ⟨rfl, fun M => Step.refl _ _⟩)
theorem all_at {s : List UInt8} (h : ∀ (k : Nat) c, s[k]? = some c → smallB c = true) : s.all smallB = true := List.all_eq_true.2 fun c hc => by
  obtain ⟨k, hk⟩ := List.mem_iff_getElem?.1 hc
  exact h k c hk
theorem getD_at {s : List UInt8} {i : Nat} (h : i < s.length) : s[i]? = some (s.getD i 0) := by rw [List.getD_eq_getElem?_getD, List.getElem?_eq_getElem h]; rfl
theorem fd_val {M : PSet} {w : World} {p : Fd} {v : Value} (h : RT.fd.V M w p v) : v = .agg #[.string ⟨p.1.toArray⟩, .string ⟨p.2.toArray⟩] := by
  obtain ⟨vs, ⟨va, vb, rfl, ⟨rfl, _⟩, ⟨rfl, _⟩⟩, rfl⟩ := h
  rfl
theorem fd_len {M : PSet} {w : World} {p : Fd} {v : Value} (h : RT.fd.V M w p v) : p.1.length ≤ 140737488355328 ∧ p.2.length ≤ 140737488355328 := by
  obtain ⟨vs, ⟨va, vb, rfl, ⟨rfl, h1⟩, ⟨rfl, h2⟩⟩, _⟩ := h
  exact ⟨h1, h2⟩
def mayL : List Fd → List Fd → Nat → Int
  | _, [], n => if 500 < n then 7 else 0
  | seen, f :: fs, n => if nameB f.1 = false then 4 else if (seen.any fun g => decide (g.1 = f.1)) = true then 5 else if tokE 0 (words f.2) ≠ 0 then tokE 0 (words f.2) else mayL (seen ++ [f]) fs (n + (words f.2).length)
/-- what is told of a document -/
def mayD (d : Dc) : Int := if 8 < d.2.length then 7 else mayL [] d.2 0
theorem mayL_at {fs : List Fd} {i n : Nat} {x : Fd} (h : fs[i]? = some x) : mayL (fs.take i) (fs.drop i) n = if nameB x.1 = false then 4 else if ((fs.take i).any fun g => decide (g.1 = x.1)) = true then 5 else if tokE 0 (words x.2) ≠ 0 then tokE 0 (words x.2) else mayL (fs.take (i + 1)) (fs.drop (i + 1)) (n + (words x.2).length) := by
  have hlt := (List.getElem?_eq_some_iff.1 h).1
  rw [List.drop_eq_getElem_cons hlt, (List.getElem?_eq_some_iff.1 h).2, List.take_add_one, h]
  rfl
theorem mayL_end {fs : List Fd} {i n : Nat} (h : fs.length ≤ i) : mayL (fs.take i) (fs.drop i) n = if 500 < n then 7 else 0 := by
  rw [List.drop_of_length_le h]; rfl
/-- 'concordance/concordanceref08.Name' -/
theorem rname_spec (s : List UInt8) (hs : s.length ≤ 140737488355328) (w0 : World) :
    Spec Tryz.prog 116 #[.string ⟨s.toArray⟩] w0 (fun v w => v = .bool (nameB s) ∧ w = w0) := by
  refine spec_of (args := [_]) (fn := Tryz.f116) Tryz.func116 rfl (n := 28) Tryz.ntmps116 ?_
  refine T.seq ?_
  refine T.region ?_ -- region 0
  refine Rg.assign rfl rfl ?_
  refine Rg.nil ?_
  refine T.seq ?_
  refine T.seq ?_
  refine T.region ?_ -- region 1
  refine Rg.assign rfl rfl ?_
  refine Rg.nil ?_
  refine T.block ?_
  refine T.loop (σ := Nat) (fun i => [(0, .string ⟨s.toArray⟩), (3, .int .i64 (i : Int))]) (fun i w => w = w0 ∧ i ≤ s.length ∧ ∀ k c, k < i → s[k]? = some c → smallB c = true) (fun i => s.length - i) 0 (.cons rfl (.cons rfl .nil)) ?_ ?_ -- loop 0
  · exact ⟨rfl, Nat.zero_le _, fun k c h => absurd h (Nat.not_lt_zero k)⟩
  · rintro i w ⟨rfl, hi, hok⟩
    refine T.seq ?_
    refine T.seq ?_
    refine T.region ?_ -- region 2
    refine Rg.move rfl rfl ?_
    refine Rg.move rfl rfl ?_
    refine Rg.lenstr Tryz.underlying9 rfl rfl ?_
    refine Rg.eqv (v' := .int .i64 (s.length : Int)) (by simp [ByteArray.size]) ?_
    refine Rg.ilt rfl rfl rfl ?_
    refine Rg.nil ?_
    refine T.ifp rfl (fun c2 => ?_) (fun c2 => ?_)
    · -- c2 True
      refine T.skip ?_
      refine T.seq ?_
      refine T.block ?_
      refine T.seq ?_
      refine T.region ?_ -- region 4
      refine Rg.move rfl rfl ?_
      refine Rg.move rfl rfl ?_
      refine Rg.strAt (c := s.getD i 0) Tryz.underlying9 rfl rfl rfl (by omega) (by rw [Int.toNat_natCast]; exact getD_at (by omega)) ?_
      refine Rg.ilt rfl rfl rfl ?_
      refine Rg.move rfl rfl ?_
      refine Rg.gsplitp (g := 14) rfl (fun g4_4 => ?_) (fun g4_4 => ?_)
      · -- g4_4 True
        refine Rg.gno rfl rfl rfl rfl ?_
        refine Rg.gno rfl rfl rfl rfl ?_
        refine Rg.gno rfl rfl rfl rfl ?_
        refine Rg.gno rfl rfl rfl rfl ?_
        refine Rg.pickt rfl rfl rfl ?_
        refine Rg.nil ?_
        refine T.ift rfl ?_
        refine T.seq ?_
        refine T.region ?_ -- region 5
        refine Rg.assign rfl rfl ?_
        refine Rg.nil ?_
        refine T.ret ?_
        have hx : s.all smallB = false := Bool.eq_false_iff.2 fun h => by
          have h2 := List.all_eq_true.1 h _ (List.mem_of_getElem? (getD_at (s := s) (i := i) (by omega)))
          simp only [smallB, decide_eq_true_eq] at h2
          omega
        exact Kret1 rfl rfl ⟨by rw [nameB, hx, Bool.and_false], rfl⟩
      · -- g4_4 False
        refine Rg.gyes rfl rfl ?_
        refine Rg.move rfl rfl ?_
        refine Rg.gyes rfl rfl ?_
        refine Rg.move rfl rfl ?_
        refine Rg.gyes rfl rfl ?_
        refine Rg.strAt (c := s.getD i 0) Tryz.underlying9 rfl rfl rfl (by omega) (by rw [Int.toNat_natCast]; exact getD_at (by omega)) ?_
        refine Rg.gyes rfl rfl ?_
        refine Rg.igt rfl rfl rfl ?_
        refine Rg.pickf rfl rfl rfl ?_
        refine Rg.nil ?_
        refine T.ifp rfl (fun c4 => ?_) (fun c4 => ?_)
        · -- c4 True
          refine T.seq ?_
          refine T.region ?_ -- region 5
          refine Rg.assign rfl rfl ?_
          refine Rg.nil ?_
          refine T.ret ?_
          have hx : s.all smallB = false := Bool.eq_false_iff.2 fun h => by
            have h2 := List.all_eq_true.1 h _ (List.mem_of_getElem? (getD_at (s := s) (i := i) (by omega)))
            simp only [smallB, decide_eq_true_eq] at h2
            omega
          exact Kret1 rfl rfl ⟨by rw [nameB, hx, Bool.and_false], rfl⟩
        · -- c4 False
          refine T.skip ?_
          refine T.region ?_ -- region 3
          refine Rg.move rfl rfl ?_
          refine Rg.iadd rfl rfl rfl (by omega) ?_
          refine Rg.assign rfl rfl ?_
          refine Rg.nil ?_
          refine ⟨rfl, i + 1, (.cons rfl (.cons rfl .nil)), ?_, ?_⟩
          · exact ⟨rfl, by omega, fun k c h hc => by
              rcases Nat.lt_or_ge k i with h2 | h2
              · exact hok k c h2 hc
              · obtain rfl : k = i := by omega
                rw [getD_at (by omega)] at hc; cases hc
                simp only [smallB, decide_eq_true_eq]; omega⟩
          · omega
    · -- c2 False
      refine T.exit ?_
      refine T.seq ?_
      refine T.region ?_ -- region 6
      refine Rg.move rfl rfl ?_
      refine Rg.lenstr Tryz.underlying9 rfl rfl ?_
      refine Rg.eqv (v' := .int .i64 (s.length : Int)) (by simp [ByteArray.size]) ?_
      refine Rg.ige rfl rfl rfl ?_
      refine Rg.move rfl rfl ?_
      refine Rg.gsplitp (g := 23) rfl (fun g6_3 => ?_) (fun g6_3 => ?_)
      · -- g6_3 True
        refine Rg.gyes rfl rfl ?_
        refine Rg.move rfl rfl ?_
        refine Rg.gyes rfl rfl ?_
        refine Rg.lenstr Tryz.underlying9 rfl rfl ?_
        refine Rg.eqv (v' := .int .i64 (s.length : Int)) (by simp [ByteArray.size]) ?_
        refine Rg.gyes rfl rfl ?_
        refine Rg.ile rfl rfl rfl ?_
        refine Rg.pickt rfl rfl rfl ?_
        refine Rg.assign rfl rfl ?_
        refine Rg.nil ?_
        refine T.ret ?_
        have ha : s.all smallB = true := all_at fun k c hc => hok k c (by have := (List.getElem?_eq_some_iff.1 hc).1; omega) hc
        first
        | exact Kret1 rfl rfl ⟨by rw [nameB, ha, Bool.and_true]; exact congrArg Value.bool (decide_eq_decide.2 (by omega)), rfl⟩
        | exact Kret1 rfl rfl ⟨by rw [nameB, ha, Bool.and_true]; exact congrArg Value.bool (decide_eq_false (by omega)).symm, rfl⟩
      · -- g6_3 False
        refine Rg.gno rfl rfl rfl rfl ?_
        refine Rg.gno rfl rfl rfl rfl ?_
        refine Rg.gno rfl rfl rfl rfl ?_
        refine Rg.pickf rfl rfl rfl ?_
        refine Rg.assign rfl rfl ?_
        refine Rg.nil ?_
        refine T.ret ?_
        have ha : s.all smallB = true := all_at fun k c hc => hok k c (by have := (List.getElem?_eq_some_iff.1 hc).1; omega) hc
        first
        | exact Kret1 rfl rfl ⟨by rw [nameB, ha, Bool.and_true]; exact congrArg Value.bool (decide_eq_decide.2 (by omega)), rfl⟩
        | exact Kret1 rfl rfl ⟨by rw [nameB, ha, Bool.and_true]; exact congrArg Value.bool (decide_eq_false (by omega)).symm, rfl⟩
/-- 'concordance/doc.May$1' -/
theorem may1_spec {M : PSet} {o : Fd} {v0 : Value} (w0 : World) (hM : Lt M w0) (hv : RT.fd.V M w0 o v0) {nm : List UInt8} {t : Value} {bf : Nat} (g : w0.heap[bf]? = some (.cells #[.string ⟨nm.toArray⟩, t] 127 (0, 0))) (m_g : M bf) :
    Spec Tryz.prog 153 #[v0, .pointer (some ⟨bf, 0, none⟩)] w0 (fun v w => v = .bool (decide (o.1 = nm)) ∧ Step M w0 M w none') := by
  refine spec_of (args := [_, _]) (fn := Tryz.f153) Tryz.func153 rfl (n := 9) Tryz.ntmps153 ?_
  have S : Step M w0 M w0 none' := (Step.refl _ _).widen (fun _ h => h.elim) (fun _ h => h.elim)
  refine T.seq ?_
  refine T.region ?_ -- region 0
  refine Rg.boxp (A := RT.fd) rfl rfl hM hv rfl (fun u0 w1 hu0 s0 _ => ?_) --@step s0
  --@vf hu0*
  --@ptr RT.fd ;; o
  have := lt_of_get g
  replace m_g := (s0.mem _ this).2 m_g
  replace g := s0.same0 g
  replace hM := s0.lt hM
  have := S.size
  replace S := S.trans0 s0
  refine Rg.assign rfl rfl ?_
  refine Rg.nil ?_
  refine T.seq ?_
  refine T.region ?_ -- region 1
  refine Rg.fieldAddr (M := M) (A := RT.fd) (B := RT.str) Tryz.underlying127 rfl rfl I9 (by decide) (fd0) rfl rfl (by decide) (by assumption) (by repeat (first | exact Le.refl _ _ | refine Le.trans (Step.le (by assumption)) ?_)) (fun u1_0 hu1_0 => ?_)
  refine Rg.load (M := M) Tryz.underlying9 rfl rfl rfl rfl rfl hu1_0 (Le.refl _ _) (fun v1 hv1 => ?_)
  obtain rfl := V_strE hv1
  refine Rg.fieldc (o' := 0) Tryz.underlying127 rfl rfl I9 (by decide) rfl rfl ?_
  refine Rg.loadc Tryz.underlying9 rfl rfl rfl (by assumption) rfl ?_
  refine Rg.streq (p := o.1) (q := nm) rfl rfl rfl ?_
  refine Rg.assign rfl rfl ?_
  refine Rg.nil ?_
  refine T.ret ?_
  exact Kret1 rfl rfl ⟨rfl, S⟩
/-- 'slices.IndexFunc[[]concordance/api.Field,concordance/api.Field]' -/
theorem mayix_spec {M : PSet} {fs : List Fd} {v0 : Value} (w0 : World) (hM : Lt M w0) (hv : (RT.fd.sl).V M w0 fs v0) {nm : List UInt8} {t : Value} {bf : Nat} (g : w0.heap[bf]? = some (.cells #[.string ⟨nm.toArray⟩, t] 127 (0, 0))) (m_g : M bf) :
    Spec Tryz.prog 194 #[v0, .func (.func 153) #[] #[.pointer (some ⟨bf, 0, none⟩)]] w0 (fun v w => (∃ k : Int, v = .int .i64 k ∧ (0 ≤ k ↔ (fs.any fun g => decide (g.1 = nm)) = true) ∧ -1 ≤ k ∧ k ≤ 9223372036854775807) ∧ Step M w0 M w none') := by
  have hfl := V_sl_len hv
  refine spec_of (args := [_, _]) (fn := Tryz.f194) Tryz.func194 rfl (n := 19) Tryz.ntmps194 ?_
  have S : Step M w0 M w0 none' := (Step.refl _ _).widen (fun _ h => h.elim) (fun _ h => h.elim)
  refine T.seq ?_
  refine T.region ?_ -- region 0
  refine Rg.assign rfl rfl ?_
  refine Rg.nil ?_
  refine T.seq ?_
  refine T.seq ?_
  refine T.region ?_ -- region 1
  refine Rg.move rfl rfl ?_
  refine Rg.lensl Tryz.underlying39 rfl hv rfl ?_
  refine Rg.move rfl rfl ?_
  refine Rg.nil ?_
  refine T.block ?_
  refine T.loop (σ := Nat) (fun i => [(0, v0), (1, .func (.func 153) #[] #[.pointer (some ⟨bf, 0, none⟩)]), (6, v0), (7, .int .i64 (fs.length : Int)), (8, .int .i64 (i : Int))]) (fun i w => Lt M w ∧ Step M w0 M w none' ∧ (w.heap[bf]? = some (.cells #[.string ⟨nm.toArray⟩, t] 127 (0, 0))) ∧ (RT.fd.sl).V M w fs v0 ∧ i ≤ fs.length ∧ ∀ k o, k < i → fs[k]? = some o → o.1 ≠ nm) (fun i => fs.length - i) 0 (.cons rfl (.cons rfl (.cons rfl (.cons rfl (.cons rfl .nil))))) ?_ ?_ -- loop 0
  · exact ⟨hM, S, g, hv, Nat.zero_le _, fun k c h => absurd h (Nat.not_lt_zero k)⟩
  · rintro i w ⟨hM, S, g, hv, hi, hok⟩
    refine T.seq ?_
    refine T.region ?_ -- region 2
    refine Rg.ilt rfl rfl rfl ?_
    refine Rg.nil ?_
    refine T.seq ?_
    refine T.ifp rfl (fun c2 => ?_) (fun c2 => ?_)
    · -- c2 True
      refine T.skip ?_
      refine T.seq ?_
      refine T.block ?_
      refine T.seq ?_
      refine T.region ?_ -- region 3
      refine Rg.move rfl rfl ?_
      refine Rg.assign rfl rfl ?_
      refine Rg.nil ?_
      refine T.seq ?_
      refine T.region ?_ -- region 4
      refine Rg.move rfl rfl ?_
      refine Rg.move rfl rfl ?_
      refine Rg.move rfl rfl ?_
      refine Rg.idx (M := M) Tryz.underlying39 I127 rfl rfl rfl hv (Le.refl _ _) (by omega) (fun u4 o hg4 hu4 => ?_) --@ptr RT.fd ;; o
      refine Rg.loadagg (M := M) (A := RT.fd) Tryz.underlying127 rfl I127 (by decide) rfl rfl rfl hu4 (Le.refl _ _) (fun v4 hv4 => ?_)
      rw [Int.toNat_natCast] at hg4
      refine Rg.callv (first := []) (captured := [.pointer (some ⟨bf, 0, none⟩)]) rfl rfl rfl E153 (may1_spec _ hM hv4 g m_g) (fun r5 w5 hc => ?_)
      obtain ⟨rfl, s5⟩ := hc --@step s5
      have := lt_of_get g
      replace m_g := (s5.mem _ this).2 m_g
      replace g := s5.same0 g
      replace hv := hv.le s5.le
      replace hM := s5.lt hM
      have := S.size
      replace S := S.trans0 s5
      refine Rg.nil ?_
      refine T.ifp rfl (fun c4 => ?_) (fun c4 => ?_)
      · -- c4 True
        refine T.seq ?_
        refine T.region ?_ -- region 5
        refine Rg.move rfl rfl ?_
        refine Rg.assign rfl rfl ?_
        refine Rg.nil ?_
        refine T.ret ?_
        exact Kret1 rfl rfl ⟨⟨_, rfl, ⟨fun _ => List.any_eq_true.2 ⟨o, List.mem_of_getElem? hg4, by simpa using (by assumption)⟩, fun _ => by omega⟩, by omega, by omega⟩, S.back⟩
      · -- c4 False
        refine T.skip ?_
        refine T.region ?_ -- region 6
        refine Rg.iadd rfl rfl rfl (by omega) ?_
        refine Rg.move rfl rfl ?_
        refine Rg.nil ?_
        refine ⟨rfl, i + 1, (.cons rfl (.cons rfl (.cons rfl (.cons rfl (.cons rfl .nil))))), ?_, ?_⟩
        · exact ⟨hM, S, g, hv, by omega, fun k o' h hc => by
            rcases Nat.lt_or_ge k i with h2 | h2
            · exact hok k o' h2 hc
            · obtain rfl : k = i := by omega
              rw [hg4] at hc; cases hc; assumption⟩
        · omega
    · -- c2 False
      refine T.exit ?_
      refine T.seq ?_
      refine T.region ?_ -- region 7
      refine Rg.assign rfl rfl ?_
      refine Rg.nil ?_
      refine T.ret ?_
      exact Kret1 rfl rfl ⟨⟨-1, rfl, ⟨fun h => by omega, fun h => by
        obtain ⟨o, ho, he⟩ := List.any_eq_true.1 h
        obtain ⟨k, hk⟩ := List.mem_iff_getElem?.1 ho
        exact absurd (by simpa using he) (hok k o (by have := (List.getElem?_eq_some_iff.1 hk).1; omega) hk)⟩, by omega, by omega⟩, S.back⟩
/-- 'slices.ContainsFunc[[]concordance/api.Field,concordance/api.Field]' -/
theorem mayhas_spec {M : PSet} {fs : List Fd} {v0 : Value} (w0 : World) (hM : Lt M w0) (hv : (RT.fd.sl).V M w0 fs v0) {nm : List UInt8} {t : Value} {bf : Nat} (g : w0.heap[bf]? = some (.cells #[.string ⟨nm.toArray⟩, t] 127 (0, 0))) (m_g : M bf) :
    Spec Tryz.prog 152 #[v0, .func (.func 153) #[] #[.pointer (some ⟨bf, 0, none⟩)]] w0 (fun v w => v = .bool (fs.any fun g => decide (g.1 = nm)) ∧ Step M w0 M w none') := by
  refine spec_of (args := [_, _]) (fn := Tryz.f152) Tryz.func152 rfl (n := 9) Tryz.ntmps152 ?_
  have S : Step M w0 M w0 none' := (Step.refl _ _).widen (fun _ h => h.elim) (fun _ h => h.elim)
  refine T.seq ?_
  refine T.region ?_ -- region 0
  refine Rg.assign rfl rfl ?_
  refine Rg.nil ?_
  refine T.seq ?_
  refine T.region ?_ -- region 1
  refine Rg.move rfl rfl ?_
  refine Rg.move rfl rfl ?_
  refine Rg.call rfl rfl E194 (mayix_spec _ hM hv g m_g) (fun r1 w1 hc => ?_)
  obtain ⟨⟨k, rfl, hk, _⟩, s1⟩ := hc --@step s1
  have := lt_of_get g
  replace m_g := (s1.mem _ this).2 m_g
  replace g := s1.same0 g
  replace hv := hv.le s1.le
  replace hM := s1.lt hM
  have := S.size
  replace S := S.trans0 s1
  refine Rg.ige rfl rfl rfl ?_
  refine Rg.assign rfl rfl ?_
  refine Rg.nil ?_
  refine T.ret ?_
  exact Kret1 rfl rfl ⟨congrArg Value.bool (by rw [Bool.eq_iff_iff, decide_eq_true_eq]; exact hk), S⟩
/-- 'concordance/doc.May' -/
theorem may_spec {M : PSet} {d : Dc} {v0 : Value} (w0 : World) (hM : Lt M w0) (hv : RT.dc.V M w0 d v0) (hl : ∀ f ∈ d.2, f.1.length ≤ 900000 ∧ f.2.length ≤ 900000) :
    Spec Tryz.prog 107 #[v0] w0 (fun v w => v = .int .i64 (mayD d) ∧ Step M w0 M w none') := by
  have hM0 := hM
  refine spec_of (args := [_]) (fn := Tryz.f107) Tryz.func107 rfl (n := 49) Tryz.ntmps107 ?_
  have S : Step M w0 M w0 none' := (Step.refl _ _).widen (fun _ h => h.elim) (fun _ h => h.elim)
  refine T.seq ?_
  refine T.region ?_ -- region 0
  refine Rg.boxp (A := RT.dc) rfl rfl hM hv rfl (fun u0 w1 hu0 s0 _ => ?_) --@step s0
  --@vf hu0*
  --@ptr RT.dc ;; d
  replace hM := s0.lt hM
  have := S.size
  replace S := S.trans0 s0
  refine Rg.assign rfl rfl ?_
  refine Rg.nil ?_
  refine T.seq ?_
  refine T.seq ?_
  refine T.region ?_ -- region 1
  refine Rg.fieldAddr (M := M) (A := RT.dc) (B := (RT.fd).sl) Tryz.underlying41 rfl rfl I39 (by decide) (dc1) rfl rfl (by decide) (by assumption) (by repeat (first | exact Le.refl _ _ | refine Le.trans (Step.le (by assumption)) ?_)) (fun u1_0 hu1_0 => ?_)
  refine Rg.load (M := M) Tryz.underlying39 rfl rfl rfl rfl rfl (by assumption) (by repeat (first | exact Le.refl _ _ | refine Le.trans (Step.le (by assumption)) ?_)) (fun v1_1 hv1_1 => ?_)
  refine Rg.lensl Tryz.underlying39 rfl hv1_1 rfl ?_
  refine Rg.igt rfl rfl rfl ?_
  refine Rg.nil ?_
  refine T.ifp rfl (fun c1 => ?_) (fun c1 => ?_)
  · -- c1 True
    refine T.seq ?_
    refine T.region ?_ -- region 2
    refine Rg.assign rfl rfl ?_
    refine Rg.nil ?_
    refine T.ret ?_
    exact Kret1 rfl rfl ⟨by rw [mayD, if_pos (by omega)], S.back⟩
  · -- c1 False
    refine T.skip ?_
    refine T.seq ?_
    refine T.region ?_ -- region 3
    refine Rg.assign rfl rfl ?_
    refine Rg.nil ?_
    refine T.seq ?_
    refine T.seq ?_
    refine T.region ?_ -- region 4
    refine Rg.fieldAddr (M := M) (A := RT.dc) (B := (RT.fd).sl) Tryz.underlying41 rfl rfl I39 (by decide) (dc1) rfl rfl (by decide) (by assumption) (by repeat (first | exact Le.refl _ _ | refine Le.trans (Step.le (by assumption)) ?_)) (fun u4_0 hu4_0 => ?_)
    refine Rg.load (M := M) Tryz.underlying39 rfl rfl rfl rfl rfl (by assumption) (by repeat (first | exact Le.refl _ _ | refine Le.trans (Step.le (by assumption)) ?_)) (fun v4_1 hv4_1 => ?_)
    refine Rg.lensl Tryz.underlying39 rfl hv4_1 rfl ?_
    refine Rg.move rfl rfl ?_
    refine Rg.nil ?_
    refine T.block ?_
    refine T.loop (σ := Nat × Nat) (fun q => [(1, u0), (3, .int .i64 (q.2 : Int)), (13, v4_1), (14, .int .i64 (d.2.length : Int)), (15, .int .i64 (q.1 : Int))]) (fun q w => ∃ M', Lt M' w ∧ Step M w0 M' w none' ∧ PtrTo RT.dc M' w u0 d ∧ (RT.fd.sl).V M' w d.2 v4_1 ∧ mayD d = mayL (d.2.take q.1) (d.2.drop q.1) q.2 ∧ q.1 ≤ d.2.length ∧ q.2 ≤ 900001 * q.1) (fun q => d.2.length - q.1) (0, 0) (.cons rfl (.cons rfl (.cons rfl (.cons rfl (.cons rfl .nil))))) ?_ ?_ -- loop 0
    · exact ⟨M, hM, S, hu0, hv4_1, by rw [mayD, if_neg (by omega)]; rfl, Nat.zero_le _, Nat.le_refl _⟩
    · rintro ⟨i, n⟩ w ⟨M1, hM, S, hu0, hvs, hmd, hi, hn⟩
      dsimp only at hmd hi hn ⊢
      refine T.seq ?_
      refine T.region ?_ -- region 5
      refine Rg.ilt rfl rfl rfl ?_
      refine Rg.nil ?_
      refine T.seq ?_
      refine T.ifp rfl (fun c5 => ?_) (fun c5 => ?_)
      · -- c5 True
        refine T.skip ?_
        refine T.seq ?_
        refine T.block ?_
        refine T.seq ?_
        refine T.region ?_ -- region 6
        refine Rg.move rfl rfl ?_
        refine Rg.idx (M := M1) Tryz.underlying39 I127 rfl rfl rfl hvs (Le.refl _ _) (by omega) (fun u6 x hg6 hu6 => ?_) --@ptr RT.fd ;; x
        refine Rg.loadagg (M := M1) (A := RT.fd) Tryz.underlying127 rfl I127 (by decide) rfl rfl rfl hu6 (Le.refl _ _) (fun v6 hv6 => ?_)
        rw [Int.toNat_natCast] at hg6
        obtain rfl := fd_val hv6
        have hst := mayL_at (n := n) hg6
        have hxl := hl _ (List.mem_of_getElem? hg6)
        refine Rg.alloc M1 I127 rfl (fun b6_3 w6_3 p6_3 q6_3 g6_3 s6_3 => ?_)
        obtain ⟨M_6_3, eM_6_3⟩ : ∃ M', M' = ins M1 b6_3 := ⟨_, rfl⟩
        rw [← eM_6_3] at s6_3
        have m_g6_3 : M_6_3 b6_3 := by rw [eM_6_3]; exact .inl rfl
        change w6_3.heap[b6_3]? = some (.cells #[.string ⟨#[]⟩, .string ⟨#[]⟩] _ _) at g6_3
        replace hu0 := hu0.le (by decide) s6_3.le
        replace hvs := hvs.le s6_3.le
        replace hM := s6_3.lt hM
        have := S.size
        replace S := S.trans0 s6_3
        refine Rg.assign rfl rfl ?_
        refine Rg.storeaggc (M := M_6_3) (vs := [.string ⟨x.1.toArray⟩, .string ⟨x.2.toArray⟩]) I127 rfl rfl (by intro u hu; simp at hu; rcases hu with rfl | rfl <;> rfl) rfl rfl g6_3 m_g6_3 (fun w6 g6 s6 => ?_) --@wrote s6 g6_3 g6
        have := lt_of_get g6_3
        replace m_g6_3 := (s6.mem _ this).2 m_g6_3
        replace hu0 := hu0.le (by decide) s6.le
        replace hvs := hvs.le s6.le
        replace hM := s6.lt hM
        have := S.size
        replace S := S.trans s6 (fun k hk h => by have h : _ = _ := h; subst h; first | (exfalso; omega) | (show _ ≤ _; omega) | exact ⟨by omega, (S.mem _ hk).1 ((s6.mem _ (lt_of_get g6_3)).1 m_g6_3)⟩ | exact .inl rfl | exact .inr rfl | exact .inr (.inl rfl) | exact .inr (.inr rfl) | exact rfl)
        have g6_3_ := g6
        clear g6_3
        have g6_3 := g6_3_
        clear g6_3_
        refine Rg.nil ?_
        refine T.seq ?_
        refine T.region ?_ -- region 7
        refine Rg.fieldc (o' := 1) Tryz.underlying127 rfl rfl I9 (by decide) rfl rfl ?_
        refine Rg.loadc Tryz.underlying9 rfl rfl rfl (by assumption) rfl ?_
        refine Rg.call rfl rfl E150 (toks_spec _ hM hxl.2) (fun r7 w7 hc => ?_)
        obtain ⟨⟨u7, rfl, hu7⟩, s7⟩ := hc --@step s7
        have := lt_of_get g6_3
        replace m_g6_3 := (s7.mem _ this).2 m_g6_3
        replace g6_3 := s7.same0 g6_3
        replace hu0 := hu0.le (by decide) s7.le
        replace hvs := hvs.le s7.le
        replace hM := s7.lt hM
        have := S.size
        replace S := S.trans0 s7
        refine Rg.move rfl rfl ?_
        refine Rg.extract rfl rfl rfl ?_
        refine Rg.extract rfl rfl rfl ?_
        refine Rg.assign rfl rfl ?_
        refine Rg.assign rfl rfl ?_
        refine Rg.nil ?_
        refine T.seq ?_
        refine T.block ?_
        refine T.seq ?_
        refine T.region ?_ -- region 8
        refine Rg.fieldc (o' := 0) Tryz.underlying127 rfl rfl I9 (by decide) rfl rfl ?_
        refine Rg.loadc Tryz.underlying9 rfl rfl rfl (by assumption) rfl ?_
        refine Rg.call rfl rfl E151 (name_spec x.1 (by omega) _) (fun r8 w8 hc => ?_)
        obtain ⟨rfl, s8_⟩ := hc 
        have s8 := s8_ M_6_3 --@step s8
        have := lt_of_get g6_3
        replace m_g6_3 := (s8.mem _ this).2 m_g6_3
        replace g6_3 := s8.same0 g6_3
        replace hu0 := hu0.le (by decide) s8.le
        replace hvs := hvs.le s8.le
        replace hM := s8.lt hM
        have := S.size
        replace S := S.trans0 s8
        refine Rg.not rfl rfl ?_
        refine Rg.eqv (v' := .bool (decide (nameB x.1 = false))) (by cases nameB x.1 <;> rfl) ?_
        refine Rg.assign rfl rfl ?_
        refine Rg.nil ?_
        refine T.ifp rfl (fun c8 => ?_) (fun c8 => ?_)
        · -- c8 True
          refine T.seq ?_
          refine T.region ?_ -- region 9
          refine Rg.assign rfl rfl ?_
          refine Rg.nil ?_
          refine T.ret ?_
          exact Kret1 rfl rfl ⟨by rw [hmd, hst, if_pos (by assumption)], S.back⟩
        · -- c8 False
          refine T.seq ?_
          refine T.region ?_ -- region 10
          refine Rg.fieldAddr (M := M_6_3) (A := RT.dc) (B := (RT.fd).sl) Tryz.underlying41 rfl rfl I39 (by decide) (dc1) rfl rfl (by decide) (by assumption) (by repeat (first | exact Le.refl _ _ | refine Le.trans (Step.le (by assumption)) ?_)) (fun u10_0 hu10_0 => ?_)
          refine Rg.load (M := M_6_3) Tryz.underlying39 rfl rfl rfl rfl rfl (by assumption) (by repeat (first | exact Le.refl _ _ | refine Le.trans (Step.le (by assumption)) ?_)) (fun v10_1 hv10_1 => ?_)
          refine Rg.move rfl rfl ?_
          refine Rg.slice_h Tryz.underlying39 I127 rfl rfl rfl hv10_1 (by omega) (fun u10 hu10 => ?_)
          rw [Int.toNat_natCast] at hu10
          refine Rg.makeFunc (xs := []) (ys := [.tmp 5]) rfl rfl rfl ?_
          refine Rg.call rfl rfl E152 (mayhas_spec _ hM hu10 g6_3 m_g6_3) (fun r10 w10 hc => ?_)
          obtain ⟨rfl, s10⟩ := hc --@step s10
          have := lt_of_get g6_3
          replace m_g6_3 := (s10.mem _ this).2 m_g6_3
          replace g6_3 := s10.same0 g6_3
          replace hu0 := hu0.le (by decide) s10.le
          replace hvs := hvs.le s10.le
          replace hM := s10.lt hM
          have := S.size
          replace S := S.trans0 s10
          refine Rg.assign rfl rfl ?_
          refine Rg.eqv (v' := .bool (decide (((d.2.take i).any fun g => decide (g.1 = x.1)) = true))) (by cases ((d.2.take i).any fun g => decide (g.1 = x.1)) <;> rfl) ?_
          refine Rg.nil ?_
          refine T.ifp rfl (fun c10 => ?_) (fun c10 => ?_)
          · -- c10 True
            refine T.seq ?_
            refine T.region ?_ -- region 11
            refine Rg.assign rfl rfl ?_
            refine Rg.nil ?_
            refine T.ret ?_
            exact Kret1 rfl rfl ⟨by rw [hmd, hst, if_neg (by assumption), if_pos (by assumption)], S.back⟩
          · -- c10 False
            refine T.seq ?_
            refine T.region ?_ -- region 12
            refine Rg.move rfl rfl ?_
            refine Rg.ine rfl rfl rfl ?_
            refine Rg.assign rfl rfl ?_
            refine Rg.nil ?_
            refine T.ifp rfl (fun c12 => ?_) (fun c12 => ?_)
            · -- c12 True
              refine T.seq ?_
              refine T.region ?_ -- region 13
              refine Rg.move rfl rfl ?_
              refine Rg.assign rfl rfl ?_
              refine Rg.nil ?_
              refine T.ret ?_
              exact Kret1 rfl rfl ⟨by rw [hmd, hst, if_neg (by assumption), if_neg (by assumption), if_pos (by assumption)]; rfl, S.back⟩
            · -- c12 False
              refine T.skip ?_
              refine T.region ?_ -- region 14
              refine Rg.move rfl rfl ?_
              have htk : tokE 0 (words x.2) = 0 := Classical.not_not.1 c12
              obtain ⟨a, cap, rfl⟩ := hu7 htk
              have hwl := words_len x.2
              refine Rg.move rfl rfl ?_
              refine Rg.lenraw Tryz.underlying222 rfl rfl ?_
              refine Rg.iadd rfl rfl rfl (by omega) ?_
              refine Rg.assign rfl rfl ?_
              refine Rg.nil ?_
              refine T.region ?_ -- region 15
              refine Rg.iadd rfl rfl rfl (by omega) ?_
              refine Rg.move rfl rfl ?_
              refine Rg.nil ?_
              refine ⟨rfl, (i + 1, n + (words x.2).length), (.cons rfl (.cons rfl (.cons rfl (.cons rfl (.cons rfl .nil))))), ?_, ?_⟩
              · exact ⟨_, hM, S, hu0, hvs, by rw [hmd, hst, if_neg (by assumption), if_neg (by assumption), if_neg c12], by dsimp only; omega, by dsimp only; omega⟩
              · dsimp only; omega
      · -- c5 False
        refine T.exit ?_
        refine T.seq ?_
        refine T.seq ?_
        refine T.region ?_ -- region 16
        refine Rg.move rfl rfl ?_
        refine Rg.igt rfl rfl rfl ?_
        refine Rg.nil ?_
        refine T.ifp rfl (fun c16 => ?_) (fun c16 => ?_)
        · -- c16 True
          refine T.seq ?_
          refine T.region ?_ -- region 17
          refine Rg.assign rfl rfl ?_
          refine Rg.nil ?_
          refine T.ret ?_
          exact Kret1 rfl rfl ⟨by rw [hmd, mayL_end (by omega), if_pos (by omega)], S.back⟩
        · -- c16 False
          refine T.skip ?_
          refine T.seq ?_
          refine T.region ?_ -- region 18
          refine Rg.assign rfl rfl ?_
          refine Rg.nil ?_
          refine T.ret ?_
          exact Kret1 rfl rfl ⟨by rw [hmd, mayL_end (by omega), if_neg (by omega)], S.back⟩
end Go.K
