/- round.To at one and just below, by contract; bound.Result. Conditions: math/bits' table stands in its variable. -/
import Derived.Test.YtflkemcoomgoiaaDoorBd1
namespace Go.Proofs.YtflkemcoomgoiaaDoor
set_option maxRecDepth 100000
open Go.RowKit Go.ChangeShapes Go.WideShapes

theorem To_one {w : World} {v : Value} {neg : Bool} {dir : Int} (h : Num w v 1) (hT : Tab w) (d0 : 0 ≤ dir) (d3 : dir ≤ 3) :
    Calls Tryd.prog 18 #[.agg #[.bool neg, v, .int .i64 0], .bool true, .int .i64 dir] w (fun e w' => e = .returned (.tuple #[L64 (signedB (moreB dir neg) neg), .int .u8 1, .int .i64 0]) ∧ Below w.heap.size w w') := by
  have hw := whole1 (n := neg) d0 d3
  unfold moreB
  obtain ⟨u, hu⟩ : ∃ u, upB dir neg = u := ⟨_, rfl⟩
  rw [hu] at hw ⊢
  cases u
  · exact To_more (M1 := 1) (E1 := 0) (q := 4503599627370496) (M2 := 1) (E2 := 0) (top := 0) (u := -52) (c := 4607182418800017408) h hT (by decide) (by decide) (bareD_at (k := 0) (m := 0) rfl (by decide) (by decide)) rfl d0 d3 rfl (by rw [b1]; decide) (t1 neg) (by decide) (by decide) rfl hw
      (by rw [show bitN 4503599627370496 = 52 + 1 from bitN_at (by decide) (by decide)]; decide) (makeQ_at (k := 52) (m := 0) (by decide) (by decide) (by decide)) rfl (by rw [b1]; decide) ⟨by decide, by decide⟩ (by rw [t1]; decide) (by rw [t1]; decide) (by decide) (x1 neg)
  · exact To_more (M1 := 1) (E1 := 0) (q := 4503599627370497) (M2 := 4503599627370497) (E2 := -52) (top := 0) (u := -52) (c := 4607182418800017409) h hT (by decide) (by decide) (bareD_at (k := 0) (m := 0) rfl (by decide) (by decide)) rfl d0 d3 rfl (by rw [b1]; decide) (t1 neg) (by decide) (by decide) rfl hw
      (by rw [b52]; decide) (makeQ_at (k := 0) (m := 2251799813685248) (by decide) (by decide) (by decide)) rfl (by rw [b52]; decide) ⟨by decide, by decide⟩ (by rw [t52]; decide) (by rw [t52]; decide) (by decide) (x52 neg)

theorem To_less {w : World} {v : Value} {neg : Bool} {dir : Int} (h : Num w v 18014398509481983) (hT : Tab w) (d0 : 0 ≤ dir) (d3 : dir ≤ 3) :
    Calls Tryd.prog 18 #[.agg #[.bool neg, v, .int .i64 (-54)], .bool true, .int .i64 dir] w (fun e w' => e = .returned (.tuple #[L64 (signedB (lessB dir neg) neg), .int .u8 1, .int .i64 0]) ∧ Below w.heap.size w w') := by
  have hw := whole54 (n := neg) d0 d3
  unfold lessB
  obtain ⟨u, hu⟩ : ∃ u, (decide (dir = 0) || upB dir neg) = u := ⟨_, rfl⟩
  rw [hu] at hw ⊢
  cases u
  · exact To_more (M1 := 18014398509481983) (E1 := -54) (q := 9007199254740991) (M2 := 9007199254740991) (E2 := -53) (top := -1) (u := -53) (c := 4607182418800017407) h hT (by decide) (by decide) (bareD_at (k := 0) (m := 9007199254740991) (by decide) (by decide) (by decide)) rfl d0 d3 rfl (by rw [b54]; decide) (t54 neg) (by decide) (by decide) rfl hw
      (by rw [b53]; decide) (makeQ_at (k := 0) (m := 4503599627370495) (by decide) (by decide) (by decide)) rfl (by rw [b53]; decide) ⟨by decide, by decide⟩ (by rw [t53]; decide) (by rw [t53]; decide) (by decide) (x53 neg)
  · exact To_more (M1 := 18014398509481983) (E1 := -54) (q := 9007199254740992) (M2 := 1) (E2 := 0) (top := -1) (u := -53) (c := 4607182418800017408) h hT (by decide) (by decide) (bareD_at (k := 0) (m := 9007199254740991) (by decide) (by decide) (by decide)) rfl d0 d3 rfl (by rw [b54]; decide) (t54 neg) (by decide) (by decide) rfl hw
      (by rw [show bitN 9007199254740992 = 53 + 1 from bitN_at (by decide) (by decide)]; decide) (makeQ_at (k := 53) (m := 0) (by decide) (by decide) (by decide)) rfl (by rw [b1]; decide) ⟨by decide, by decide⟩ (by rw [t1]; decide) (by rw [t1]; decide) (by decide) (x1 neg)
end Go.Proofs.YtflkemcoomgoiaaDoor
