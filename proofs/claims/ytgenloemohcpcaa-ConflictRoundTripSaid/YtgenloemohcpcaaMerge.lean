/- Merge and the reference's Merge, for sums that are not too great. -/
import Derived.Test.YtgenloemohcpcaaMergeB
import Derived.Test.YtgenloemohcpcaaMergeC
namespace Go.Proofs.Ytgenloemohcpcaa
open Go.RowKit

theorem merge_any (b l r : SR) (w : World) (hb : b.Rd w) (hl : l.Rd w) (hr : r.Rd w)
    (hsz : b.L.length + b.M.length + l.L.length + l.M.length + r.L.length + r.M.length ≤ 900) : Calls Try.prog 12 #[b.val, l.val, r.val] w (MergePost b.p l.p r.p w) := by
  by_cases h1 : chk b.L b.M = 0
  · by_cases h2 : chk l.L l.M = 0
    · by_cases h3 : chk r.L r.M = 0
      · by_cases hq : l.p = r.p
        · exact merge_eq b l r w hb hl hr h1 h2 h3 hq (by omega) (by omega)
        · exact merge_ne b l r w hb hl hr h1 h2 h3 hq hsz
      · exact merge_err b l r w hb hl hr (by rw [(mErr3 (b := b.p) (l := l.p) (r := r.p) h1 h2 h3).1]; exact h3)
    · exact merge_err b l r w hb hl hr (by rw [(mErr2 (b := b.p) (l := l.p) (r := r.p) h1 h2).1]; exact h2)
  · exact merge_err b l r w hb hl hr (by rw [(mErr1 (b := b.p) (l := l.p) (r := r.p) h1).1]; exact h1)

theorem rmerge_any (b l r : SR) (w : World) (hb : b.Rd w) (hl : l.Rd w) (hr : r.Rd w)
    (hsz : b.L.length + b.M.length + l.L.length + l.M.length + r.L.length + r.M.length ≤ 900) : Calls Try.prog 13 #[b.val, l.val, r.val] w (MergePost b.p l.p r.p w) := by
  by_cases h1 : chk b.L b.M = 0
  · by_cases h2 : chk l.L l.M = 0
    · by_cases h3 : chk r.L r.M = 0
      · by_cases hq : l.p = r.p
        · exact rmerge_4 b l r w hb hl hr h1 h2 h3 hq
        · exact rmerge_5 b l r w hb hl hr h1 h2 h3 hq hsz
      · exact rmerge_3 b l r w hb hl hr h1 h2 h3
    · exact rmerge_2 b l r w hb hl hr h1 h2
  · exact rmerge_1 b l r w hb hl hr h1
end Go.Proofs.Ytgenloemohcpcaa
