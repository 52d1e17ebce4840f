/- message.groupsOf -/
import Derived.Test.YtpjnajallekjoaaProg
import Derived.Test.YtpjnajallekjoaaMsgLaw
import Derived.Test.YtpjnajallekjoaaQuiet
namespace Go.Proofs.Ytpjnajallekjoaa
open Go.RowKit Go.Sort
set_option maxRecDepth 20000

theorem grpOk_iff {s : Shp} {A : Int} (hg : s.grp ≠ 0) : grpOk s A ↔ (s.fix ≤ A ∧ (A - s.fix) % s.grp = 0 ∧ s.lo ≤ (A - s.fix) / s.grp ∧ (A - s.fix) / s.grp ≤ s.hi) := by unfold grpOk; rw [if_neg hg]
end Go.Proofs.Ytpjnajallekjoaa
