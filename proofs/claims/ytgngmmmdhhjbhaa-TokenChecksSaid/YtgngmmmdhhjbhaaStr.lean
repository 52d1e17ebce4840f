/- string(b), at this program's types -/
import Derived.Test.YtgngmmmdhhjbhaaProg
import Derived.Test.YtgngmmmdhhjbhaaLib
namespace Go.Proofs.Ytgngmmmdhhjbhaa
open Go.RowKit

theorem Byt.cells {w : World} {ad : Addr} {l : List UInt8} (h : Byt w (some ad) l) : ∀ j (hj : j < l.length), w.cell? (ad.add j) = some (.int .u8 (l[j].toNat : Int)) := fun j hj =>
  Row.cells w h j _ (by simp [encB, hj])
theorem conv_str {w : World} {a : Option Addr} {l : List UInt8} {n cap : Nat} (hb : Byt w a l) (hn : n = l.length) : (convert 24 9 (.slice a n cap)).run Try.prog w = .ok (.string ⟨l.toArray⟩) w := by
  subst hn
  cases a with
  | none =>
    have h0 : l = [] := by simpa using Row.of_none w hb
    subst h0
    exact run_convert_bytes_nil w _ _ Try.underlying24 Try.underlying5 _ _ _ Try.underlying9
  | some ad => exact run_convert_bytes_back w _ _ _ ad cap l Try.underlying24 Try.underlying5 Try.underlying9 hb.cells
theorem str_toList (l : List UInt8) : (ByteArray.mk l.toArray).toList = l := by
  rw [ByteArray.toList_eq]
theorem str_ne {l m : List UInt8} (h : l ≠ m) : ((ByteArray.mk l.toArray).toList == (ByteArray.mk m.toArray).toList) = false := by
  rw [str_toList, str_toList, beq_eq_false_iff_ne]; exact h
end Go.Proofs.Ytgngmmmdhhjbhaa
