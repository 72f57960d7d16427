/- Plain laws of rising rows: which interval a cut and an end are in, and what comes next. Conditions: none. -/
import Derived.Test.YtpfkfboohblgoaaGCuts
namespace Go.Proofs.Ytpfkfboohblgoaa
open Go.RowKit

theorem atN_eq {l : List (BitVec 32)} (hr : Rising l) {a : BitVec 32} {m : Nat} (hm : m < l.length) (h1 : uv l[m] ≤ uv a) (h2 : ∀ h : m + 1 < l.length, uv a < uv l[m + 1]) : atN l a = m + 1 := by
  have hle := atN_le l a
  rcases Nat.lt_or_ge m (atN l a) with g | g
  · rcases Nat.lt_or_ge (m + 1) (atN l a) with g2 | g2
    · have := atN_lt g2 (by omega)
      have := h2 (by omega)
      omega
    · omega
  · have h3 := atN_end (l := l) (a := a) (by omega)
    have h4 := hr.le g hm
    omega
theorem end_ge {l : List (BitVec 32)} (hr : Rising l) {k : Nat} (hk : k < l.length) : uv l[k] ≤ uv (endV l k) := by
  by_cases h : k + 1 < l.length
  · rw [end_pos hr h]
    have := hr.lt (show k < k + 1 by omega) h
    omega
  · rw [end_top h, uv_top]
    have := (uv_bd l[k]).2
    omega
theorem atN_low {l : List (BitVec 32)} (hr : Rising l) {k : Nat} (hk : k < l.length) : atN l l[k] = k + 1 := atN_eq hr hk (Int.le_refl _) (fun h => hr.lt (by omega) h)
theorem atN_high {l : List (BitVec 32)} (hr : Rising l) {k : Nat} (hk : k < l.length) : atN l (endV l k) = k + 1 := atN_eq hr hk (end_ge hr hk) (fun h => by rw [end_pos hr h]; omega)
/-- What comes next. -/
def nxt (l : List (BitVec 32)) (k : Nat) : Int := if h : k < l.length then uv l[k] else 4294967296
theorem nxt_at {l : List (BitVec 32)} {k : Nat} (h : k < l.length) : nxt l k = uv l[k] := by unfold nxt; rw [dif_pos h]
theorem nxt_step {l : List (BitVec 32)} (hr : Rising l) {k : Nat} : nxt l (k + 1) = uv (endV l k) + 1 := by
  unfold nxt
  by_cases h : k + 1 < l.length
  · rw [dif_pos h, end_pos hr h]; omega
  · rw [dif_neg h, end_top h, uv_top]; rfl
end Go.Proofs.Ytpfkfboohblgoaa
