/- theseusref17.Fit of any certificate: one that may be. Conditions: whole numbers are within 64 bits. -/
import Derived.Test.YtpfkfboohblgoaaFitPs
import Derived.Test.YtpfkfboohblgoaaFitLoops
namespace Go.Proofs.Ytpfkfboohblgoaa
open Go.RowKit

theorem r17Fit_any (pv tv : Value) (c : Crt) (n : Nat) (w : World) (h : CertAt w pv tv c) (htr : ∀ x ∈ c.tr, In64 x) (hri : ∀ x ∈ ranksF c.rks, In64 x) (hcap : (ranksF c.rks).length ≤ 1000000000) (hn : 1 ≤ n ∧ n ≤ 1000000) :
    Calls Try.prog 17 #[.agg #[I c.vd, pv, U c.dest, tv], I n] w fun e w' => ∃ pv' tv' c', e = .returned (.agg #[I c'.vd, pv', U c'.dest, tv']) ∧ CertOwn w' w.heap.size pv' tv' c' ∧ certMayV n c' = 0 ∧ (∀ x ∈ c'.tr, In64 x) ∧
      (c'.vd = 1 ↔ (bits .and .i64 c.vd 1 == 0) = false) ∧ Ext w w' := by
  cases hv : (bits .and .i64 c.vd 1 == 0)
  · obtain ⟨ta, tc, rfl, -, -, -⟩ := h.tr.form
    refine (r17FitFree_any pv ta c.tr.length tc c.vd c.dest n c.ps c.rks w h.parts hv h.len h.rk hri hcap hn).mono ?_
    rintro e w' ⟨v, rfl, ho, hx⟩
    obtain ⟨ps, h1, h2⟩ := fitPs_may hn.1 ho
    exact ⟨v, _, _, rfl, h1, h2, (fun x hx => by cases hx), by simp, hx⟩
  · refine (r17FitLoops_any pv tv c.vd c.dest n c.tr w h.tr hv htr hn).mono ?_
    rintro e w' ⟨v, rfl, ho, hx⟩
    refine ⟨_, v, ⟨2, [], [], c.dest, fitTr n c.tr⟩, rfl, ⟨⟨by simp [pcells], .inl ⟨rfl, rfl⟩⟩, rfl, (fun i p r h => by cases h), ho⟩, fitTr_may hn.1 _ _, fun x hx => ?_, by simp, hx⟩
    have := (fitTr_good hn.1 c.tr).mem x hx
    unfold In64
    omega
end Go.Proofs.Ytpfkfboohblgoaa
