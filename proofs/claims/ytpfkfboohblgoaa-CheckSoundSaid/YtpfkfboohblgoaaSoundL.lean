/- Plain laws for the law CheckSound: what follows from what is told of a network and a certificate. Conditions: none. -/
import Derived.Test.YtpfkfboohblgoaaTracesL
namespace Go.Proofs.Ytpfkfboohblgoaa
open Go.RowKit

theorem free_no {l : List (BitVec 32)} {ls : List (List Rul)} {c : Crt} (hm : netMayV ls = 0) (hC : Cuts ls.flatten l) (hlen : c.rks.length = c.ps.length) (hf : FreeOk ls.length c) (hz : partsZ l ls (c.ps.zip c.rks) = 0) (a : BitVec 32) : ∀ x, ¬ OnL (vecV ls a) x := by
  obtain ⟨rk, h⟩ := free_falls hC hlen hf.meet hz a
  refine falls_no (vec_ok hm a) (rk := fun x => rk.getD x.toNat 0) fun x hx hn => ?_
  have h1 := hx.1
  have h2 := hx.2
  rw [vecV_len] at h2
  have e : ((x.toNat : Nat) : Int) = x := Int.toNat_of_nonneg h1
  have hs : stepN ls a (x.toNat : Int) = some (nxv (vecV ls a) x) := by rw [e]; exact (step_nx hm).2 ⟨rfl, hn⟩
  exact (h x.toNat _ (by omega) hs).2.2
inductive SoundIs (ls : List (List Rul)) (c : Crt) : Int × Int → Prop
  | no (z : Int) (hz : z ≠ 0) : SoundIs ls c (0, z)
  | free (hm : netMayV ls = 0) (hc : certMayV ls.length c = 0) (h : ∀ a x, ¬ OnL (vecV ls a) x) : SoundIs ls c (1, 0)
  | loop (hm : netMayV ls = 0) (hc : certMayV ls.length c = 0) (h0 : 0 < c.tr.length) (h1 : c.tr.length ≤ 256) (hon : OnL (vecV ls c.dest) (c.tr.getD 0 0)) (hb : itv (vecV ls c.dest) c.tr.length (c.tr.getD 0 0) = c.tr.getD 0 0) : SoundIs ls c (2, 0)
theorem ans_sound {l : List (BitVec 32)} {ls : List (List Rul)} {c : Crt} (hC : Cuts ls.flatten l) (hlen : c.rks.length = c.ps.length) : SoundIs ls c (ansV l ls c) := by
  by_cases hm : netMayV ls = 0
  · by_cases hc : certMayV ls.length c = 0
    · by_cases hv : c.vd = 1
      · have hf := free_ok hc hv
        rw [ans_free hm hf]
        by_cases hz : partsZ l ls (c.ps.zip c.rks) = 0
        · rw [if_neg (by rw [hz]; simp)]
          exact .free hm hc (free_no hm hC hlen hf hz)
        · rw [if_pos hz]
          exact .no _ hz
      · have hf := loop_ok hc hv
        rw [ans_loop hm hf]
        by_cases hz : traceV ls c.dest c.tr = 0
        · rw [if_neg (by rw [hz]; simp), hf.vd]
          obtain ⟨h0, hon, hb⟩ := trace_on hm hz
          refine .loop hm hc h0 ?_ hon hb
          have h1 := hf.few
          have h2 := (netMay_tabs hm).1
          omega
        · rw [if_pos hz]
          exact .no 17 (by decide)
    · unfold ansV
      rw [if_neg (by rw [hm]; simp), if_pos hc]
      exact .no _ hc
  · unfold ansV
    rw [if_pos hm]
    exact .no _ hm
end Go.Proofs.Ytpfkfboohblgoaa
