/- Short20, ShortL, Shown20: these texts in one. Conditions: each part names its own. -/
import Derived.Test.YtdpmnldmbnpfpaaGreatDoorGChk
import Derived.Test.YtdpmnldmbnpfpaaGreatDoorGFit17
import Derived.Test.YtdpmnldmbnpfpaaGreatDoorGAtB
import Derived.Test.YtdpmnldmbnpfpaaGreatDoorGFitC
/- theseuslaw20.short: a certificate of 20 parts at most, of 20 ranks each, and a trace of 20. Conditions: whole numbers are within 64 bits. -/
namespace Go.Proofs.YtdpmnldmbnpfpaaGreatDoor
open Go.RowKit

/-- What is left of a certificate. -/
structure ShortOf (c c' : Crt) : Prop where
 vd : c'.vd = c.vd
 dest : c'.dest = c.dest
 tr : c'.tr = c.tr.take 20
 plen : c'.ps.length <= 20
 rks : c'.rks = (c.rks.take 20).map fun r => r.take 20
end Go.Proofs.YtdpmnldmbnpfpaaGreatDoor

/- Plain laws of short certificates and of those that may be. Conditions: none. -/
namespace Go.Proofs.YtdpmnldmbnpfpaaGreatDoor
open Go.RowKit

theorem flat_bd {m : Nat} : ∀ (rs : List (List Int)), (∀ r ∈ rs, r.length <= m) -> rs.flatten.length <= rs.length * m
 | [], _ => by simp
 | r :: t, h => by
   have h1 := h r (List.mem_cons_self ..)
   have h2 := flat_bd t fun q hq => h q (List.mem_cons_of_mem _ hq)
   rw [List.flatten_cons, List.length_append, List.length_cons, Nat.succ_mul]
   omega
theorem ShortOf.cap {c c' : Crt} (h : ShortOf c c') : (ranksF c'.rks).length <= 1000000000 := by
 unfold ranksF
 have h1 : ∀ r ∈ c'.rks.take 12, r.length <= 20 := fun r hr => by
  have := List.mem_of_mem_take hr
  rw [h.rks] at this
  obtain ⟨q, _, rfl⟩ := List.mem_map.1 this
  rw [List.length_take]; omega
 have h2 := flat_bd _ h1
 have h3 : (c'.rks.take 12).length <= 12 := by rw [List.length_take]; omega
 have h4 := Nat.mul_le_mul_right 20 h3
 omega
theorem rksV_all {n : Int} : ∀ {rks : List (List Int)}, rksV n rks = 0 -> ∀ r ∈ rks, (r.length : Int) = n /\ ∀ x ∈ r, 0 <= x /\ x < n
 | [], _, r, hr => by cases hr
 | q :: t, h, r, hr => by
   unfold rksV at h
   split at h
   · cases h
   · rename_i h1
     split at h
     · cases h
     · rename_i h2
       rcases List.mem_cons.1 hr with rfl | hr
       · refine ⟨by omega, fun x hx => ?_⟩
         rw [Bool.not_eq_true, List.any_eq_false] at h2
         have := h2 x hx
         simp only [outB, Bool.or_eq_true, decide_eq_true_eq, not_or] at this
         omega
       · exact rksV_all h r hr
/-- A certificate that may be, free of loops. -/
structure FreeOk (n : Nat) (c : Crt) : Prop where
 vd : c.vd = 1
 dest : c.dest = 0#32
 tr : c.tr = []
 few : c.ps.length <= 8193
 meet : meetV c.ps = 0
 rks : rksV n c.rks = 0
theorem FreeOk.may {n : Nat} {c : Crt} (h : FreeOk n c) : certMayV n c = 0 := by
 unfold certMayV freeV
 rw [if_pos h.vd, if_neg (by simp [h.dest, h.tr]), if_neg (by have := h.few; omega), if_neg (by simp [h.meet])]
 exact h.rks
theorem free_ok {n : Nat} {c : Crt} (h : certMayV n c = 0) (hv : c.vd = 1) : FreeOk n c := by
 unfold certMayV at h
 rw [if_pos hv] at h
 unfold freeV at h
 split at h
 · cases h
 · rename_i h1
   split at h
   · cases h
   · rename_i h2
     split at h
     · cases h
     · rename_i h3
       have h4 : c.dest = 0#32 := Classical.byContradiction fun e => h1 (.inl e)
       have h5 : c.tr = [] := List.eq_nil_of_length_eq_zero (by omega)
       exact ⟨hv, h4, h5, by omega, Classical.byContradiction fun e => h3 e, h⟩
/-- A certificate that may be, of a loop. -/
structure LoopOk (n : Nat) (c : Crt) : Prop where
 vd : c.vd = 2
 ps : c.ps = []
 pos : 0 < c.tr.length
 few : c.tr.length <= n
 bd : ∀ x ∈ c.tr, 0 <= x /\ x < n
 once : trG (c.tr.headD 0) [] c.tr = false
theorem LoopOk.may {n : Nat} {c : Crt} (h : LoopOk n c) : certMayV n c = 0 := by
 unfold certMayV loopsV
 rw [if_neg (by rw [h.vd]; decide), if_pos h.vd, if_neg (by simp [h.ps]), if_neg (by have := h.pos; have := h.few; omega), if_neg, if_neg (by rw [h.once]; decide)]
 rw [Bool.not_eq_true, List.any_eq_false]
 intro x hx
 have := h.bd x hx
 simp only [outB, Bool.or_eq_true, decide_eq_true_eq, not_or]
 omega
theorem loop_ok {n : Nat} {c : Crt} (h : certMayV n c = 0) (hv : c.vd ≠ 1) : LoopOk n c := by
 unfold certMayV at h
 rw [if_neg hv] at h
 split at h
 · rename_i h2
   unfold loopsV at h
   split at h
   · cases h
   · rename_i h3
     split at h
     · cases h
     · rename_i h4
       split at h
       · cases h
       · rename_i h5
         split at h
         · cases h
         · rename_i h6
           refine ⟨h2, List.eq_nil_of_length_eq_zero (by omega), by omega, by omega, fun x hx => ?_, by simpa using h6⟩
           rw [Bool.not_eq_true, List.any_eq_false] at h5
           have := h5 x hx
           simp only [outB, Bool.or_eq_true, decide_eq_true_eq, not_or] at this
           omega
 · cases h
theorem trG_spec {f : Int} : ∀ {t s : List Int}, s.Nodup -> trG f s t = false -> (s ++ t).Nodup /\ ∀ x ∈ t, f <= x
 | [], s, hs, _ => ⟨by simpa using hs, fun x hx => by cases hx⟩
 | x :: t, s, hs, h => by
   unfold trG at h
   simp only [Bool.or_eq_false_iff, decide_eq_false_iff_not] at h
   obtain ⟨h1, h2, h3⟩ := h
   have hs' : (s ++ [x]).Nodup := by
    rw [List.nodup_append]
    refine ⟨hs, by simp, fun a ha b hb => ?_⟩
    rw [List.mem_singleton] at hb; subst hb
    exact fun e => h1 (e ▸ ha)
   obtain ⟨g1, g2⟩ := trG_spec hs' h3
   refine ⟨by simpa using g1, fun y hy => ?_⟩
   rcases List.mem_cons.1 hy with rfl | hy
   · omega
   · exact g2 y hy
theorem LoopOk.nodup {n : Nat} {c : Crt} (h : LoopOk n c) : c.tr.Nodup := by simpa using (trG_spec List.nodup_nil h.once).1
end Go.Proofs.YtdpmnldmbnpfpaaGreatDoor

/- The statements' head of layer 20: of one node that steps to itself a trace is told. Conditions: none. -/
namespace Go.Proofs.YtdpmnldmbnpfpaaGreatDoor
open Go Go.RowKit Go.Maps Go.Proofs

def s20R : Rul := ⟨0#32, 0, 1, 0⟩
def s20N : List (List Rul) := [[s20R]]
def s20C : Crt := ⟨2, [], [], 0#32, [0]⟩
end Go.Proofs.YtdpmnldmbnpfpaaGreatDoor
