/- VecCuts, StepBd: these texts in one. Conditions: each part names its own. -/
import Derived.Test.YtdpmnldmbnpfpaaGreatDoorGIns
import Derived.Test.YtdpmnldmbnpfpaaGreatDoorGNetP
/- Plain laws of cuts and vectors. Conditions: none. -/
namespace Go.Proofs.YtdpmnldmbnpfpaaGreatDoor
open Go.RowKit

theorem holds_alike {rs : List Rul} {l : List (BitVec 32)} (hC : Cuts rs l) {x y : BitVec 32} (h : ∀ c ∈ l, uv c <= uv x ↔ uv c <= uv y) {r : Rul} (hr : r ∈ rs) : holdsV r.pa r.pl x = holdsV r.pa r.pl y := by
 have g1 := h _ (hC.low hr)
 have g2 : uv x <= uv (highV r.pa r.pl) ↔ uv y <= uv (highV r.pa r.pl) := by
  by_cases ht : uv (highV r.pa r.pl) = 4294967295
  · have := uv_bd x
    have := uv_bd y
    omega
  · have g := h _ (hC.next hr ht)
    rw [uv_inc ht] at g
    omega
 rw [Bool.eq_iff_iff, holds_uv, holds_uv, g1, g2]
theorem find_same {ls : List (List Rul)} {l : List (BitVec 32)} (hC : Cuts ls.flatten l) {x y : BitVec 32} (h : ∀ c ∈ l, uv c <= uv x ↔ uv c <= uv y) {t : List Rul} (ht : t ∈ ls) : findL t x = findL t y :=
 findL_congr fun _ hr => holds_alike hC h (List.mem_flatten.2 ⟨t, ht, hr⟩)
theorem step_same {ls : List (List Rul)} {l : List (BitVec 32)} (hC : Cuts ls.flatten l) {x y : BitVec 32} (h : ∀ c ∈ l, uv c <= uv x ↔ uv c <= uv y) {t : List Rul} (ht : t ∈ ls) : stepO t x = stepO t y := by
 unfold stepO; rw [find_same hC h ht]
theorem vec_same {ls : List (List Rul)} {l : List (BitVec 32)} (hC : Cuts ls.flatten l) {x y : BitVec 32} (h : ∀ c ∈ l, uv c <= uv x ↔ uv c <= uv y) : vecV ls x = vecV ls y := by
 unfold vecV
 exact List.map_congr_left fun t ht => by rw [step_same hC h ht]
/-- The vector of the lowest address of an interval, and of its highest one. -/
theorem vec_low {ls : List (List Rul)} {l : List (BitVec 32)} (hC : Cuts ls.flatten l) (a : BitVec 32) : vecV ls (l[ivN l a]'(ivN_lt hC.zero a)) = vecV ls a :=
 vec_same hC fun c hc => by
  have h1 := iv_from hC.zero a
  constructor
  · intro h; omega
  · intro h; exact iv_below hC.rise hC.zero a hc h
end Go.Proofs.YtdpmnldmbnpfpaaGreatDoor

/- A step's bounds. Conditions: none. -/
namespace Go.Proofs.YtdpmnldmbnpfpaaGreatDoor
open Go.RowKit

theorem foldS_mem {a : BitVec 32} {r : Rul} : ∀ (t : List Rul) (o : Option Rul), t.foldl (findStep a) o = some r -> o = some r \/ r ∈ t
 | [], _, h => .inl h
 | x :: t, o, h => by
   rcases foldS_mem t _ h with g | g
   · unfold findStep at g
     split at g
     · cases g; exact .inr (by simp)
     · exact .inl g
   · exact .inr (List.mem_cons_of_mem _ g)
theorem findL_mem {t : List Rul} {a : BitVec 32} {r : Rul} (h : findL t a = some r) : r ∈ t := (foldS_mem t none h).resolve_left (by simp)
theorem step_bd {ls : List (List Rul)} (h : netMayV ls = 0) {t : List Rul} (ht : t ∈ ls) (a : BitVec 32) {x : Int} (hs : stepO t a = some x) : 0 <= x /\ x < ls.length := by
 have hm := (netMay_tabs h).2.2 t ht
 have hr := (tabG_spec ls.length t none hm).1
 unfold stepO at hs
 split at hs
 · rename_i r hf
   split at hs
   · rename_i ha
     cases hs
     have hmem : r ∈ t := findL_mem hf
     have h2 := hr r hmem
     unfold ruleMayV at h2
     split at h2
     · rename_i h3; exact absurd h2 h3
     · (try rw [if_pos ha] at h2)
       split at h2
       · cases h2
       · omega
   · cases hs
 · cases hs
end Go.Proofs.YtdpmnldmbnpfpaaGreatDoor
