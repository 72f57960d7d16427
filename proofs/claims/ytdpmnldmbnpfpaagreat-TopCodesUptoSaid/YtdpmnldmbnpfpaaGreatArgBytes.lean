/- Bytes that came in as an argument. Conditions: none. -/
import Derived.Test.YtdpmnldmbnpfpaaGreatGArg
import Derived.Test.YtdpmnldmbnpfpaaGreatGByt
namespace Go.Proofs.YtdpmnldmbnpfpaaGreat
open Go.ChangeShapes Go.WideShapes Go.ChangeAt Go.RowKit

theorem byt_wf {x : Int} (h : (Lit.int .u8 x).wf = true) : yv (byt x.toNat) = x := by
 have h1 : IntKind.u8.min = 0 := rfl
 have h2 : IntKind.u8.max = 255 := rfl
 simp only [Lit.wf, Bool.and_eq_true, decide_eq_true_eq] at h
 rw [yv_byt]
 omega
set_option maxHeartbeats 1000000 in
set_option maxRecDepth 100000 in
/-- An argument of type []byte reads as bytes. -/
theorem open_bytes {H : Type} {enc : TypeId × Value -> H} {w : World} {held : Bool} {v : Value} {d : DataW H} {p : List MemPlace} {r : Reach} {b0 : Nat} (hval : Value.okWide Tryz.prog w r b0 29 v) (h : DataW.Trod enc Tryz.prog w 0 (fun _ => true) held 29 v d p) : ∃ l : List Byt, BsAt w v l := by
 obtain ⟨a0, len, cap, rfl⟩ := okWide_slice Tryz.underlying29 hval
 obtain ⟨fuel, hf⟩ := h
 obtain ⟨u, l, hc, h1, h2⟩ := trod_nums Tryz.underlying29 Tryz.underlying5 (by kernel_rfl) hf
 simp [Value.cells] at hc
 subst hc
 refine ⟨l.map fun x => byt x.toNat, ?_⟩
 have e : ycells (l.map fun x => byt x.toNat) = l.map (.int .u8) := by
  unfold ycells
  rw [List.map_map]
  refine List.map_congr_left fun x hx => ?_
  show Value.int .u8 (yv (byt x.toNat)) = _
  rw [byt_wf (h2 x hx)]
 unfold BsAt
 rw [List.length_map, e]
 exact h1
end Go.Proofs.YtdpmnldmbnpfpaaGreat
