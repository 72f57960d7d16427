/- atoms.Of. Conditions: whole numbers are within 64 bits. -/
import Derived.Test.YtpfkfboohblgoaaAtomsS
import Derived.Test.YtpfkfboohblgoaaKind
import Derived.Test.YtpfkfboohblgoaaGVec
import Derived.Laws.ResultCell
import Derived.Test.YtpfkfboohblgoaaGNetP
import Derived.Test.YtpfkfboohblgoaaStepBd
namespace Go.Proofs.Ytpfkfboohblgoaa
open Go Go.RowKit Go.Maps Go.Proofs

abbrev sNil : Value := .slice none 0 0
set_option maxHeartbeats 2000000 in
set_option maxRecDepth 100000 in
theorem atomsOf_bad (lv : Value) (ls : List (List Rul)) (w : World) (hl : TablesAt w lv ls) (hok : TablesOk ls) (hs : sizeN ls ≤ 100000000) (hm : netMayV ls ≠ 0) :
    Calls Try.prog 37 #[.agg #[lv]] w fun e w' => e = .returned (.tuple #[.agg #[sNil, sNil, sNil], I (netMayV ls)]) ∧ Ext w w' := by
  have HL := Lib.hid hl
  have HOK := Lib.hid hok
  have HS := Lib.hid hs
  have HM := Lib.hid hm
  obtain ⟨ad, cap, rfl, a1, a2, a3⟩ := hl.form
  have hmd : (netMayV ls != 0) = true := by simpa using hm
  clear a3 hl hm hok hs
  unfold maxLen at a2
  go_enter Try.func37, Try.ntmps37
  go_upto_region 1 with (fail)
  refine hideW (Φ := fun W => Code.wp _ _ _ _ W) (fun W => Ext w W ∧ Blk W w.heap.size [.slice ad ls.length cap] 24 ∧ Blk W (w.heap.size + 1) [sNil, sNil, sNil] 71)
    ⟨by (repeat (first | with_reducible exact Ext.refl _ | with_reducible assumption | with_reducible refine Ext.alloc ?_ _ | with_reducible refine Ext.drew ?_ | with_reducible refine Ext.drewN ?_ _ | (with_reducible refine Ext.setCellP ?_ ?_; focus (first | (simp; done) | (simp; omega) | omega)))), (Blk.new w [.slice ad ls.length cap] 24).old _, Blk.newAt [sNil, sNil, sNil] (by simp)⟩ (fun W1 hW1 => ?_)
  obtain ⟨hx1, hb1, hr1⟩ := hW1
  have HX1 := Lib.hid hx1
  have hbc1 := hb1.cells
  have HR1 := Lib.hid hr1
  clear hr1 hx1 hb1
  have HSC := Lib.hid (show ∀ (A : World) (o : Nat) (u : Value), Ext w A → Ext w (A.setCell ⟨w.heap.size + 1, o, none⟩ u) from fun A o u h => h.setCell (by show w.heap.size ≤ w.heap.size + 1; omega) u)
  generalize w.heap.size + 1 = rb at *
  generalize w.heap.size = nb at *
  go_upto_region 2 with (first
    | (go_at_call 69; (with_reducible refine (vecNew_bad _ ls _ (HL.out.later HX1.out) HOK.out HS.out HM.out).mono ?_); rintro e w2 ⟨he, hx2⟩; subst he; have HX2 := Lib.hid (HX1.out.trans hx2); have HR2 := Lib.hid (HR1.out.later hx2); clear hx2))
  have hrc := HR2.out.cells
  have hrf := HR2.out.frozen
  generalize hmv : netMayV ls = mv at *
  have HMV := Lib.hid hmv
  clear hmv
  go_wp2_with fail
  refine hideW (Φ := fun W => bodyPost _ _ _ _ _ W) (fun W => Ext w W ∧ Blk W rb [sNil, sNil, sNil] 71)
    ⟨HSC.out _ _ _ (HSC.out _ _ _ (HSC.out _ _ _ HX2.out)), ((HR2.out.set 0 sNil).set 1 sNil).set 2 sNil⟩ (fun W3 hW3 => ?_)
  obtain ⟨hx3, hr3⟩ := hW3
  have hc3 := hr3.cells
  refine bodyPost_ret (v := .tuple #[.agg #[sNil, sNil, sNil], I mv]) (by rw [results_cell_tmp rfl]; go_simp) rfl ?_
  exact ⟨by rw [HMV.out], hx3⟩
theorem vec_VecB {ls : List (List Rul)} (h : netMayV ls = 0) (a : BitVec 32) : VecB (vecV ls a) := by
  have hl := (netMay_tabs h).1
  intro x hx
  unfold vecV at hx
  obtain ⟨t, ht, rfl⟩ := List.mem_map.1 hx
  cases hs : stepO t a with
  | none => simp
  | some y => have := step_bd h ht a hs; simp; omega
theorem own_high {w w' : World} {B : Nat} {e : TypeId} {z : Nat} {v : Value} {n : Nat} {xs : List Value} {r : Option Nat} (h : w.ownsRow B e z v n xs) {C : Nat} (hC : ∀ g, v.ownBlock = some g → g < C) (hr : ∀ g, r = some g → C ≤ g) (hg : w.grownBy w' r) : w'.ownsRow B e z v n xs :=
  own_keep h fun g hv => hg.block g (own_cells h hv).2.1 fun e => by have := hC g hv; have := hr g e.symm; omega
theorem own_ge {w : World} {B : Nat} {e : TypeId} {z : Nat} {v : Value} {n : Nat} {xs : List Value} (h : w.ownsRow B e z v n xs) : ∀ g, v.ownBlock = some g → B ≤ g := fun _ hg => (own_cells h hg).1
theorem blk_grown {w w' : World} {b : Nat} {cs : List Value} {T : TypeId} {r : Option Nat} (h : Blk w b cs T) (hr : ∀ g, r = some g → b ≠ g) (hg : w.grownBy w' r) : Blk w' b cs T := by
  have hb := hg.block b h.lt (fun e => hr b e.symm rfl)
  unfold Blk
  rw [hb]; exact h
/-- A map stays while rows grow and cells of other blocks are set. -/
theorem mapV_keep {w w' : World} {mb : Nat} {vs : List (List Int)} (h : MapV w mb vs) (hs : w'.heap[mb]? = w.heap[mb]?) : MapV w' mb vs := by
  obtain ⟨n, D, ⟨es, clock, hb, r⟩, h2, h3⟩ := h
  exact ⟨n, D, ⟨es, clock, by rw [hs]; exact hb, r⟩, h2, h3⟩
theorem mapV_lt {w : World} {mb : Nat} {vs : List (List Int)} (h : MapV w mb vs) : mb < w.heap.size := by
  obtain ⟨n, D, ⟨es, clock, hb, r⟩, h2, h3⟩ := h
  rcases Nat.lt_or_ge mb w.heap.size with h' | h'
  · exact h'
  · rw [Array.getElem?_eq_none h'] at hb; cases hb
theorem mapV_later {w w' : World} {mb : Nat} {vs : List (List Int)} (h : MapV w mb vs) (hx : Ext w w') : MapV w' mb vs := mapV_keep h (Below.block hx mb (mapV_lt h))
theorem mapV_grown {w w' : World} {mb : Nat} {vs : List (List Int)} {r : Option Nat} (h : MapV w mb vs) (hr : ∀ g, r = some g → mb < g) (hg : w.grownBy w' r) : MapV w' mb vs :=
  mapV_keep h (hg.block mb (mapV_lt h) fun e => by have := hr mb e.symm; omega)
theorem mapV_set {w : World} {mb : Nat} {vs : List (List Int)} (h : MapV w mb vs) {p : Addr} (hp : p.block ≠ mb) (x : Value) : MapV (w.setCell p x) mb vs := mapV_keep h (by
  have := grown_set w p x
  exact this.block mb (mapV_lt h) (fun e => hp (Option.some.inj e).symm))
theorem own_form {w : World} {B : Nat} {e : TypeId} {z : Nat} {v : Value} {n : Nat} {xs : List Value} (h : w.ownsRow B e z v n xs) : ∃ a c, v = .slice a n c := by
  rcases h.2 with ⟨rfl, rfl⟩ | ⟨g, cap, cur, rfl, _⟩
  · exact ⟨none, 0, rfl⟩
  · exact ⟨_, _, rfl⟩
end Go.Proofs.Ytpfkfboohblgoaa
