/- theseusref16.Of. Conditions: whole numbers are within 64 bits. -/
import Derived.Test.YtamlalablblfeaaAtomsOfG
import Derived.Test.YtamlalablblfeaaR16P
import Derived.Test.YtamlalablblfeaaInside
namespace Go.Proofs.Ytamlalablblfeaa
open Go Go.RowKit Go.Maps Go.Proofs

set_option maxHeartbeats 2000000 in
set_option maxRecDepth 100000 in
theorem r16Of_bad (lv : Value) (ls : List (List Rul)) (w : World) (hl : TablesAt w lv ls) (hok : TablesOk ls) (hs : sizeN ls ≤ 100000000) (hm : netMayV ls ≠ 0) :
    Calls Try.prog 24 #[.agg #[lv]] w fun e w' => e = .returned (.tuple #[.agg #[sNil, sNil, sNil], I (netMayV ls)]) ∧ Ext w w' := by
  have HL := Lib.hid hl
  have HOK := Lib.hid hok
  have HS := Lib.hid hs
  have HM := Lib.hid hm
  obtain ⟨ad, cap, rfl, a1, a2, a3⟩ := hl.form
  have hmd : (netMayV ls != 0) = true := by simpa using hm
  clear a3 hl hm hok hs
  unfold maxLen at a2
  go_enter Try.func24, Try.ntmps24
  go_upto_region 1 with (fail)
  refine hideW (Φ := fun W => Code.wp _ _ _ _ W) (fun W => Ext w W ∧ Blk W w.heap.size [.slice ad ls.length cap] 24 ∧ Blk W (w.heap.size + 1) [sNil, sNil, sNil] 35)
    ⟨by (repeat (first | with_reducible exact Ext.refl _ | with_reducible assumption | with_reducible refine Ext.alloc ?_ _ | with_reducible refine Ext.drew ?_ | with_reducible refine Ext.drewN ?_ _ | (with_reducible refine Ext.setCellP ?_ ?_; focus (first | (simp; done) | (simp; omega) | omega)))), (Blk.new w [.slice ad ls.length cap] 24).old _, Blk.newAt [sNil, sNil, sNil] (by simp)⟩ (fun W1 hW1 => ?_)
  obtain ⟨hx1, hb1, hr1⟩ := hW1
  have HX1 := Lib.hid hx1
  have hbc1 := hb1.cells
  have HR1 := Lib.hid hr1
  clear hr1 hx1 hb1
  have HSC := Lib.hid (show ∀ (A : World) (o : Nat) (u : Value), Ext w A → Ext w (A.setCell ⟨w.heap.size + 1, o, none⟩ u) from fun A o u h => h.setCell (by show w.heap.size ≤ w.heap.size + 1; omega) u)
  generalize w.heap.size + 1 = rb at *
  generalize w.heap.size = nb at *
  go_upto_region 2 with (first
    | (go_at_call 61; (with_reducible refine (r09May_any _ ls _ (HL.out.later HX1.out) HOK.out HS.out).mono ?_); rintro e w2 ⟨he, hx2⟩; subst he; have HX2 := Lib.hid (HX1.out.trans hx2); have HR2 := Lib.hid (HR1.out.later hx2); clear hx2))
  have hrc := HR2.out.cells
  have hrf := HR2.out.frozen
  generalize hmv : netMayV ls = mv at *
  have HMV := Lib.hid hmv
  clear hmv
  go_wp2_with fail
  refine hideW (Φ := fun W => bodyPost _ _ _ _ _ W) (fun W => Ext w W ∧ Blk W rb [sNil, sNil, sNil] 35)
    ⟨HSC.out _ _ _ (HSC.out _ _ _ (HSC.out _ _ _ HX2.out)), ((HR2.out.set 0 sNil).set 1 sNil).set 2 sNil⟩ (fun W3 hW3 => ?_)
  obtain ⟨hx3, hr3⟩ := hW3
  have hc3 := hr3.cells
  refine bodyPost_ret (v := .tuple #[.agg #[sNil, sNil, sNil], I mv]) (by rw [results_cell_tmp rfl]; go_simp) rfl ?_
  exact ⟨by rw [HMV.out], hx3⟩
/-- What holds in a round of the reference's: the atoms so far in their box; all else below B as it was. -/
structure RnR (w2 w4 : World) (xb B : Nat) (s : Ats) (fv hv vv : Value) (w : World) : Prop where
  ats : AtS w B s fv hv vv
  box : Blk w xb [fv, hv, vv] 35
  low : xb < B
  x2 : w2.heap.size ≤ xb
  ext : Ext w2 w
  sz : B ≤ w.heap.size
  same : ∀ b, b < B → b ≠ xb → w.heap[b]? = w4.heap[b]?
theorem RnR.later {w2 w4 w w' : World} {xb B : Nat} {fv hv vv : Value} {s : Ats} (h : RnR w2 w4 xb B s fv hv vv w) (hx : Ext w w') : RnR w2 w4 xb B s fv hv vv w' :=
  ⟨h.ats.later hx, h.box.later hx, h.low, h.x2, h.ext.trans hx, Nat.le_trans h.sz hx.size, fun b hb hne => by have := h.sz; rw [Below.block hx b (by omega)]; exact h.same b hb hne⟩
theorem RnR.cell {w2 w4 w : World} {xb B : Nat} {fv hv vv : Value} {s : Ats} (h : RnR w2 w4 xb B s fv hv vv w) {p : Addr} {v : Value} (hp : p.block < B) (hne : p.block ≠ xb) (hc : w4.cell? p = some v) : w.cell? p = some v := by
  rw [World.cell?_of_block (h.same p.block hp hne)]; exact hc
theorem RnR.stored {w2 w4 w w' : World} {xb B : Nat} {fv hv vv fv' hv' vv' x : Value} {s s' : Ats} {r : Option Nat} {j : Nat} (h : RnR w2 w4 xb B s fv hv vv w)
    (hg : w.grownBy w' r) (hr : ∀ g, r = some g → B ≤ g) (ha : AtS w' B s' fv' hv' vv') (hb : [fv, hv, vv].set j x = [fv', hv', vv']) : RnR w2 w4 xb B s' fv' hv' vv' (w'.setCell ⟨xb, j, none⟩ x) := by
  have hl := h.low
  have h2 := h.x2
  have hz := h.sz
  refine ⟨ha.setCell h.low x, ?_, hl, h2, (Below.grown h.ext hg h.ext.size (fun g e => by have := hr g e; omega)).setCell h2 x, by have := hg.size; simp; omega, fun b hb' hne => ?_⟩
  · rw [← hb]
    exact (blk_grown h.box (fun g e => by have := hr g e; omega) hg).set j x
  · rw [(grown_set w' ⟨xb, j, none⟩ x).block b (by have := hg.size; omega) (fun e => hne (Option.some.inj e)), hg.block b (by omega) (fun e => by have := hr b e.symm; omega)]
    exact h.same b hb' hne
theorem RnR.addFr {w2 w4 w w' : World} {xb B : Nat} {fv hv vv v' : Value} {s : Ats} {a : BitVec 32} (h : RnR w2 w4 xb B s fv hv vv w)
    (ho : w'.ownsRow B 44 1 v' (s.fr.length + 1) (ucells s.fr ++ [U a])) (hg : w.grownBy w' fv.ownBlock) : RnR w2 w4 xb B ⟨s.fr ++ [a], s.wh, s.vs⟩ v' hv vv (w'.setCell ⟨xb, 0, none⟩ v') :=
  h.stored hg (own_ge h.ats.fr) (h.ats.addFr ho hg) rfl
theorem RnR.addWh {w2 w4 w w' : World} {xb B : Nat} {fv hv vv v' : Value} {s : Ats} {k : Int} (h : RnR w2 w4 xb B s fv hv vv w)
    (ho : w'.ownsRow B 3 1 v' (s.wh.length + 1) (icells s.wh ++ [I k])) (hg : w.grownBy w' hv.ownBlock) (hloc : v'.ownBlock = hv.ownBlock ∨ v'.ownBlock = some w.heap.size) :
    RnR w2 w4 xb B ⟨s.fr, s.wh ++ [k], s.vs⟩ fv v' vv (w'.setCell ⟨xb, 1, none⟩ v') :=
  h.stored hg (own_ge h.ats.wh) (h.ats.addWh ho hg hloc) rfl
theorem RnR.addVs {w2 w4 w w' : World} {xb B : Nat} {fv hv vv v' y : Value} {s : Ats} {u : List Int} {vals : List Value} (h : RnR w2 w4 xb B s fv hv vv w)
    (hy : OwnI w B y u) (hfar : ∀ g, hv.ownBlock = some g → y.ownBlock ≠ some g) (h1 : w.ownsRow B 27 1 vv s.vs.length vals)
    (h2 : ∀ (i : Nat) (m : List Int), s.vs[i]? = some m → ∃ x, vals[i]? = some x ∧ OwnI w B x m ∧ ∀ g, hv.ownBlock = some g → x.ownBlock ≠ some g)
    (ho : w'.ownsRow B 27 1 v' (s.vs.length + 1) (vals ++ [y])) (hg : w.grownBy w' vv.ownBlock) : RnR w2 w4 xb B ⟨s.fr, s.wh, s.vs ++ [u]⟩ fv hv v' (w'.setCell ⟨xb, 2, none⟩ v') :=
  h.stored hg (own_ge h1) (AtS.addVs' h.ats hy hfar h1 h2 ho hg) rfl
/-- The cuts' cells are not in the box. -/
theorem box_apart {w : World} {xb b o : Nat} {x y z : Value} {T : TypeId} {c : BitVec 32} (h : Blk w xb [x, y, z] T) (hx : ∃ p n q, x = .slice p n q) (hy : ∃ p n q, y = .slice p n q) (hz : ∃ p n q, z = .slice p n q) (hc : w.cell? ⟨b, o, none⟩ = some (U c)) : b ≠ xb := by
  rintro rfl
  obtain ⟨_, _, _, rfl⟩ := hx
  obtain ⟨_, _, _, rfl⟩ := hy
  obtain ⟨_, _, _, rfl⟩ := hz
  rw [h.cells o] at hc
  match o, hc with
  | 0, hc => cases hc
  | 1, hc => cases hc
  | 2, hc => cases hc
  | n + 3, hc => cases hc
end Go.Proofs.Ytamlalablblfeaa
