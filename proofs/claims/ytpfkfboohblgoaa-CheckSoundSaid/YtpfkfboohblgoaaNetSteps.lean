/- network.steps: the nodes behind a node, one after the other. Conditions: whole numbers are within 64 bits. -/
import Derived.Test.YtpfkfboohblgoaaRangeTo
import Derived.Test.YtpfkfboohblgoaaHoldsL
import Derived.Test.YtpfkfboohblgoaaGNetP
import Derived.Deep.LoopGhost
namespace Go.Proofs.Ytpfkfboohblgoaa
open Go.RowKit Go.Shelf
attribute [local go_sem] Oper.semAt_some

/-- What the iterator reads. -/
structure StepBox (A : World) (nb ab vb : Nat) (lv : Value) (ls : List (List Rul)) (a : BitVec 32) (x : Int) : Prop where
  net : Blk A nb [lv] 24
  addr : Blk A ab [U a] 26
  node : Blk A vb [I x] 3
  tab : TablesAt A lv ls
def stR (ls : List (List Rul)) (a : BitVec 32) (x : Int) (M : Nat) (J : Nat → World → Prop) (n : Nat) (wv okv : Value) (wr : World) : Prop :=
  ∃ k : Nat, n = M - k ∧ wv = I ((stepN ls a (itv (vecV ls a) k x)).getD 0) ∧ okv = .bool (stepN ls a (itv (vecV ls a) k x)).isSome ∧ J k wr
set_option maxRecDepth 100000 in
set_option maxHeartbeats 4000000 in
theorem steps_to (lv : Value) (ls : List (List Rul)) (a : BitVec 32) (x : Int) (nb ab vb M : Nat) (hok : TablesOk ls) (hm : netMayV ls = 0) (J0 : Nat → World → Prop) (hI : ∀ k A, J0 k A → k < M ∧ StepBox A nb ab vb lv ls a x) :
    SeqTo Try.prog 117 #[.pointer (some ⟨nb, 0, none⟩), .pointer (some ⟨ab, 0, none⟩), .pointer (some ⟨vb, 0, none⟩)] (fun k => I (itv (vecV ls a) (k + 1) x)) (fun k => itv (vecV ls a) (k + 1) x = -1) J0 := by
  intro l J Jx W hJ hJe hJxe hY h0
  have HOK := Lib.hid hok
  have HM := Lib.hid hm
  have HI := Lib.hid (fun k A h => hI k A (hJ k A h))
  have HJE := Lib.hid hJe
  have HY := Lib.hid hY
  have H0 := Lib.hid h0
  clear hok hm hI hJ hJe hJxe hY h0
  obtain ⟨hlt, ⟨hb1, hb2, hb3, ht⟩⟩ := HI.out 0 W H0.out
  have HT := Lib.hid ht
  obtain ⟨ad, cap, hlv, a1, a2, a3⟩ := ht.form
  subst hlv
  clear a3 ht
  refine callsIn_of_wp Try.func117 rfl trivial ?_ rfl
  simp only [Try.ntmps117, List.size_toArray, List.length_cons, List.length_nil, Nat.reduceAdd, Nat.reduceSub, Array.replicate_succ, Array.replicate_zero, List.push_toArray, List.append_toArray, List.nil_append, List.cons_append]
  have c1 := hb1.cells
  have c2 := hb2.cells
  have c3 := hb3.cells
  clear hb1 hb2 hb3
  gi_wp2_with (refine ⟨trivial, ?_⟩; gi_at_call 28; refine (callsIn_wide.2 (netStep_any _ ls a x _ HT.out HOK.out)).mono ?_; rintro e w' ⟨he, hx⟩; subst he; have HX := Lib.hid hx; clear hx)
  have HJ0 := Lib.hid (show J 0 w' from HJE.out 0 W w' H0.out HX.out)
  clear H0 HT HX c1 c2 c3 hlt
  gi_loopw [5, 6] (fun wv okv wr => ∃ n : Nat, stR ls a x M J n wv okv wr) (fun wv okv wr => leastOf fun n => stR ls a x M J n wv okv wr)
  case atStart => exact ⟨M, 0, rfl, rfl, rfl, HJ0.out⟩
  case round =>
    have HLE := Lib.hid (leastOf_spec hrel)
    obtain ⟨k, hk, rfl, rfl, hJ⟩ := HLE.out.1
    have HJ1 := Lib.hid hJ
    have HK := Lib.hid hk
    clear hk hJ hrel
    have HKM := Lib.hid (HI.out k wr HJ1.out).1
    have HNX := Lib.hid (show nxv (vecV ls a) (itv (vecV ls a) k x) = itv (vecV ls a) (k + 1) x from (itv_out _ _ _).symm)
    rcases hs : stepN ls a (itv (vecV ls a) k x) with _ | y
    · have HE := Lib.hid (show itv (vecV ls a) (k + 1) x = -1 from HNX.out.symm.trans ((step_no HM.out).1 hs))
      simp only [hs, Option.getD_none, Option.isSome_none] at *
      clear hs HLE HK
      gi_wp2
      refine ⟨fun _ h => (by cases h), ?_⟩
      gi_wp2
      go_end0
      exact ⟨⟨_, rfl⟩, .inl ⟨k, HE.out, HJ1.out⟩⟩
    · have HY1 := Lib.hid (show itv (vecV ls a) (k + 1) x = y ∧ y ≠ -1 from let h := (step_nx HM.out).1 hs; ⟨HNX.out.symm.trans h.1, h.2⟩)
      obtain ⟨fn, tmps, assign, body, hy, hR⟩ := HY.out k wr HJ1.out (by rw [HY1.out.1]; exact HY1.out.2)
      rw [HY1.out.1] at hy
      have HS := Lib.hid hs
      simp only [hs, Option.getD_some, Option.isSome_some] at *
      gi_wp2
      refine hR.mono ?_
      rintro e W3 (⟨rfl, hJ3⟩ | ⟨rfl, hJx3⟩)
      · obtain ⟨-, ⟨hb1, hb2, hb3, ht⟩⟩ := HI.out (k + 1) W3 hJ3
        have HT3 := Lib.hid ht
        have HJ3 := Lib.hid hJ3
        have c1 := hb1.cells
        have c2 := hb2.cells
        clear hb1 hb2 hb3 ht hJ3 hR hy
        gi_wp2_with (refine ⟨trivial, ?_⟩; gi_at_call 28; refine (callsIn_wide.2 (netStep_any _ ls a y _ HT3.out HOK.out)).mono ?_; rintro e w4 ⟨he, hx⟩; subst he; have HX4 := Lib.hid hx; clear hx)
        have HS4 := Lib.hid (show stR ls a x M J (M - (k + 1)) (I ((stepN ls a y).getD 0)) (.bool (stepN ls a y).isSome) w4 from
          ⟨k + 1, rfl, by rw [HY1.out.1], by rw [HY1.out.1], HJE.out _ _ _ HJ3.out HX4.out⟩)
        go_roundw
        case rel => exact ⟨_, HS4.out⟩
        case measure =>
          have h1 := (leastOf_spec (p := fun n => stR ls a x M J n (I ((stepN ls a y).getD 0)) (.bool (stepN ls a y).isSome) w4) ⟨_, HS4.out⟩).2 _ HS4.out
          have h2 := HK.out
          have h3 := HKM.out
          rw [h2]
          omega
      · gi_wp2
        go_end0
        exact ⟨⟨_, rfl⟩, .inr hJx3⟩
end Go.Proofs.Ytpfkfboohblgoaa
