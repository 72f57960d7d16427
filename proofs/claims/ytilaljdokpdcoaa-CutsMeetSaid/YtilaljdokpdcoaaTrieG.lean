/- A trie is built of rules. Conditions: whole numbers are within 64 bits; a million rules at most. -/
import Derived.Test.YtilaljdokpdcoaaTrieF
namespace Go.Proofs.Ytilaljdokpdcoaa
open Go.RowKit

def putOk (t : T) (r : Rul) : T := if mayV r.pa r.pl = 0 then putT r.pa r.pl r t else t
def buildT (l : List Rul) : T := l.foldl putOk .nil
theorem buildT_step (l : List Rul) (k : Nat) (h : k < l.length) : buildT (l.take (k + 1)) = putOk (buildT (l.take k)) l[k] := by
  unfold buildT
  rw [List.take_succ_eq_append_getElem h, List.foldl_append]; rfl
theorem put_size (pa : BitVec 32) (n : Int) (r : Rul) : ∀ t : T, (putT pa n r t).size ≤ t.size + 2
  | .nil => by unfold putT; simp [hangT, T.size]
  | .node qa qn qr qi l k => by
    have h1 := put_size pa n r l
    have h2 := put_size pa n r k
    have h3 := hang_size pa n r (.node qa qn qr qi l k)
    have h4 : hangK pa n (.node qa qn qr qi l k) ≤ 2 := by unfold hangK; split <;> omega
    unfold putT
    split
    · split
      · split <;> simp only [T.size] <;> omega
      · split <;> simp only [T.size] <;> omega
    · omega
theorem build_size (l : List Rul) (t : T) : (l.foldl putOk t).size ≤ t.size + 2 * l.length := by
  induction l generalizing t with
  | nil => simp
  | cons r l ih =>
    have h1 := ih (putOk t r)
    have h2 : (putOk t r).size ≤ t.size + 2 := by unfold putOk; split; exact put_size _ _ _ _; omega
    simp only [List.foldl_cons, List.length_cons]
    omega
theorem mayV_valid {a : BitVec 32} {n : Int} (h : mayV a n = 0) : Valid a n := by
  unfold mayV at h
  split at h
  · cases h
  · split at h
    · rename_i h1 h2
      refine ⟨by omega, by omega, ?_⟩
      apply BitVec.eq_of_getLsbD_eq
      intro i hi
      have := congrArg (fun x : BitVec 32 => x.getLsbD i) h2
      simp only [BitVec.getLsbD_and, BitVec.getLsbD_not, BitVec.getLsbD_zero] at this ⊢
      cases e : a.getLsbD i <;> cases e2 : (maskV n).getLsbD i <;> simp_all
    · cases h

set_option maxHeartbeats 2000000 in
theorem trieBuild_any (lv : Value) (l : List Rul) (w : World) (hl : RulesAt w lv l) (hok : RulesOk l) (hs : l.length ≤ 1000000) :
    Calls Try.prog 47 #[lv] w fun e w' => ∃ tb v bs, e = .returned (.pointer (some ⟨tb, 0, none⟩)) ∧ TrieAt w' w.heap.size tb (buildT l) v bs ∧ Ext w w' := by
  obtain ⟨ad, cap, rfl, a1, a2, a3⟩ := hl.form
  have A3 := Lib.hid a3
  clear a3
  unfold maxLen at a2
  go_enter Try.func47, Try.ntmps47
  go_wp2_with fail
  go_loopw [10] (fun i wr => ∃ (k : Nat) (v : Value) (bs : List Nat), k ≤ l.length ∧ i = I k ∧ Hid (TrieAt wr w.heap.size w.heap.size (buildT (l.take k)) v bs) ∧ Ext w wr) (fun i _ => l.length - (intOf i).toNat)
  case atStart =>
    refine ⟨0, .pointer none, [], by omega, rfl, ⟨Blk.newAt [Value.pointer none, I 0] rfl, ⟨rfl, rfl⟩, by simp, fun q hq => ?_, trivial⟩, by (repeat (first | with_reducible exact Ext.refl _ | with_reducible assumption | with_reducible refine Ext.alloc ?_ _ | with_reducible refine Ext.drew ?_ | with_reducible refine Ext.drewN ?_ _ | (with_reducible refine Ext.setCellP ?_ ?_; focus (first | (simp; done) | (simp; omega) | omega))))⟩
    simp at hq; omega
  case round =>
    obtain ⟨k, v, bs, hk, rfl, HT, hx⟩ := hrel
    by_cases hlt : k < l.length
    · obtain ⟨b0, o0, rfl, p0, p1, p2, p3⟩ := A3.out k l[k] (List.getElem?_eq_getElem hlt)
      replace p0 := hx.cell p0
      replace p1 := hx.cell p1
      replace p2 := hx.cell p2
      replace p3 := hx.cell p3
      have hok1 := Lib.hid (hok l[k] (List.getElem_mem hlt))
      have hst := Lib.hid (buildT_step l k hlt)
      have hsz := hx.size
      have HZ := Lib.hid (show (buildT (l.take k)).size ≤ 1000000000000000 by
        have := build_size (l.take k) .nil
        simp only [T.size, List.length_take] at this
        show (List.foldl putOk .nil (l.take k)).size ≤ _
        omega)
      by_cases hm : mayV l[k].pa l[k].pl = 0
      · have hmd : (mayV l[k].pa l[k].pl == 0) = true := by simpa using hm
        have HM := Lib.hid hm
        clear hm
        go_wp2_with (first
          | (go_at_call 62; refine (may_any _ _ _ hok1.out.pl).mono ?_; rintro e w' ⟨rfl, rfl⟩)
          | (go_at_call 63; refine (triePut_any _ w.heap.size w.heap.size (buildT (l.take k)) v bs l[k] (HT.out.later (w' := wr.alloc _) (by (repeat (first | with_reducible exact Ext.refl _ | with_reducible assumption | with_reducible refine Ext.alloc ?_ _ | with_reducible refine Ext.drew ?_ | with_reducible refine Ext.drewN ?_ _ | (with_reducible refine Ext.setCellP ?_ ?_; focus (first | (simp; done) | (simp; omega) | omega)))))) (mayV_valid HM.out) HZ.out).mono ?_; rintro e w2 ⟨rfl, v2, bs2, ht2, hb2⟩; have HT2 := Lib.hid ht2; have HB2 := Lib.hid hb2; clear ht2 hb2))
        go_roundw
        case rel =>
          refine ⟨k + 1, v2, bs2, by omega, by go_num, ?_, Below.trans (hx.alloc _) HB2.out⟩
          show TrieAt _ _ _ _ _ _
          rw [hst.out, putOk, if_pos HM.out]
          exact HT2.out
        case measure => simp [intOf]; omega
      · have hmd : (mayV l[k].pa l[k].pl == 0) = false := by simpa using hm
        have HM := Lib.hid hm
        clear hm
        go_wp2_with (first
          | (go_at_call 62; refine (may_any _ _ _ hok1.out.pl).mono ?_; rintro e w' ⟨rfl, rfl⟩))
        go_roundw
        case rel =>
          refine ⟨k + 1, v, bs, by omega, by go_num, ?_, hx.trans (by (repeat (first | with_reducible exact Ext.refl _ | with_reducible assumption | with_reducible refine Ext.alloc ?_ _ | with_reducible refine Ext.drew ?_ | with_reducible refine Ext.drewN ?_ _ | (with_reducible refine Ext.setCellP ?_ ?_; focus (first | (simp; done) | (simp; omega) | omega)))))⟩
          show TrieAt _ _ _ _ _ _
          rw [hst.out, putOk, if_neg HM.out]
          exact HT.out.later (by (repeat (first | with_reducible exact Ext.refl _ | with_reducible assumption | with_reducible refine Ext.alloc ?_ _ | with_reducible refine Ext.drew ?_ | with_reducible refine Ext.drewN ?_ _ | (with_reducible refine Ext.setCellP ?_ ?_; focus (first | (simp; done) | (simp; omega) | omega)))))
        case measure => simp [intOf]; omega
    · have hn := Lib.hid (show buildT (l.take k) = buildT l by rw [List.take_of_length_le (by omega)])
      go_wp2
      go_ret
      exact ⟨_, v, bs, rfl, by rw [← hn.out]; exact HT.out, hx⟩
end Go.Proofs.Ytilaljdokpdcoaa
