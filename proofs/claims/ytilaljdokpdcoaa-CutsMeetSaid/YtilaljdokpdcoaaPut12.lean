/- Numbers made cuts: rising, with 0 (the reference's put and Fit). Conditions: none. -/
import Derived.Test.YtilaljdokpdcoaaCuts12
import Derived.Test.YtilaljdokpdcoaaCutsL
namespace Go.Proofs.Ytilaljdokpdcoaa
open Go.RowKit

def ltA (a : BitVec 32) (x : BitVec 32) : Bool := decide (uv x < uv a)
def putK (l : List (BitVec 32)) (a : BitVec 32) : Nat := (l.takeWhile (ltA a)).length
def putC (l : List (BitVec 32)) (a : BitVec 32) : List (BitVec 32) := if l[putK l a]? = some a then l else l.take (putK l a) ++ a :: l.drop (putK l a)
def fitC (l : List (BitVec 32)) : List (BitVec 32) := (l.take 30).foldl putC [0#32]
theorem putK_le (l : List (BitVec 32)) (a : BitVec 32) : putK l a ≤ l.length := (List.takeWhile_sublist _).length_le
theorem putK_lt {l : List (BitVec 32)} {a : BitVec 32} {j : Nat} (h : j < putK l a) (h' : j < l.length) : uv l[j] < uv a := by simpa [ltA] using tw_lt (ltA a) l j h h'
theorem putK_end {l : List (BitVec 32)} {a : BitVec 32} (h : putK l a < l.length) : ¬ uv l[putK l a] < uv a := by
  have := tw_end (ltA a) l h
  simp only [ltA, decide_eq_false_iff_not] at this
  exact this
theorem putC_mem (l : List (BitVec 32)) (a c : BitVec 32) : c ∈ putC l a ↔ c ∈ l ∨ c = a := by
  unfold putC
  split
  · rename_i h
    constructor
    · exact .inl
    · rintro (h1 | rfl)
      · exact h1
      · obtain ⟨hl, he⟩ := List.getElem?_eq_some_iff.1 h
        rw [← he]; exact List.getElem_mem hl
  · rw [List.mem_append, List.mem_cons]
    have : c ∈ l ↔ c ∈ l.take (putK l a) ∨ c ∈ l.drop (putK l a) := by rw [← List.mem_append, List.take_append_drop]
    rw [this]
    constructor
    · rintro (h | h | h)
      · exact .inl (.inl h)
      · exact .inr h
      · exact .inl (.inr h)
    · rintro ((h | h) | h)
      · exact .inl h
      · exact .inr (.inr h)
      · exact .inr (.inl h)
theorem putC_rising {l : List (BitVec 32)} (hr : Rising l) (a : BitVec 32) : Rising (putC l a) := by
  unfold putC
  split
  · exact hr
  · rename_i h
    have hk := putK_le l a
    unfold Rising
    rw [List.pairwise_append, List.pairwise_cons]
    have hlo : ∀ c ∈ l.take (putK l a), uv c < uv a := fun c hc => by
      obtain ⟨j, hj, rfl⟩ := List.getElem_of_mem hc
      rw [List.getElem_take]
      rw [List.length_take] at hj
      exact putK_lt (by omega) (by omega)
    have hhi : ∀ c ∈ l.drop (putK l a), uv a < uv c := fun c hc => by
      obtain ⟨j, hj, rfl⟩ := List.getElem_of_mem hc
      rw [List.length_drop] at hj
      rw [List.getElem_drop]
      have h1 := putK_end (l := l) (a := a) (by omega)
      have h2 := hr.le (show putK l a ≤ putK l a + j by omega) (by omega)
      have h3 : uv l[putK l a] ≠ uv a := fun e => h (List.getElem?_eq_some_iff.2 ⟨by omega, uv_inj e⟩)
      omega
    refine ⟨hr.sublist (List.take_sublist _ _), ⟨hhi, hr.sublist (List.drop_sublist _ _)⟩, fun c hc d hd => ?_⟩
    have h1 := hlo c hc
    rcases List.mem_cons.1 hd with rfl | hd
    · exact h1
    · have := hhi d hd; omega
theorem putC_len (l : List (BitVec 32)) (a : BitVec 32) : (putC l a).length ≤ l.length + 1 := by
  have := putK_le l a
  unfold putC
  split
  · omega
  · simp; omega
theorem fold_put : ∀ (xs : List (BitVec 32)) (l : List (BitVec 32)), Rising l → 0#32 ∈ l → Rising (xs.foldl putC l) ∧ 0#32 ∈ xs.foldl putC l ∧ (xs.foldl putC l).length ≤ l.length + xs.length
  | [], l, h, h0 => ⟨h, h0, Nat.le_refl _⟩
  | x :: xs, l, h, h0 => by
    have := fold_put xs (putC l x) (putC_rising h x) ((putC_mem l x _).2 (.inl h0))
    have h2 := putC_len l x
    simp only [List.foldl_cons, List.length_cons]
    exact ⟨this.1, this.2.1, by omega⟩
theorem fitC_ok (l : List (BitVec 32)) : Rising (fitC l) ∧ 0#32 ∈ fitC l ∧ (fitC l).length ≤ 31 := by
  have := fold_put (l.take 30) [0#32] (by simp [Rising]) (by simp)
  refine ⟨this.1, this.2.1, ?_⟩
  have h := this.2.2
  rw [List.length_take] at h
  unfold fitC
  simp at h
  omega
theorem fitC_step (l : List (BitVec 32)) (k : Nat) (h : k < l.length) (h2 : k < 30) : fitC (l.take (k + 1)) = putC (fitC (l.take k)) l[k] := by
  unfold fitC
  rw [List.take_of_length_le (i := 30) (by rw [List.length_take]; omega), List.take_of_length_le (i := 30) (by rw [List.length_take]; omega), List.take_succ_eq_append_getElem h, List.foldl_append]
  rfl
set_option maxHeartbeats 2000000 in
set_option maxRecDepth 100000 in
theorem r12Put_any (lv : Value) (l : List (BitVec 32)) (a : BitVec 32) (w : World) (hl : UsAt w lv l) (hlen : l.length ≤ 100000000) :
    Calls Try.prog 56 #[lv, U a] w fun e w' => ∃ v, e = .returned v ∧ UsAt w' v (putC l a) ∧ Ext w w' := by
  have HL := Lib.hid hl
  obtain ⟨ad, cap, rfl, a1, a2, a3⟩ := hl.form
  have A3 := Lib.hid a3
  clear a3 hl
  unfold maxLen at a2
  have hle := putK_le l a
  go_enter Try.func56, Try.ntmps56
  go_wp2_with fail
  go_loopw [5] (fun i wr => ∃ k : Nat, k ≤ putK l a ∧ i = I k ∧ wr = w) (fun i _ => l.length - (intOf i).toNat)
  case atStart => exact ⟨0, by omega, rfl, rfl⟩
  case round =>
    obtain ⟨k, hk, rfl, rfl⟩ := hrel
    rcases Nat.lt_or_ge k (putK l a) with hkk | hkk
    · have hlt : k < l.length := by omega
      obtain ⟨b0, o0, rfl, p0⟩ := A3.out k l[k] (List.getElem?_eq_getElem hlt)
      have hd : decide (uv l[k] < uv a) = true := decide_eq_true (putK_lt hkk hlt)
      go_wp2_with fail
      go_roundw
      case rel => exact ⟨k + 1, by omega, by go_num, by trivial⟩
      case measure => simp [intOf]; omega
    · have hke : k = putK l a := by omega
      subst hke
      by_cases he : l[putK l a]? = some a
      · obtain ⟨hlt, he2⟩ := List.getElem?_eq_some_iff.1 he
        obtain ⟨b0, o0, rfl, p0⟩ := A3.out (putK l a) a he
        have HP := Lib.hid (show putC l a = l by unfold putC; rw [if_pos he])
        have hd : decide (uv a < uv a) = false := decide_eq_false (by omega)
        generalize putK l a = k at *
        go_wp2_with fail
        go_ret
        exact ⟨_, rfl, by rw [HP.out]; exact HL.out, Ext.refl _⟩
      · have HP := Lib.hid (show putC l a = l.take (putK l a) ++ a :: l.drop (putK l a) by unfold putC; rw [if_neg he])
        have hst : (∃ (x : BitVec 32), putK l a < l.length ∧ l[putK l a]? = some x ∧ ¬ uv x < uv a ∧ x ≠ a) ∨ ¬ putK l a < l.length := by
          rcases Nat.lt_or_ge (putK l a) l.length with h | h
          · exact .inl ⟨_, h, List.getElem?_eq_getElem h, putK_end h, fun e => he (by rw [List.getElem?_eq_getElem h, e])⟩
          · exact .inr (by omega)
        have HPC := Lib.hid (putK_le l a)
        clear he
        generalize putK l a = k at *
        have hxw : Ext wr wr := Ext.refl _
        rcases hst with ⟨x, hlt, hx, hn, hne⟩ | hlt
        · obtain ⟨b0, o0, rfl, p0⟩ := A3.out k x hx
          have hd : decide (uv x < uv a) = false := decide_eq_false hn
          have hd2 : (x == a) = false := by rw [beq_eq_false_iff_ne]; exact hne
          clear hx hn hne
          have ho5 := own_made wr 1 25 1 [U a] rfl (by unfold maxLen; omega)
          have hr5 : UsAt (wr.alloc (.cells #[U a] 25)) (slv 1 (.slice (some ⟨b0, o0, none⟩) l.length cap) k l.length) (l.drop k) := by
            have := (HL.out.piece HPC.out (Nat.le_refl _)).later ((Ext.refl wr).alloc (.cells #[U a] 25))
            rwa [List.take_of_length_le (Nat.le_refl _)] at this
          have hld : (l.drop k).length = l.length - k := List.length_drop
          have hz5 : wr.heap.size ≤ (wr.alloc (.cells #[U a] 25)).heap.size := ((Ext.refl wr).alloc _).size
          go_upto_region 7 with (first
            | (refine wpList_of_run rfl (run_slice_from (o := ⟨some 38, _, _, _, _, _⟩) rfl Try.underlying48 sizeU32 rfl rfl HPC.out) ?_)
            | (at_builtin; refine wpList_app rfl (.tmp 35) (.tmp 38) 48 rfl wr.heap.size 25 _ 1 4 Try.underlying48 infoU32 rfl (by decide) (by decide) _ _ _ rfl ho5 _ _ _ rfl hr5 (ucells_one _) (by rw [hld]; have := HPC.out; omega) hz5 ?_; intro v6 w6 ho6 hg6))
          have hx6 : Ext wr w6 := Ext.grown ((Ext.refl wr).alloc _) hg6 ho5 (Nat.le_refl _)
          have hr6 : UsAt w6 v6 (a :: l.drop k) := by
            have := Reads.of_own ho6
            rwa [show [U a] ++ ucells (l.drop k) = ucells (a :: l.drop k) from rfl, Nat.add_comm] at this
          have hv6 := HL.out.later hx6
          have hq6 : UsAt (w6.alloc (.cells #[] 25)) (slv 1 (.slice (some ⟨b0, o0, none⟩) l.length cap) 0 k) (l.take k) := (hv6.piece (Nat.zero_le _) HPC.out).later ((Ext.refl _).alloc _)
          have ho7 := own_made w6 1 25 0 [] rfl (by unfold maxLen; omega)
          have hlt6 : k ≤ cap := by omega
          have HL6 := Lib.hid (show (l.take k).length = k by rw [List.length_take]; omega)
          clear ho5 hr5 hz5 ho6 hg6 hv6
          go_wp2_with (first
            | (refine wpList_of_run rfl (run_slice_to (o := ⟨some 43, _, _, _, _, _⟩) rfl Try.underlying48 sizeU32 rfl rfl hlt6) ?_)
            | (at_builtin; refine wpList_app rfl (.tmp 40) (.tmp 43) 48 rfl w6.heap.size 25 _ 1 4 Try.underlying48 infoU32 rfl (by decide) (by decide) _ _ _ rfl ho7 _ _ _ rfl hq6 (ucells_one _) (by rw [HL6.out]; omega) ((Ext.refl w6).alloc _).size ?_; intro v7 w7 ho8 hg7
               have hx7 : Ext w6 w7 := Ext.grown ((Ext.refl w6).alloc _) hg7 ho7 (Nat.le_refl _)
               have hr7 := hr6.later hx7)
            | (at_builtin; refine wpList_app rfl (.tmp 44) (.tmp 45) 48 rfl w6.heap.size 25 _ 1 4 Try.underlying48 infoU32 rfl (by decide) (by decide) _ _ _ rfl ho8 _ _ _ rfl hr7 (ucells_one _) (by rw [HL6.out, List.length_cons, hld]; omega) hx7.size ?_; intro v8 w8 ho9 hg8))
          go_ret
          have hx8 : Ext w6 w8 := Ext.grown hx7 hg8 ho8 (Nat.le_refl _)
          refine ⟨v8, rfl, ?_, hx6.trans hx8⟩
          have := Reads.of_own ho9
          unfold UsAt
          rw [HP.out, List.length_append, ucells_app]
          simpa using this
        · have ho5 := own_made wr 1 25 1 [U a] rfl (by unfold maxLen; omega)
          have hr5 : UsAt (wr.alloc (.cells #[U a] 25)) (slv 1 (.slice ad l.length cap) k l.length) (l.drop k) := by
            have := (HL.out.piece HPC.out (Nat.le_refl _)).later ((Ext.refl wr).alloc (.cells #[U a] 25))
            rwa [List.take_of_length_le (Nat.le_refl _)] at this
          have hld : (l.drop k).length = l.length - k := List.length_drop
          have hz5 : wr.heap.size ≤ (wr.alloc (.cells #[U a] 25)).heap.size := ((Ext.refl wr).alloc _).size
          go_upto_region 7 with (first
            | (refine wpList_of_run rfl (run_slice_from (o := ⟨some 38, _, _, _, _, _⟩) rfl Try.underlying48 sizeU32 rfl rfl HPC.out) ?_)
            | (at_builtin; refine wpList_app rfl (.tmp 35) (.tmp 38) 48 rfl wr.heap.size 25 _ 1 4 Try.underlying48 infoU32 rfl (by decide) (by decide) _ _ _ rfl ho5 _ _ _ rfl hr5 (ucells_one _) (by rw [hld]; have := HPC.out; omega) hz5 ?_; intro v6 w6 ho6 hg6))
          have hx6 : Ext wr w6 := Ext.grown ((Ext.refl wr).alloc _) hg6 ho5 (Nat.le_refl _)
          have hr6 : UsAt w6 v6 (a :: l.drop k) := by
            have := Reads.of_own ho6
            rwa [show [U a] ++ ucells (l.drop k) = ucells (a :: l.drop k) from rfl, Nat.add_comm] at this
          have hv6 := HL.out.later hx6
          have hq6 : UsAt (w6.alloc (.cells #[] 25)) (slv 1 (.slice ad l.length cap) 0 k) (l.take k) := (hv6.piece (Nat.zero_le _) HPC.out).later ((Ext.refl _).alloc _)
          have ho7 := own_made w6 1 25 0 [] rfl (by unfold maxLen; omega)
          have hlt6 : k ≤ cap := by omega
          have HL6 := Lib.hid (show (l.take k).length = k by rw [List.length_take]; omega)
          clear ho5 hr5 hz5 ho6 hg6 hv6
          go_wp2_with (first
            | (refine wpList_of_run rfl (run_slice_to (o := ⟨some 43, _, _, _, _, _⟩) rfl Try.underlying48 sizeU32 rfl rfl hlt6) ?_)
            | (at_builtin; refine wpList_app rfl (.tmp 40) (.tmp 43) 48 rfl w6.heap.size 25 _ 1 4 Try.underlying48 infoU32 rfl (by decide) (by decide) _ _ _ rfl ho7 _ _ _ rfl hq6 (ucells_one _) (by rw [HL6.out]; omega) ((Ext.refl w6).alloc _).size ?_; intro v7 w7 ho8 hg7
               have hx7 : Ext w6 w7 := Ext.grown ((Ext.refl w6).alloc _) hg7 ho7 (Nat.le_refl _)
               have hr7 := hr6.later hx7)
            | (at_builtin; refine wpList_app rfl (.tmp 44) (.tmp 45) 48 rfl w6.heap.size 25 _ 1 4 Try.underlying48 infoU32 rfl (by decide) (by decide) _ _ _ rfl ho8 _ _ _ rfl hr7 (ucells_one _) (by rw [HL6.out, List.length_cons, hld]; omega) hx7.size ?_; intro v8 w8 ho9 hg8))
          go_ret
          have hx8 : Ext w6 w8 := Ext.grown hx7 hg8 ho8 (Nat.le_refl _)
          refine ⟨v8, rfl, ?_, hx6.trans hx8⟩
          have := Reads.of_own ho9
          unfold UsAt
          rw [HP.out, List.length_append, ucells_app]
          simpa using this
set_option maxHeartbeats 2000000 in
theorem r12Fit_any (lv : Value) (l : List (BitVec 32)) (w : World) (hl : UsAt w lv l) :
    Calls Try.prog 33 #[lv] w fun e w' => ∃ v, e = .returned v ∧ UsAt w' v (fitC l) ∧ Ext w w' := by
  obtain ⟨ad, cap, rfl, a1, a2, a3⟩ := hl.form
  have A3 := Lib.hid a3
  clear a3 hl
  unfold maxLen at a2
  have HZ := Lib.hid (us_made w [0#32] (by unfold maxLen; simp))
  go_enter Try.func33, Try.ntmps33
  go_wp2_with fail
  go_loopw [3, 4] (fun v i wr => ∃ k : Nat, k ≤ l.length ∧ k ≤ 30 ∧ i = I k ∧ Hid (UsAt wr v (fitC (l.take k))) ∧ Ext w wr) (fun _ i _ => 30 - (intOf i).toNat)
  case atStart => exact ⟨0, by omega, by omega, rfl, HZ.out, (Ext.refl w).alloc _⟩
  case round =>
    obtain ⟨k, hk, hk2, rfl, HV, hx⟩ := hrel
    by_cases hlt : k < l.length
    · by_cases hlt2 : k < 30
      · obtain ⟨b0, o0, rfl, p0⟩ := A3.out k l[k] (List.getElem?_eq_getElem hlt)
        replace p0 := hx.cell p0
        have HS := Lib.hid (fitC_step l k hlt hlt2)
        have HN := Lib.hid (show (fitC (l.take k)).length ≤ 100000000 by have := (fitC_ok (l.take k)).2.2; omega)
        go_wp2_with (go_at_call 56; refine (r12Put_any _ _ _ _ HV.out HN.out).mono ?_; rintro e w1 ⟨v1, rfl, hv1, hx1⟩)
        go_roundw
        case rel => exact ⟨k + 1, by omega, by omega, by go_num, Lib.hid (by rw [HS.out]; exact hv1), hx.trans hx1⟩
        case measure => simp [intOf]; omega
      · have HE := Lib.hid (show fitC (l.take k) = fitC l by
          unfold fitC; rw [List.take_take]; congr 2; omega)
        go_wp2_with fail
        go_ret
        exact ⟨_, rfl, by rw [← HE.out]; exact HV.out, hx⟩
    · have HE := Lib.hid (show fitC (l.take k) = fitC l by rw [List.take_of_length_le (by omega)])
      go_wp2_with fail
      go_ret
      exact ⟨_, rfl, by rw [← HE.out]; exact HV.out, hx⟩
end Go.Proofs.Ytilaljdokpdcoaa
