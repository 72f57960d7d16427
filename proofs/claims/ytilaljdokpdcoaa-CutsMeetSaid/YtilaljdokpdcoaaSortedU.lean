/- slices.Sorted(maps.Keys(m)) at keys of 32 bits. Conditions: the map holds no more keys than the proved part of the sort takes. -/
import Derived.Test.YtilaljdokpdcoaaSortTop
namespace Go.Proofs.Ytilaljdokpdcoaa
open Go Go.RowKit Go.Maps Go.Sort Go.Shelf Go.Proofs

abbrev leU (x y : Int) : Bool := decide (x ≤ y)
theorem leU_trans (a b c : Int) (h : leU a b = true) (k : leU b c = true) : leU a c = true := decide_eq_true (Int.le_trans (of_decide_eq_true h) (of_decide_eq_true k))
theorem leU_total (a b : Int) : (leU a b || leU b a) = true := by
  rcases Int.le_total a b with h | h
  · rw [show leU a b = true from decide_eq_true h]; rfl
  · rw [show leU b a = true from decide_eq_true h, Bool.or_true]
/-- One list, however it came. -/
theorem sorted_perm {l l' : List Int} (h : l.Perm l') : l.mergeSort leU = l'.mergeSort leU := by
  refine List.Perm.eq_of_pairwise (le := fun a b => leU a b = true) ?_ (List.pairwise_mergeSort leU_trans leU_total l) (List.pairwise_mergeSort leU_trans leU_total l') ?_
  · exact fun a b _ _ h1 h2 => Int.le_antisymm (of_decide_eq_true h1) (of_decide_eq_true h2)
  · exact ((List.mergeSort_perm l leU).trans h).trans (List.mergeSort_perm l' leU).symm
theorem sort_list (ss : List Int) : (sort ltInt ss.toArray).toList = ss.mergeSort leU := sortInt ss

set_option maxRecDepth 100000 in
set_option maxHeartbeats 2000000 in
theorem sorted_any (F : Fence) (n : Nat) (h6 : F.fn 54) (h8 : F.fn 71) (h9 : F.fn 72) (h11 : F.fn 84) (hro : F.round = none)
    (hsort : ∀ (gb cap N : Nat) (d : Array Int) (W : World), Srt W gb 0 N d W → SortCap d.size → CallsIn F (n - 1) Try.prog 72 #[.slice (some ⟨gb, 0, none⟩) d.size cap] W fun e w' => e = .returned (.tuple #[]) ∧ Srt W gb 0 N (sort ltInt d) w')
    (hnone : ∀ W : World, CallsIn F (n - 1) Try.prog 72 #[.slice none 0 0] W fun e w' => e = .returned (.tuple #[]) ∧ w' = W)
    (g : Nat) (lb : Array Value) (hFg : F.fn g) (eg : ∀ args w, (callFunc g args).run Try.prog w = .ok (.enter g args) w) (hn : 4 ≤ n)
    (S : List Int → Prop) (N : Nat) (hN : N ≤ maxLen) (hNb : N * 4 ≤ 140737488355328) (hcap : SortCap N) (w : World) (hseq : SeqGives F (n - 1 - 1 - 1) Try.prog g lb encU S N w) :
    CallsIn F n Try.prog 54 #[.func (.func g) #[] lb] w fun e w' => ∃ (v : Value) (ss : List Int), e = .returned v ∧ S ss ∧
      w'.ownsRow w.heap.size 25 1 v ss.length ((ss.mergeSort leU).map encU) ∧ Below w.heap.size w w' := by
  have h1 : 1 ≤ n := by omega
  refine callsIn_of_wp Try.func54 rfl h6 ?_ hro
  simp only [Try.ntmps54, List.size_toArray, List.length_cons, List.length_nil, Nat.reduceAdd, Nat.reduceSub, Array.replicate_succ, Array.replicate_zero, List.push_toArray, List.append_toArray, List.nil_append, List.cons_append]
  gi_wp2_with (gi_at_call 71; refine (collect_in F (n - 1) h8 h11 hro (by omega) g lb hFg eg _ N hN hNb _ hseq.bounded).mono ?_; rintro e W ⟨v, ss, rfl, ⟨hS, hlen⟩, hrow, hnil, hb⟩)
  have hcs : SortCap ss.toArray.size := Nat.le_trans (by simpa using hlen) hcap
  rcases hrow.2 with ⟨rfl, hz⟩ | ⟨gb, cap, cur, rfl, hbase, hgb, r1, r2, r3, r4⟩
  · have hss : ss = [] := List.eq_nil_of_length_eq_zero hz
    subst hss
    gi_wp2_with (gi_at_call 72; refine (hnone W).mono ?_; rintro e w' ⟨rfl, rfl⟩)
    go_ret
    exact ⟨.slice none 0 0, [], rfl, hS, by simpa using hrow, hb⟩
  · have hT : Srt W gb 0 cur.size ss.toArray W := by
      refine ⟨grown_refl _ _, cur, hgb, rfl, fun j hj => ?_⟩
      have hj' : j < ss.length := by simpa using hj
      have h2 : (cur.toList.take ss.length)[j]? = (ss.map encU)[j]? := by rw [← r4, Nat.mul_one]
      rw [List.getElem?_take_of_lt hj'] at h2
      rw [Nat.zero_add, ← Array.getElem?_toList, h2]
      simp [hj']
    have cS := hsort gb cap cur.size ss.toArray W hT hcs
    gi_wp2_with (gi_at_call 72; refine cS.mono ?_; rintro e w' ⟨rfl, hS'⟩)
    go_ret
    obtain ⟨c, c1, c2, c3⟩ := hS'.row
    have hlist := sort_list ss
    have hsz : (sort ltInt ss.toArray).size = ss.length := by rw [← Array.length_toList, hlist, List.length_mergeSort]
    refine ⟨_, ss, rfl, hS, ⟨by simp, .inr ⟨gb, cap, c, rfl, hbase, c1, r1, r2, by rw [c2, r3], ?_⟩⟩, hb.grown hS'.grown hb.size (fun j hj => by cases hj; exact hbase)⟩
    apply List.ext_getElem?
    intro j
    rw [Nat.mul_one]
    by_cases hj : j < ss.length
    · rw [List.getElem?_take_of_lt hj, Array.getElem?_toList]
      have h3 := c3 j (by omega)
      rw [Nat.zero_add] at h3
      rw [h3, List.getElem?_map, ← hlist, Array.getElem?_toList, getElem!_pos _ j (by omega), Array.getElem?_eq_getElem (by omega)]
      rfl
    · rw [List.getElem?_take_eq_none (by omega), List.getElem?_eq_none (by simp; omega)]

theorem keysU_any (mb : Option Nat) (w : World) :
    Calls Try.prog 55 #[.map mb] w fun e w' => e = .returned (.func (.func 73) #[] #[.pointer (some ⟨w.heap.size, 0, none⟩)]) ∧ w' = w.alloc (.cells #[.map mb] 84) :=
  callsIn_wide.1 (keys_in Fence.wide 1 trivial rfl mb w)
theorem sortedKeys_any {H : Type} (Bm b nn : Nat) (D0 : DataW H) {R : Value → Option (DataW H × List MemPlace)} (w : World) (hBm : Bm < w.heap.size)
    (hm : w.cell? ⟨Bm, 0, none⟩ = some (.map (some b))) (hown : w.ownsMap Try.prog 25 R b nn D0) (hmax : Maps.size D0 ≤ maxLen) (hbytes : Maps.size D0 * 4 ≤ 140737488355328) (hcap : SortCap (Maps.size D0)) :
    Calls Try.prog 54 #[.func (.func 73) #[] #[.pointer (some ⟨Bm, 0, none⟩)]] w fun e w' => ∃ v, e = .returned v ∧
      w'.ownsRow w.heap.size 25 1 v ((u32Keys D0).mergeSort leU).length (((u32Keys D0).mergeSort leU).map encU) ∧ Below w.heap.size w w' := by
  refine callsIn_wide.1 ((sorted_any Fence.wide 10 trivial trivial trivial trivial rfl (fun gb cap N d W h k => callsIn_wide.2 (sortU_any gb 0 cap N d W h k)) (fun W => callsIn_wide.2 (sortU_nil none 0 W)) 73 _ trivial (enters_of Try.func73 (by kernel_rfl) rfl) (by omega) _ _ hmax hbytes hcap w
    (keys_gives Fence.wide _ trivial rfl (by omega) Bm b nn D0 w hBm hm hown)).mono ?_)
  rintro e w' ⟨v, ss, rfl, hp, h2, h3⟩
  refine ⟨v, rfl, ?_, h3⟩
  rw [← sorted_perm hp, List.length_mergeSort]
  exact h2
end Go.Proofs.Ytilaljdokpdcoaa
