/- Cuts asked: which interval an address is in, the ends of one, whether two rows are the same. Conditions: none. -/
import Derived.Test.YtilaljdokpdcoaaU32s
import Derived.Test.YtilaljdokpdcoaaFit
import Derived.Test.YtilaljdokpdcoaaPure
namespace Go.Proofs.Ytilaljdokpdcoaa
open Go.RowKit

def leA (a : BitVec 32) (x : BitVec 32) : Bool := decide (uv x ≤ uv a)
def atN (l : List (BitVec 32)) (a : BitVec 32) : Nat := (l.takeWhile (leA a)).length
theorem atN_le (l : List (BitVec 32)) (a : BitVec 32) : atN l a ≤ l.length := (List.takeWhile_sublist _).length_le
theorem atN_lt {l : List (BitVec 32)} {a : BitVec 32} {j : Nat} (h : j < atN l a) (h' : j < l.length) : uv l[j] ≤ uv a := by simpa [leA] using tw_lt (leA a) l j h h'
theorem atN_end {l : List (BitVec 32)} {a : BitVec 32} (h : atN l a < l.length) : ¬ uv l[atN l a] ≤ uv a := by
  have := tw_end (leA a) l h
  simp only [leA, decide_eq_false_iff_not] at this
  exact this
def endV (l : List (BitVec 32)) (k : Nat) : BitVec 32 := if h : k + 1 < l.length then l[k + 1] - 1#32 else 4294967295#32
set_option maxHeartbeats 1000000 in
theorem cutsAt_any (lv : Value) (l : List (BitVec 32)) (a : BitVec 32) (w : World) (hl : UsAt w lv l) :
    Calls Try.prog 32 #[lv, U a] w fun e w' => e = .returned (I ((atN l a : Int) - 1)) ∧ w' = w := by
  obtain ⟨ad, cap, rfl, a1, a2, a3⟩ := hl.form
  have A3 := Lib.hid a3
  clear a3
  unfold maxLen at a2
  have hle := atN_le l a
  go_enter Try.func32, Try.ntmps32
  go_wp2_with fail
  go_loopw [5] (fun i wr => ∃ k : Nat, k ≤ atN l a ∧ i = I k ∧ wr = w) (fun i _ => l.length - (intOf i).toNat)
  case atStart => exact ⟨0, by omega, rfl, rfl⟩
  case round =>
    obtain ⟨k, hk, rfl, rfl⟩ := hrel
    by_cases hlt : k < l.length
    · obtain ⟨b0, o0, rfl, p0⟩ := A3.out k l[k] (List.getElem?_eq_getElem hlt)
      by_cases hc : uv l[k] ≤ uv a
      · have hk' := Lib.hid (show k + 1 ≤ atN l a by
          rcases Nat.lt_or_ge k (atN l a) with h | h
          · omega
          · exfalso
            have : k = atN l a := by omega
            subst this
            exact atN_end hlt hc)
        have hd : decide (uv l[k] ≤ uv a) = true := decide_eq_true hc
        go_wp2_with fail
        go_roundw
        case rel => exact ⟨k + 1, hk'.out, by go_num, by trivial⟩
        case measure => simp [intOf]; omega
      · have hk' := Lib.hid (show k = atN l a by
          rcases Nat.lt_or_ge k (atN l a) with h | h
          · exact absurd (atN_lt h hlt) hc
          · omega)
        have hd : decide (uv l[k] ≤ uv a) = false := decide_eq_false hc
        clear hc
        go_wp2_with fail
        go_ret
        exact ⟨ret_int (by rw [hk'.out]), rfl⟩
    · have hk' : k = atN l a := by omega
      have HK := Lib.hid hk'
      clear hk'
      go_wp2_with fail
      go_ret
      exact ⟨ret_int (by rw [HK.out]), rfl⟩
set_option maxHeartbeats 1000000 in
theorem cutsEnds_any (lv : Value) (l : List (BitVec 32)) (k : Nat) (w : World) (hl : UsAt w lv l) (hk : k < l.length) :
    Calls Try.prog 34 #[lv, I k] w fun e w' => e = .returned (.tuple #[U l[k], U (endV l k), .bool true]) ∧ w' = w := by
  obtain ⟨ad, cap, rfl, a1, a2, a3⟩ := hl.form
  have A3 := Lib.hid a3
  clear a3
  unfold maxLen at a2
  obtain ⟨b0, o0, rfl, p0⟩ := A3.out k l[k] (List.getElem?_eq_getElem hk)
  by_cases hk1 : k + 1 < l.length
  · obtain ⟨b1, o1, he, p1⟩ := A3.out (k + 1) l[k + 1] (List.getElem?_eq_getElem hk1)
    simp only [Option.some.injEq, Addr.mk.injEq, and_true] at he
    obtain ⟨rfl, rfl⟩ := he
    have HE := Lib.hid (show endV l k = l[k + 1] - 1#32 by unfold endV; rw [dif_pos hk1])
    have hd : decide ((k : Int) < (l.length : Int) - 1) = true := decide_eq_true (by omega)
    go_enter Try.func34, Try.ntmps34
    go_wp2_with fail
    go_ret3
    exact ⟨by rw [HE.out]; rfl, rfl⟩
  · have HE := Lib.hid (show endV l k = 4294967295#32 by unfold endV; rw [dif_neg hk1])
    have hd : decide ((k : Int) < (l.length : Int) - 1) = false := decide_eq_false (by omega)
    go_enter Try.func34, Try.ntmps34
    go_wp2_with fail
    go_ret3
    exact ⟨by rw [HE.out]; rfl, rfl⟩
theorem cutsEnds_out (lv : Value) (l : List (BitVec 32)) (k : Int) (w : World) (hl : UsAt w lv l) (hk : k < 0 ∨ l.length ≤ k) :
    Calls Try.prog 34 #[lv, I k] w fun e w' => e = .returned (.tuple #[U 0#32, U 0#32, .bool false]) ∧ w' = w := by
  obtain ⟨ad, cap, rfl, a1, a2, a3⟩ := hl.form
  clear a3
  unfold maxLen at a2
  rcases hk with hk | hk
  · go_enter Try.func34, Try.ntmps34
    go_wp2_with fail
    go_ret3
    exact ⟨rfl, rfl⟩
  · go_enter Try.func34, Try.ntmps34
    go_wp2_with fail
    go_ret3
    exact ⟨rfl, rfl⟩
set_option maxHeartbeats 1000000 in
theorem r12Same_any (va vb : Value) (la lb : List (BitVec 32)) (w : World) (ha : UsAt w va la) (hb : UsAt w vb lb) :
    Calls Try.prog 40 #[va, vb] w fun e w' => e = .returned (.bool (decide (la = lb))) ∧ Ext w w' := by
  obtain ⟨a, cap, rfl, a1, a2, a3⟩ := ha.form
  obtain ⟨b, cap', rfl, b1, b2, b3⟩ := hb.form
  have A3 := Lib.hid a3
  have B3 := Lib.hid b3
  clear a3 b3
  unfold maxLen at a2 b2
  by_cases hl : la.length = lb.length
  · have hle : ((la.length : Int) != lb.length) = false := by simp [hl]
    have HL := Lib.hid hl
    clear hl
    go_enter Try.func40, Try.ntmps40
    go_wp2
    go_loopw [5] (fun i wr => ∃ k : Nat, k ≤ la.length ∧ i = I k ∧ Hid (la.take k = lb.take k) ∧ Ext w wr) (fun i _ => la.length - (intOf i).toNat)
    case atStart => exact ⟨0, by omega, rfl, rfl, Ext.refl w⟩
    case round =>
      obtain ⟨k, hk, rfl, HT, hx⟩ := hrel
      by_cases hlt : k < la.length
      · obtain ⟨b0, o0, rfl, p0⟩ := A3.out k la[k] (List.getElem?_eq_getElem hlt)
        have hlt' : k < lb.length := by rw [← HL.out]; exact hlt
        obtain ⟨b1, o1, rfl, q0⟩ := B3.out k lb[k] (List.getElem?_eq_getElem hlt')
        replace p0 := hx.cell p0
        replace q0 := hx.cell q0
        by_cases he : la[k] = lb[k]
        · have hd : (la[k] == lb[k]) = true := by simpa using he
          have hd2 : (la[k] != lb[k]) = false := by simpa using he
          have HT' := Lib.hid (take_same HT.out hlt hlt' he)
          clear he
          go_wp2_with fail
          go_quiet (fail)
          go_wp2
          go_roundw
          case rel => exact ⟨k + 1, by omega, by go_num, HT'.out, hx.drewN _⟩
          case measure => simp [intOf]; omega
        · have hd : (la[k] == lb[k]) = false := by simpa using he
          have hd2 : (la[k] != lb[k]) = true := by simpa using he
          have H := Lib.hid (show decide (la = lb) = false by rw [decide_eq_false_iff_not]; intro e; subst e; exact he rfl)
          clear he
          go_wp2_with fail
          go_quiet (fail)
          go_wp2
          go_ret
          exact ⟨ret_bool H.out.symm, hx.drewN _⟩
      · have H := Lib.hid (show decide (la = lb) = true by
          have h1 := HT.out
          have h2 := HL.out
          rw [List.take_of_length_le (by omega), List.take_of_length_le (by omega)] at h1
          simpa using h1)
        go_wp2
        go_ret
        exact ⟨ret_bool H.out.symm, hx⟩
  · have hle : ((la.length : Int) != lb.length) = true := by simp; omega
    have H := Lib.hid (show decide (la = lb) = false by rw [decide_eq_false_iff_not]; intro e; subst e; exact hl rfl)
    clear hl
    go_enter Try.func40, Try.ntmps40
    go_wp2
    go_ret
    exact ⟨ret_bool H.out.symm, Ext.refl w⟩
end Go.Proofs.Ytilaljdokpdcoaa
