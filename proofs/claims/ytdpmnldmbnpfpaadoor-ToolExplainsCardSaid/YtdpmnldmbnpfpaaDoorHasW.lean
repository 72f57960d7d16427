/- theseuslaw22's has, by the program: whether a text has another one in it. Conditions: short texts. -/
import Derived.Test.YtdpmnldmbnpfpaaDoorExplL
namespace Go.Proofs.YtdpmnldmbnpfpaaDoor
open Go Go.RowKit Go.Maps Go.Proofs

theorem infix_iff {s t : List UInt8} : t <:+: s ↔ ∃ i, i + t.length ≤ s.length ∧ (s.take (i + t.length)).drop i = t := by
  constructor
  · rintro ⟨p, q, rfl⟩
    refine ⟨p.length, by rw [List.length_append, List.length_append]; omega, ?_⟩
    rw [← List.length_append, List.take_left, List.drop_left]
  · rintro ⟨i, h1, h2⟩
    refine ⟨s.take i, s.drop (i + t.length), ?_⟩
    have e : s.take i ++ t = s.take (i + t.length) := by
      have := List.take_append_drop i (s.take (i + t.length))
      rw [h2, List.take_take, Nat.min_eq_left (by omega)] at this
      exact this
    rw [e, List.take_append_drop]
@[go_sem high] theorem extract_listH (l : List UInt8) (i j : Nat) : (⟨l.toArray⟩ : ByteArray).extract i j = ⟨((l.take j).drop i).toArray⟩ := by
  apply ByteArray.ext
  rw [ByteArray.data_extract]
  apply Array.ext'
  simp [List.drop_take]
theorem l_beq {a b : List UInt8} {c : Bool} (h : c = true ↔ a = b) : (a == b) = c := by
  cases c with
  | true => simpa using h.1 rfl
  | false =>
    have : a ≠ b := fun e => by have := h.2 e; cases this
    simpa using this
/-- What has hands back. -/
def HasIs (s t : List UInt8) (w : World) (e : Ending) (w' : World) : Prop := (∃ b : Bool, e = .returned (.bool b) ∧ (b = true ↔ t <:+: s)) ∧ w = w'
set_option maxHeartbeats 1000000 in
set_option maxRecDepth 100000 in
theorem has_any (s t : List UInt8) (w : World) (hs : s.length ≤ 1000) (ht : t.length ≤ 100) :
    Calls Tryd.prog 10 #[S s, S t] w (HasIs s t w) := by
  go_enter Tryd.func10, Tryd.ntmps10
  go_wp2_with fail
  go_loopw [5] (fun i wr => ∃ (k : Nat), k ≤ s.length + 1 ∧ i = I k ∧ Hid (∀ j, j < k → j + t.length ≤ s.length → (s.take (j + t.length)).drop j ≠ t) ∧ Hid (wr = w)) (fun i _ => s.length + 1 - (intOf i).toNat)
  case atStart => exact ⟨0, by omega, rfl, Lib.hid (fun j h => absurd h (Nat.not_lt_zero j)), Lib.hid rfl⟩
  case round =>
    obtain ⟨k, hk, rfl, HN, HW⟩ := hrel
    obtain rfl := HW.out
    by_cases hlt : k + t.length ≤ s.length
    · have HLT := Lib.hid hlt
      obtain ⟨P, hP⟩ : ∃ P : Nat, P = k + t.length := ⟨_, rfl⟩
      have hPi : (k : Int) + (t.length : Int) = (P : Int) := by omega
      have hPs : (P : Int) ≤ (s.length : Int) := by omega
      have hPs2 : P ≤ s.length := by omega
      have hkP : (k : Int) ≤ (P : Int) := by omega
      have hkP2 : k ≤ P := by omega
      have hd : decide ((P : Int) ≤ (s.length : Int)) = true := decide_eq_true hPs
      have HP := Lib.hid hP
      clear hP
      by_cases he : (s.take P).drop k = t
      · have hb : ((s.take P).drop k == t) = true := l_beq ⟨fun _ => he, fun _ => rfl⟩
        have HE := Lib.hid (show t <:+: s from infix_iff.2 ⟨k, HLT.out, by rw [← HP.out]; exact he⟩)
        clear he hlt
        go_wp2_with fail
        go_ret
        exact ⟨⟨_, rfl, fun _ => HE.out, fun _ => rfl⟩, rfl⟩
      · have hb : ((s.take P).drop k == t) = false := l_beq ⟨fun h => (by cases h), fun h => absurd h he⟩
        have HE := Lib.hid (show ∀ j, j < k + 1 → j + t.length ≤ s.length → (s.take (j + t.length)).drop j ≠ t from fun j hj hl => by
          rcases Nat.lt_or_ge j k with g | g
          · exact HN.out j g hl
          · obtain rfl : j = k := by omega
            rw [← HP.out]; exact he)
        clear he hlt
        go_wp2_with fail
        go_roundw
        case rel => exact ⟨k + 1, by have := HLT.out; omega, by go_num, HE, Lib.hid trivial⟩
        case measure => have := HLT.out; simp [intOf]; omega
    · have hd : decide ((k : Int) + (t.length : Int) ≤ (s.length : Int)) = false := decide_eq_false (by omega)
      have HE := Lib.hid (show ¬ t <:+: s from fun h => by
        obtain ⟨i, h1, h2⟩ := infix_iff.1 h
        exact HN.out i (by omega) h1 h2)
      clear hlt
      go_wp2_with fail
      go_ret
      exact ⟨⟨_, rfl, fun h => (by cases h), fun h => absurd h HE.out⟩, rfl⟩
end Go.Proofs.YtdpmnldmbnpfpaaDoor
