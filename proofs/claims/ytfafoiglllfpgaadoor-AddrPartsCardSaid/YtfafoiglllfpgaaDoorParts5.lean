/- The law AddrParts: the walk. Conditions: the library's table of powers of ten reads as it is laid. -/
import Derived.Test.YtfafoiglllfpgaaDoorBack
namespace Go.Proofs.YtfafoiglllfpgaaDoor
open Go.RowKit

/-- Some numbers' texts, with dots between. -/
def joinN (g : Nat → Nat) (j : Nat) : List UInt8 :=
  match j with
  | 0 => []
  | 1 => dd (g 0)
  | 2 => dd (g 0) ++ 46 :: dd (g 1)
  | 3 => dd (g 0) ++ 46 :: (dd (g 1) ++ 46 :: dd (g 2))
  | _ => join4 (dd (g 0)) (dd (g 1)) (dd (g 2)) (dd (g 3))
theorem joinN_len (g : Nat → Nat) (hg : ∀ i, g i < 100000) (j : Nat) : (joinN g j).length ≤ 23 := by
  have h := fun i => dd_len (n := g i) 5 (by omega) (by have := hg i; omega)
  have h0 := h 0
  have h1 := h 1
  have h2 := h 2
  have h3 := h 3
  unfold joinN
  split
  · simp
  · omega
  · simp; omega
  · simp; omega
  · unfold join4; simp; omega
def gA (a : Nat) (i : Nat) : Nat := byteK a (3 - i)
def gO (a q n : Nat) (i : Nat) : Nat := if i = q then 256 + n else byteK a (3 - i)
theorem join_pr (a : Nat) : joinN (gA a) 4 = prN a := rfl
theorem decimal_is (n : Nat) (x : Int) (w : World) (h : x = n) (hn : n < 1000000) : Calls Tryd.prog 25 #[I x] w fun e w' => e = .returned (S (dd n)) ∧ w = w' := by subst h; exact decimal_any n w hn
/-- One text longer: the next number's, behind a dot. -/
theorem joinN_step (g : Nat → Nat) {j : Nat} (hj : j < 4) (h0 : 0 < j) : joinN g (j + 1) = joinN g j ++ 46 :: dd (g j) := by
  obtain rfl | rfl | rfl : j = 1 ∨ j = 2 ∨ j = 3 := by omega
  all_goals simp [joinN, join4]
theorem joinN_one (g : Nat → Nat) : joinN g 1 = dd (g 0) := rfl
theorem count_app (l : List UInt8) : (l ++ [46]).count 46 = l.count 46 + 1 := by simp
theorem prN_cut (a : Nat) : (prN a).take ((prN a).length - (dd (byteK a 0)).length - 1) = joinN (gA a) 3 := by
  have e : prN a = joinN (gA a) 3 ++ 46 :: dd (byteK a 0) := by
    have := joinN_step (gA a) (j := 3) (by omega) (by omega)
    rw [join_pr] at this; exact this
  rw [e]
  have h : (joinN (gA a) 3 ++ 46 :: dd (byteK a 0)).length - (dd (byteK a 0)).length - 1 = (joinN (gA a) 3).length := by simp; omega
  rw [h, List.take_left]
theorem cut_count (a : Nat) : (joinN (gA a) 3).count 46 = 2 := by
  unfold joinN
  simp only [List.count_append, List.count_cons_self, digs_count (dd_dig _)]
set_option maxRecDepth 100000 in
set_option maxHeartbeats 4000000 in
theorem addrParts_any (a : BitVec 32) (n m : Nat) (w : World) (hn : n < 256) (hm : m < 65536) (ht : Tab10 w) :
    Calls Tryd.prog 6 #[U a, .int .u8 n, .int .u16 m] w fun e w' => e = .returned (.bool true) ∧ Ext w w' := by
  have HT := Lib.hid ht
  clear ht
  obtain ⟨q, hq, hq4⟩ : ∃ q : Nat, (n : Int) % 4 = q ∧ q < 4 := ⟨n % 4, by omega, Nat.mod_lt _ (by omega)⟩
  have HGA := Lib.hid (show ∀ i, gA a.toNat i < 100000 from fun i => by have := byteK_lt a.toNat (3 - i); unfold gA; omega)
  have HGO := Lib.hid (show ∀ i, gO a.toNat q m i < 100000 from fun i => by have := byteK_lt a.toNat (3 - i); unfold gO; split <;> omega)
  go_enter Tryd.func6, Tryd.ntmps6
  go_wp2_with (first
    | (go_at_call 21; with_reducible refine (shown05_any _ HT.out).mono ?_; rintro e w1 ⟨rfl, hx1⟩))
  go_loop [8, 9, 10] (fun s o i => ∃ j : Nat, j ≤ 4 ∧ i = I j ∧ s = S (joinN (gA a.toNat) j) ∧ o = S (joinN (gO a.toNat q m) j)) (fun _ _ i => 4 - (intOf i).toNat)
  case atStart => exact ⟨0, by omega, rfl, rfl, rfl⟩
  case round =>
    obtain ⟨j, hj, rfl, rfl, rfl⟩ := hrel
    have hl1 := joinN_len _ HGA.out j
    have hl2 := joinN_len _ HGO.out j
    by_cases hlt : j < 4
    · have hd1 : (dd (gA a.toNat j)).length ≤ 5 := dd_len 5 (by omega) (by have := HGA.out j; omega)
      have hd2 : (dd (gO a.toNat q m j)).length ≤ 5 := dd_len 5 (by omega) (by have := HGO.out j; omega)
      by_cases hjq : j = q
      · have hb : ((j : Int) == (q : Int)) = true := by simp [hjq]
        have HO := Lib.hid (show gO a.toNat q m j = 256 + m by unfold gO; rw [if_pos hjq])
        have HV := Lib.hid (show (256 : Int) + m = (gO a.toNat q m j : Nat) by rw [HO.out]; omega)
        have HG := Lib.hid (show gO a.toNat q m j < 1000000 by have := HGO.out j; omega)
        clear hjq HO
        obtain rfl | rfl | rfl | rfl : j = 0 ∨ j = 1 ∨ j = 2 ∨ j = 3 := by omega
        · have hb1 : ((0 : Int) == (q : Int)) = true := hb
          have hd3 := dd3 a.toNat 3
          clear hb
          go_wp2_with (first
            | (go_at_call 25; with_reducible refine (decimal_is (byteK a.toNat 3) _ _ (byte_lit3 a) (by have := byteK_lt a.toNat 3; omega)).mono ?_; rintro e w' ⟨rfl, rfl⟩)
            | (go_at_call 25; with_reducible refine (decimal_is _ _ _ HV.out HG.out).mono ?_; rintro e w' ⟨rfl, rfl⟩))
          go_round
          case rel => exact ⟨1, by omega, rfl, rfl, rfl⟩
          case measure => decide
        · have hb1 : ((1 : Int) == (q : Int)) = true := hb
          have hd3 := dd3 a.toNat 2
          clear hb
          go_wp2_with (first
            | (go_at_call 25; with_reducible refine (decimal_is (byteK a.toNat 2) _ _ (byte_lit2 a) (by have := byteK_lt a.toNat 2; omega)).mono ?_; rintro e w' ⟨rfl, rfl⟩)
            | (go_at_call 25; with_reducible refine (decimal_is _ _ _ HV.out HG.out).mono ?_; rintro e w' ⟨rfl, rfl⟩))
          go_round
          case rel => exact ⟨2, by omega, rfl, S_congr (by rw [joinN_step (gA a.toNat) (j := 1) (by omega) (by omega)]; simp [gA]), S_congr (by rw [joinN_step (gO a.toNat q m) (j := 1) (by omega) (by omega)])⟩
          case measure => decide
        · have hb1 : ((2 : Int) == (q : Int)) = true := hb
          have hd3 := dd3 a.toNat 1
          clear hb
          go_wp2_with (first
            | (go_at_call 25; with_reducible refine (decimal_is (byteK a.toNat 1) _ _ (byte_lit1 a) (by have := byteK_lt a.toNat 1; omega)).mono ?_; rintro e w' ⟨rfl, rfl⟩)
            | (go_at_call 25; with_reducible refine (decimal_is _ _ _ HV.out HG.out).mono ?_; rintro e w' ⟨rfl, rfl⟩))
          go_round
          case rel => exact ⟨3, by omega, rfl, S_congr (by rw [joinN_step (gA a.toNat) (j := 2) (by omega) (by omega)]; simp [gA]), S_congr (by rw [joinN_step (gO a.toNat q m) (j := 2) (by omega) (by omega)])⟩
          case measure => decide
        · have hb1 : ((3 : Int) == (q : Int)) = true := hb
          have hd3 := dd3 a.toNat 0
          clear hb
          go_wp2_with (first
            | (go_at_call 25; with_reducible refine (decimal_is (byteK a.toNat 0) _ _ (byte_lit0 a) (by have := byteK_lt a.toNat 0; omega)).mono ?_; rintro e w' ⟨rfl, rfl⟩)
            | (go_at_call 25; with_reducible refine (decimal_is _ _ _ HV.out HG.out).mono ?_; rintro e w' ⟨rfl, rfl⟩))
          go_round
          case rel => exact ⟨4, by omega, rfl, S_congr (by rw [joinN_step (gA a.toNat) (j := 3) (by omega) (by omega)]; simp [gA]), S_congr (by rw [joinN_step (gO a.toNat q m) (j := 3) (by omega) (by omega)])⟩
          case measure => decide
      · have hb : ((j : Int) == (q : Int)) = false := by simp; omega
        have HO := Lib.hid (show dd (gA a.toNat j) = dd (gO a.toNat q m j) by unfold gO gA; rw [if_neg hjq])
        clear hjq
        obtain rfl | rfl | rfl | rfl : j = 0 ∨ j = 1 ∨ j = 2 ∨ j = 3 := by omega
        · have hb1 : ((0 : Int) == (q : Int)) = false := hb
          have hd3 := dd3 a.toNat 3
          clear hb
          go_wp2_with (first
            | (go_at_call 25; with_reducible refine (decimal_is (byteK a.toNat 3) _ _ (byte_lit3 a) (by have := byteK_lt a.toNat 3; omega)).mono ?_; rintro e w' ⟨rfl, rfl⟩))
          go_round
          case rel => exact ⟨1, by omega, rfl, rfl, S_congr (by rw [joinN_one, ← HO.out]; rfl)⟩
          case measure => decide
        · have hb1 : ((1 : Int) == (q : Int)) = false := hb
          have hd3 := dd3 a.toNat 2
          clear hb
          go_wp2_with (first
            | (go_at_call 25; with_reducible refine (decimal_is (byteK a.toNat 2) _ _ (byte_lit2 a) (by have := byteK_lt a.toNat 2; omega)).mono ?_; rintro e w' ⟨rfl, rfl⟩))
          go_round
          case rel => exact ⟨2, by omega, rfl, S_congr (by rw [joinN_step (gA a.toNat) (j := 1) (by omega) (by omega)]; simp [gA]), S_congr (by rw [joinN_step (gO a.toNat q m) (j := 1) (by omega) (by omega), ← HO.out]; simp [gA])⟩
          case measure => decide
        · have hb1 : ((2 : Int) == (q : Int)) = false := hb
          have hd3 := dd3 a.toNat 1
          clear hb
          go_wp2_with (first
            | (go_at_call 25; with_reducible refine (decimal_is (byteK a.toNat 1) _ _ (byte_lit1 a) (by have := byteK_lt a.toNat 1; omega)).mono ?_; rintro e w' ⟨rfl, rfl⟩))
          go_round
          case rel => exact ⟨3, by omega, rfl, S_congr (by rw [joinN_step (gA a.toNat) (j := 2) (by omega) (by omega)]; simp [gA]), S_congr (by rw [joinN_step (gO a.toNat q m) (j := 2) (by omega) (by omega), ← HO.out]; simp [gA])⟩
          case measure => decide
        · have hb1 : ((3 : Int) == (q : Int)) = false := hb
          have hd3 := dd3 a.toNat 0
          clear hb
          go_wp2_with (first
            | (go_at_call 25; with_reducible refine (decimal_is (byteK a.toNat 0) _ _ (byte_lit0 a) (by have := byteK_lt a.toNat 0; omega)).mono ?_; rintro e w' ⟨rfl, rfl⟩))
          go_round
          case rel => exact ⟨4, by omega, rfl, S_congr (by rw [joinN_step (gA a.toNat) (j := 3) (by omega) (by omega)]; simp [gA]), S_congr (by rw [joinN_step (gO a.toNat q m) (j := 3) (by omega) (by omega), ← HO.out]; simp [gA])⟩
          case measure => decide
    · obtain rfl : j = 4 := by omega
      have HO5 := Lib.hid (show ∀ x, ¬ Says (joinN (gO a.toNat q m) 4) x from fun x hs => no_big (b := x) (n0 := gO a.toNat q m 0) (n1 := gO a.toNat q m 1) (n2 := gO a.toNat q m 2) (n3 := gO a.toNat q m 3) (by
        unfold gO
        obtain rfl | rfl | rfl | rfl : q = 0 ∨ q = 1 ∨ q = 2 ∨ q = 3 := by omega
        all_goals simp) hs.2)
      have HL5 := Lib.hid (show (joinN (gO a.toNat q m) 4).length ≤ 1000 by omega)
      generalize joinN (gO a.toNat q m) 4 = O at *
      rw [join_pr] at hl1 ⊢
      have hd0 := dd3 a.toNat 0
      have hge : (dd (byteK a.toNat 0)).length + 1 ≤ (prN a.toNat).length := by
        unfold prN join4; simp; omega
      have HN1 := Lib.hid (show ∀ x, ¬ Says (prN a.toNat ++ [46]) x from fun x hs => no_count (by rw [count_app, prN_count]; omega) hs.2)
      have HN2 := Lib.hid (show ∀ x, ¬ Says ((prN a.toNat).take ((prN a.toNat).length - (dd (byteK a.toNat 0)).length - 1)) x from fun x hs => no_count (by rw [prN_cut, cut_count]; omega) hs.2)
      have HN3 := Lib.hid (show ∀ x, ¬ Says (46 :: prN a.toNat) x from fun x hs => no_count (by rw [List.count_cons_self, prN_count]; omega) hs.2)
      have HL1 := Lib.hid (show (prN a.toNat ++ [46]).length ≤ 1000 by simp; omega)
      have HL2 := Lib.hid (show ((prN a.toNat).take ((prN a.toNat).length - (dd (byteK a.toNat 0)).length - 1)).length ≤ 1000 by rw [List.length_take]; omega)
      have HL3 := Lib.hid (show (46 :: prN a.toNat).length ≤ 1000 by simp; omega)
      go_wp2_with (first
        | (go_at_call 23; with_reducible refine (parseNo_any O _ (HT.out.later hx1) HL5.out HO5.out).mono ?_; rintro e w2 ⟨rfl, hx2⟩)
        | (go_at_call 23; with_reducible refine (parseNo_any (prN a.toNat ++ [46]) _ (HT.out.later (hx1.trans hx2)) HL1.out HN1.out).mono ?_; rintro e w3 ⟨rfl, hx3⟩)
        | (go_at_call 25; with_reducible refine (decimal_is (byteK a.toNat 0) _ _ (byte_lit0 a) (by have := byteK_lt a.toNat 0; omega)).mono ?_; rintro e w' ⟨rfl, rfl⟩)
        | (go_at_call 23; with_reducible refine (parseNo_any _ _ (HT.out.later (hx1.trans (hx2.trans hx3))) HL2.out HN2.out).mono ?_; rintro e w4 ⟨rfl, hx4⟩)
        | (go_at_call 23; with_reducible refine (parseNo_any (46 :: prN a.toNat) _ (HT.out.later (hx1.trans (hx2.trans (hx3.trans hx4)))) HL3.out HN3.out).mono ?_; rintro e w5 ⟨rfl, hx5⟩)
        | (go_at_call 22; with_reducible refine (print_any a _ (HT.out.later (hx1.trans (hx2.trans (hx3.trans (hx4.trans hx5)))))).mono ?_; rintro e w6 ⟨rfl, hx6⟩))
      go_ret
      exact ⟨rfl, hx1.trans (hx2.trans (hx3.trans (hx4.trans (hx5.trans hx6))))⟩
end Go.Proofs.YtfafoiglllfpgaaDoor
