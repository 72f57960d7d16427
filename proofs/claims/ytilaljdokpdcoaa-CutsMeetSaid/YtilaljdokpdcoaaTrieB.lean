/- The trie in memory, and what is found in it. Conditions: lengths are within 64 bits. -/
import Derived.Test.YtilaljdokpdcoaaTrieA
import Derived.Test.YtilaljdokpdcoaaBits0
namespace Go.Proofs.Ytilaljdokpdcoaa
open Go.RowKit

/-- A trie's forks: prefix, rule, whether it is one's, and both forks below. -/
inductive T where
  | nil
  | node (pa : BitVec 32) (pn : Int) (r : Rul) (is : Bool) (l k : T)
def T.size : T → Nat
  | .nil => 0
  | .node _ _ _ _ l k => 1 + l.size + k.size
def T.Ok : T → Prop
  | .nil => True
  | .node pa n _ _ l k => Valid pa n ∧ l.Ok ∧ k.Ok
abbrev forkC (pa : BitVec 32) (n : Int) (r : Rul) (is : Bool) (vl vk : Value) : List Value := [U pa, I n, U r.pa, I r.pl, I r.act, I r.nx, .bool is, vl, vk]
/-- The value v is a pointer to such forks, which lie in the blocks bs. -/
def TreeAt (w : World) : T → Value → List Nat → Prop
  | .nil, v, bs => v = .pointer none ∧ bs = []
  | .node pa n r is l k, v, bs => ∃ b bl bk vl vk, v = .pointer (some ⟨b, 0, none⟩) ∧ bs = b :: (bl ++ bk) ∧ Blk w b (forkC pa n r is vl vk) 104 ∧ TreeAt w l vl bl ∧ TreeAt w k vk bk
theorem TreeAt.same {w w' : World} : ∀ {t : T} {v : Value} {bs : List Nat}, TreeAt w t v bs → (∀ b ∈ bs, w'.heap[b]? = w.heap[b]?) → TreeAt w' t v bs
  | .nil, _, _, h, _ => h
  | .node .., v, bs, ⟨b, bl, bk, vl, vk, h1, h2, h3, h4, h5⟩, hs => by
    subst h2
    refine ⟨b, bl, bk, vl, vk, h1, rfl, ?_, h4.same fun q hq => hs q (by simp [hq]), h5.same fun q hq => hs q (by simp [hq])⟩
    unfold Blk at *
    rw [hs b (by simp)]; exact h3
theorem TreeAt.lt {w : World} : ∀ {t : T} {v : Value} {bs : List Nat}, TreeAt w t v bs → ∀ b ∈ bs, b < w.heap.size
  | .nil, _, _, ⟨_, h⟩, b, hb => by subst h; cases hb
  | .node .., v, bs, ⟨b, bl, bk, vl, vk, h1, h2, h3, h4, h5⟩, q, hq => by
    subst h2
    simp only [List.mem_cons, List.mem_append] at hq
    rcases hq with rfl | hq | hq
    · exact h3.lt
    · exact h4.lt q hq
    · exact h5.lt q hq
theorem TreeAt.later {w w' : World} {t : T} {v : Value} {bs : List Nat} (h : TreeAt w t v bs) (hx : Ext w w') : TreeAt w' t v bs :=
  h.same fun b hb => Below.block hx b (h.lt b hb)
theorem TreeAt.len {w : World} : ∀ {t : T} {v : Value} {bs : List Nat}, TreeAt w t v bs → bs.length = t.size
  | .nil, _, _, ⟨_, h⟩ => by subst h; rfl
  | .node .., v, bs, ⟨b, bl, bk, vl, vk, h1, h2, h3, h4, h5⟩ => by
    subst h2
    simp only [List.length_cons, List.length_append, T.size, h4.len, h5.len]; omega

def kidV (a : BitVec 32) (n : Int) (vl vk : Value) : Value := if bitV a n = 0 then vl else vk
set_option maxHeartbeats 400000 in
theorem below_any (w : World) (b : Nat) (pa : BitVec 32) (n : Int) (r : Rul) (is : Bool) (vl vk : Value) (a : BitVec 32) (hb : Blk w b (forkC pa n r is vl vk) 104) (hn : In64 n) :
    Calls Try.prog 65 #[.pointer (some ⟨b, 0, none⟩), U a] w fun e w' => e = .returned (kidV a n vl vk) ∧ Ext w w' := by
  have k0 := hb.keep
  rcases bit01 a n with g | g
  · have H := Lib.hid (show kidV a n vl vk = vl by unfold kidV; rw [if_pos g])
    go_enter Try.func65, Try.ntmps65
    go_wp2_with fail
    refine wp_region_E 12 rfl (by kernel_rfl) (by kernel_rfl) ?_
    refine WE_q 0 rfl (by decide) (by kernel_rfl) rfl ?_; apply Exists.intro; refine ⟨fun w1 hx1 => ?_, ?_⟩
    · have hq1 := hx1.cells; go_simp; try go_bits
      first | with_reducible rfl | (refine (bit_any _ _ _ hn).mono ?_; rintro e w' ⟨rfl, rfl⟩; exact ⟨by rw [g], Ext.refl _⟩)
    simp only [Act.put, List.setIfInBounds_toArray, List.set_cons_zero, List.set_cons_succ]
    refine WE_q 1 rfl (by decide) (by kernel_rfl) rfl ?_; apply Exists.intro; refine ⟨fun w1 hx1 => ?_, ?_⟩
    · have hq1 := hx1.cells; go_simp; try go_bits
      first | with_reducible rfl | (refine (bit_any _ _ _ hn).mono ?_; rintro e w' ⟨rfl, rfl⟩; exact ⟨by rw [g], Ext.refl _⟩)
    simp only [Act.put, List.setIfInBounds_toArray, List.set_cons_zero, List.set_cons_succ]
    refine WE_q 2 rfl (by decide) (by kernel_rfl) rfl ?_; apply Exists.intro; refine ⟨fun w1 hx1 => ?_, ?_⟩
    · have hq1 := hx1.cells; go_simp; try go_bits
      first | with_reducible rfl | (refine (bit_any _ _ _ hn).mono ?_; rintro e w' ⟨rfl, rfl⟩; exact ⟨by rw [g], Ext.refl _⟩)
    simp only [Act.put, List.setIfInBounds_toArray, List.set_cons_zero, List.set_cons_succ]
    refine WE_q 3 rfl (by decide) (by kernel_rfl) rfl ?_; apply Exists.intro; refine ⟨fun w1 hx1 => ?_, ?_⟩
    · have hq1 := hx1.cells; go_simp; try go_bits
      first | with_reducible rfl | (refine (bit_any _ _ _ hn).mono ?_; rintro e w' ⟨rfl, rfl⟩; exact ⟨by rw [g], Ext.refl _⟩)
    simp only [Act.put, List.setIfInBounds_toArray, List.set_cons_zero, List.set_cons_succ]
    refine WE_q 4 rfl (by decide) (by kernel_rfl) rfl ?_; apply Exists.intro; refine ⟨fun w1 hx1 => ?_, ?_⟩
    · have hq1 := hx1.cells; go_simp; try go_bits
      first | with_reducible rfl | (refine (bit_any _ _ _ hn).mono ?_; rintro e w' ⟨rfl, rfl⟩; exact ⟨by rw [g], Ext.refl _⟩)
    simp only [Act.put, List.setIfInBounds_toArray, List.set_cons_zero, List.set_cons_succ]
    refine WE_q 5 rfl (by decide) (by kernel_rfl) rfl ?_; apply Exists.intro; refine ⟨fun w1 hx1 => ?_, ?_⟩
    · have hq1 := hx1.cells; go_simp; try go_bits
      first | with_reducible rfl | (refine (bit_any _ _ _ hn).mono ?_; rintro e w' ⟨rfl, rfl⟩; exact ⟨by rw [g], Ext.refl _⟩)
    simp only [Act.put, List.setIfInBounds_toArray, List.set_cons_zero, List.set_cons_succ]
    refine WE_q 6 rfl (by decide) (by kernel_rfl) rfl ?_; apply Exists.intro; refine ⟨fun w1 hx1 => ?_, ?_⟩
    · have hq1 := hx1.cells; go_simp; try go_bits
      first | with_reducible rfl | (refine (bit_any _ _ _ hn).mono ?_; rintro e w' ⟨rfl, rfl⟩; exact ⟨by rw [g], Ext.refl _⟩)
    simp only [Act.put, List.setIfInBounds_toArray, List.set_cons_zero, List.set_cons_succ]
    refine WE_q 7 rfl (by decide) (by kernel_rfl) rfl ?_; apply Exists.intro; refine ⟨fun w1 hx1 => ?_, ?_⟩
    · have hq1 := hx1.cells; go_simp; try go_bits
      first | with_reducible rfl | (refine (bit_any _ _ _ hn).mono ?_; rintro e w' ⟨rfl, rfl⟩; exact ⟨by rw [g], Ext.refl _⟩)
    simp only [Act.put, List.setIfInBounds_toArray, List.set_cons_zero, List.set_cons_succ]
    refine WE_q 8 rfl (by decide) (by kernel_rfl) rfl ?_; apply Exists.intro; refine ⟨fun w1 hx1 => ?_, ?_⟩
    · have hq1 := hx1.cells; go_simp; try go_bits
      first | with_reducible rfl | (refine (bit_any _ _ _ hn).mono ?_; rintro e w' ⟨rfl, rfl⟩; exact ⟨by rw [g], Ext.refl _⟩)
    simp only [Act.put, List.setIfInBounds_toArray, List.set_cons_zero, List.set_cons_succ]
    refine WE_q 9 rfl (by decide) (by kernel_rfl) rfl ?_; apply Exists.intro; refine ⟨fun w1 hx1 => ?_, ?_⟩
    · have hq1 := hx1.cells; go_simp; try go_bits
      first | with_reducible rfl | (refine (bit_any _ _ _ hn).mono ?_; rintro e w' ⟨rfl, rfl⟩; exact ⟨by rw [g], Ext.refl _⟩)
    simp only [Act.put, List.setIfInBounds_toArray, List.set_cons_zero, List.set_cons_succ]
    refine WE_q 10 rfl (by decide) (by kernel_rfl) rfl ?_; apply Exists.intro; refine ⟨fun w1 hx1 => ?_, ?_⟩
    · have hq1 := hx1.cells; go_simp; try go_bits
      first | with_reducible rfl | (refine (bit_any _ _ _ hn).mono ?_; rintro e w' ⟨rfl, rfl⟩; exact ⟨by rw [g], Ext.refl _⟩)
    simp only [Act.put, List.setIfInBounds_toArray, List.set_cons_zero, List.set_cons_succ]
    refine WE_q 11 rfl (by decide) (by kernel_rfl) rfl ?_; apply Exists.intro; refine ⟨fun w1 hx1 => ?_, ?_⟩
    · have hq1 := hx1.cells; go_simp; try go_bits
      first | with_reducible rfl | (refine (bit_any _ _ _ hn).mono ?_; rintro e w' ⟨rfl, rfl⟩; exact ⟨by rw [g], Ext.refl _⟩)
    simp only [Act.put, List.setIfInBounds_toArray, List.set_cons_zero, List.set_cons_succ]
    refine WE_done (by kernel_rfl) (fun w3 hx3 => ?_)
    (try simp only [List.drop_succ_cons, List.drop_zero])
    go_wp2
    go_ret
    exact ⟨by rw [H.out]; rfl, hx3⟩
  · have H := Lib.hid (show kidV a n vl vk = vk by unfold kidV; rw [if_neg (by omega)])
    go_enter Try.func65, Try.ntmps65
    go_wp2_with fail
    refine wp_region_E 12 rfl (by kernel_rfl) (by kernel_rfl) ?_
    refine WE_q 0 rfl (by decide) (by kernel_rfl) rfl ?_; apply Exists.intro; refine ⟨fun w1 hx1 => ?_, ?_⟩
    · have hq1 := hx1.cells; go_simp; try go_bits
      first | with_reducible rfl | (refine (bit_any _ _ _ hn).mono ?_; rintro e w' ⟨rfl, rfl⟩; exact ⟨by rw [g], Ext.refl _⟩)
    simp only [Act.put, List.setIfInBounds_toArray, List.set_cons_zero, List.set_cons_succ]
    refine WE_q 1 rfl (by decide) (by kernel_rfl) rfl ?_; apply Exists.intro; refine ⟨fun w1 hx1 => ?_, ?_⟩
    · have hq1 := hx1.cells; go_simp; try go_bits
      first | with_reducible rfl | (refine (bit_any _ _ _ hn).mono ?_; rintro e w' ⟨rfl, rfl⟩; exact ⟨by rw [g], Ext.refl _⟩)
    simp only [Act.put, List.setIfInBounds_toArray, List.set_cons_zero, List.set_cons_succ]
    refine WE_q 2 rfl (by decide) (by kernel_rfl) rfl ?_; apply Exists.intro; refine ⟨fun w1 hx1 => ?_, ?_⟩
    · have hq1 := hx1.cells; go_simp; try go_bits
      first | with_reducible rfl | (refine (bit_any _ _ _ hn).mono ?_; rintro e w' ⟨rfl, rfl⟩; exact ⟨by rw [g], Ext.refl _⟩)
    simp only [Act.put, List.setIfInBounds_toArray, List.set_cons_zero, List.set_cons_succ]
    refine WE_q 3 rfl (by decide) (by kernel_rfl) rfl ?_; apply Exists.intro; refine ⟨fun w1 hx1 => ?_, ?_⟩
    · have hq1 := hx1.cells; go_simp; try go_bits
      first | with_reducible rfl | (refine (bit_any _ _ _ hn).mono ?_; rintro e w' ⟨rfl, rfl⟩; exact ⟨by rw [g], Ext.refl _⟩)
    simp only [Act.put, List.setIfInBounds_toArray, List.set_cons_zero, List.set_cons_succ]
    refine WE_q 4 rfl (by decide) (by kernel_rfl) rfl ?_; apply Exists.intro; refine ⟨fun w1 hx1 => ?_, ?_⟩
    · have hq1 := hx1.cells; go_simp; try go_bits
      first | with_reducible rfl | (refine (bit_any _ _ _ hn).mono ?_; rintro e w' ⟨rfl, rfl⟩; exact ⟨by rw [g], Ext.refl _⟩)
    simp only [Act.put, List.setIfInBounds_toArray, List.set_cons_zero, List.set_cons_succ]
    refine WE_q 5 rfl (by decide) (by kernel_rfl) rfl ?_; apply Exists.intro; refine ⟨fun w1 hx1 => ?_, ?_⟩
    · have hq1 := hx1.cells; go_simp; try go_bits
      first | with_reducible rfl | (refine (bit_any _ _ _ hn).mono ?_; rintro e w' ⟨rfl, rfl⟩; exact ⟨by rw [g], Ext.refl _⟩)
    simp only [Act.put, List.setIfInBounds_toArray, List.set_cons_zero, List.set_cons_succ]
    refine WE_q 6 rfl (by decide) (by kernel_rfl) rfl ?_; apply Exists.intro; refine ⟨fun w1 hx1 => ?_, ?_⟩
    · have hq1 := hx1.cells; go_simp; try go_bits
      first | with_reducible rfl | (refine (bit_any _ _ _ hn).mono ?_; rintro e w' ⟨rfl, rfl⟩; exact ⟨by rw [g], Ext.refl _⟩)
    simp only [Act.put, List.setIfInBounds_toArray, List.set_cons_zero, List.set_cons_succ]
    refine WE_q 7 rfl (by decide) (by kernel_rfl) rfl ?_; apply Exists.intro; refine ⟨fun w1 hx1 => ?_, ?_⟩
    · have hq1 := hx1.cells; go_simp; try go_bits
      first | with_reducible rfl | (refine (bit_any _ _ _ hn).mono ?_; rintro e w' ⟨rfl, rfl⟩; exact ⟨by rw [g], Ext.refl _⟩)
    simp only [Act.put, List.setIfInBounds_toArray, List.set_cons_zero, List.set_cons_succ]
    refine WE_q 8 rfl (by decide) (by kernel_rfl) rfl ?_; apply Exists.intro; refine ⟨fun w1 hx1 => ?_, ?_⟩
    · have hq1 := hx1.cells; go_simp; try go_bits
      first | with_reducible rfl | (refine (bit_any _ _ _ hn).mono ?_; rintro e w' ⟨rfl, rfl⟩; exact ⟨by rw [g], Ext.refl _⟩)
    simp only [Act.put, List.setIfInBounds_toArray, List.set_cons_zero, List.set_cons_succ]
    refine WE_q 9 rfl (by decide) (by kernel_rfl) rfl ?_; apply Exists.intro; refine ⟨fun w1 hx1 => ?_, ?_⟩
    · have hq1 := hx1.cells; go_simp; try go_bits
      first | with_reducible rfl | (refine (bit_any _ _ _ hn).mono ?_; rintro e w' ⟨rfl, rfl⟩; exact ⟨by rw [g], Ext.refl _⟩)
    simp only [Act.put, List.setIfInBounds_toArray, List.set_cons_zero, List.set_cons_succ]
    refine WE_q 10 rfl (by decide) (by kernel_rfl) rfl ?_; apply Exists.intro; refine ⟨fun w1 hx1 => ?_, ?_⟩
    · have hq1 := hx1.cells; go_simp; try go_bits
      first | with_reducible rfl | (refine (bit_any _ _ _ hn).mono ?_; rintro e w' ⟨rfl, rfl⟩; exact ⟨by rw [g], Ext.refl _⟩)
    simp only [Act.put, List.setIfInBounds_toArray, List.set_cons_zero, List.set_cons_succ]
    refine WE_q 11 rfl (by decide) (by kernel_rfl) rfl ?_; apply Exists.intro; refine ⟨fun w1 hx1 => ?_, ?_⟩
    · have hq1 := hx1.cells; go_simp; try go_bits
      first | with_reducible rfl | (refine (bit_any _ _ _ hn).mono ?_; rintro e w' ⟨rfl, rfl⟩; exact ⟨by rw [g], Ext.refl _⟩)
    simp only [Act.put, List.setIfInBounds_toArray, List.set_cons_zero, List.set_cons_succ]
    refine WE_done (by kernel_rfl) (fun w3 hx3 => ?_)
    (try simp only [List.drop_succ_cons, List.drop_zero])
    go_wp2
    go_ret
    exact ⟨by rw [H.out]; rfl, hx3⟩
end Go.Proofs.Ytilaljdokpdcoaa
