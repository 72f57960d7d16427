/- The trie's rules, in order. Conditions: whole numbers are within 64 bits; a million forks at most. -/
import Derived.Test.YtgkefgibpbdepaaTrieU
namespace Go.Proofs.Ytgkefgibpbdepaa
open Go.RowKit

@[go_sem high] theorem index_kids0 (vl vk : Value) (w : World) : (Instr.index 69 (.agg #[vl, vk]) (.int .i64 0)).run Try.prog w = .ok vl w := by kernel_rfl
@[go_sem high] theorem index_kids1 (vl vk : Value) (w : World) : (Instr.index 69 (.agg #[vl, vk]) (.int .i64 1)).run Try.prog w = .ok vk w := by kernel_rfl
def OwnR (w : World) (B : Nat) (v : Value) (l : List Rul) : Prop := w.ownsRow B 29 4 v l.length (rcells l)
theorem OwnR.nil (w : World) (B : Nat) : OwnR w B (.slice none 0 0) [] := ⟨by simp [rcells], .inl ⟨rfl, rfl⟩⟩
theorem OwnR.below {w w' : World} {B : Nat} {v : Value} {l : List Rul} (h : OwnR w B v l) (hx : Ext w w') : OwnR w' B v l := own_later h hx
theorem below_trans {B : Nat} {a b c : World} (h : Below B a b) (k : Below B b c) : Below B a c := h.trans k
theorem tree_below {w w' : World} {t : T} {v : Value} {bs : List Nat} {B : Nat} (h : TreeAt w t v bs) (hb : ∀ b ∈ bs, b < B) (hx : Below B w w') : TreeAt w' t v bs :=
  h.same fun b hq => hx.block b (hb b hq)
theorem blk_below {w w' : World} {b B : Nat} {cs : List Value} {T : TypeId} (h : Blk w b cs T) (hb : b < B) (hx : Below B w w') : Blk w' b cs T := by
  unfold Blk at *; rw [hx.block b hb]; exact h
def RulesPost (w : World) (B : Nat) (l : List Rul) (e : Ending) (w' : World) : Prop := ∃ v, e = .returned v ∧ OwnR w' B v l ∧ Below B w w'
theorem rules_le : ∀ t : T, t.rules.length ≤ t.size
  | .nil => Nat.le_refl _
  | .node _ _ _ is l k => by
    have h1 := rules_le l
    have h2 := rules_le k
    cases is <;> simp [T.rules, T.size] <;> omega
set_option maxHeartbeats 2000000 in
theorem forkRules_any : ∀ (t : T) (w : World) (B : Nat) (v : Value) (bs : List Nat) (lv : Value) (xs : List Rul), TreeAt w t v bs → (∀ b ∈ bs, b < B) → B ≤ w.heap.size → OwnR w B lv xs → xs.length + t.size ≤ 1000000 →
    Calls Try.prog 35 #[v, lv] w (RulesPost w B (xs ++ t.rules)) := by
  intro t
  induction t with
  | nil =>
    rintro w B v bs lv xs ⟨rfl, rfl⟩ _ _ ho _
    have HO := Lib.hid ho
    clear ho
    go_enter Try.func35, Try.ntmps35
    go_wp2
    go_ret
    exact ⟨_, rfl, by rw [T.rules, List.append_nil]; exact HO.out, Below.refl _ _⟩
  | node pa n r is l k ihl ihk =>
    rintro w B v bs lv xs ⟨b, bl, bk, vl, vk, rfl, rfl, hb, hl, hk⟩ hbs hB ho hn
    have HL := Lib.hid hl
    have HK := Lib.hid hk
    have HBL := Lib.hid (show ∀ q ∈ bl, q < B from fun q hq => hbs q (by simp [hq]))
    have HBK := Lib.hid (show ∀ q ∈ bk, q < B from fun q hq => hbs q (by simp [hq]))
    have hbB : b < B := hbs b (by simp)
    have HO := Lib.hid ho
    have HBB := Lib.hid hB
    have hsz : (T.node pa n r is l k).size = 1 + l.size + k.size := rfl
    have IHL := Lib.hid ihl
    have IHK := Lib.hid ihk
    have k0 := hb.cells
    have HB := Lib.hid hb
    have hll := rules_le l
    have hlk := rules_le k
    clear hl hk hbs ho ihl ihk hb hB
    rw [hsz] at hn
    clear hsz
    cases is with
    | false =>
      have HR := Lib.hid (show (T.node pa n r false l k).rules = l.rules ++ k.rules by simp [T.rules])
      go_enter Try.func35, Try.ntmps35
      go_wp2_with fail
      go_loopw [1, 25] (fun lw j wr => ∃ (c : Nat) (part : List Rul), c ≤ 2 ∧ j = I c ∧ Hid ((c = 0 → part = []) ∧ (c = 1 → part = l.rules) ∧ (c = 2 → part = l.rules ++ k.rules)) ∧ Hid (OwnR wr B lw (xs ++ part)) ∧ Hid (Below B w wr)) (fun _ j _ => 2 - (intOf j).toNat)
      case atStart => exact ⟨0, [], by omega, rfl, ⟨fun _ => rfl, fun h => by omega, fun h => by omega⟩, by rw [List.append_nil]; exact HO.out, Below.refl _ _⟩
      case round =>
        obtain ⟨c, part, hc, rfl, HP, HO2, HX2⟩ := hrel
        have hpc : ∀ o, wr.cell? ⟨b, o, none⟩ = (forkC pa n r false vl vk)[o]? := (blk_below HB.out hbB HX2.out).cells
        have hsz : B ≤ wr.heap.size := Nat.le_trans HBB.out HX2.out.size
        have HSZ := Lib.hid hsz
        clear hsz
        obtain rfl | rfl | rfl : c = 0 ∨ c = 1 ∨ c = 2 := by omega
        · obtain rfl : part = [] := HP.out.1 rfl
          rw [List.append_nil] at HO2
          go_wp2_with (first
            | (go_at_call 35; (with_reducible refine (IHL.out wr B vl bl _ xs (tree_below HL.out HBL.out HX2.out) HBL.out HSZ.out HO2.out (by omega)).mono ?_); rintro e w2 hp2; obtain ⟨lv2, he, ho2, hx2⟩ := hp2; subst he; have HO3 := Lib.hid ho2; have HX3 := Lib.hid (HX2.out.trans hx2); clear ho2 hx2))
          go_roundw
          case rel => exact ⟨1, l.rules, by omega, rfl, ⟨fun h => by omega, fun _ => rfl, fun h => by omega⟩, HO3.out, HX3.out⟩
          case measure => decide
        · obtain rfl : part = l.rules := HP.out.2.1 rfl
          go_wp2_with (first
            | (go_at_call 35; (with_reducible refine (IHK.out wr B vk bk _ (xs ++ l.rules) (tree_below HK.out HBK.out HX2.out) HBK.out HSZ.out HO2.out (by rw [List.length_append]; omega)).mono ?_); rintro e w2 hp2; obtain ⟨lv2, he, ho2, hx2⟩ := hp2; subst he; have HO3 := Lib.hid ho2; have HX3 := Lib.hid (HX2.out.trans hx2); clear ho2 hx2))
          go_roundw
          case rel => exact ⟨2, l.rules ++ k.rules, by omega, rfl, ⟨fun h => by omega, fun h => by omega, fun _ => rfl⟩, by show OwnR _ _ _ _; rw [← List.append_assoc]; exact HO3.out, HX3.out⟩
          case measure => decide
        · obtain rfl : part = l.rules ++ k.rules := HP.out.2.2 rfl
          have HF := Lib.hid (show OwnR wr B _ (xs ++ (T.node pa n r false l k).rules) by rw [HR.out]; skip; exact HO2.out)
          go_wp2
          go_ret
          exact ⟨_, rfl, HF.out, HX2.out⟩
    | true =>
      have HR := Lib.hid (show (T.node pa n r true l k).rules = [r] ++ (l.rules ++ k.rules) by simp [T.rules])
      have HS := Lib.hid (Reads.made w 4 29 1 r.cells rfl (by unfold maxLen; omega))
      have HOA := Lib.hid (show OwnR (w.alloc (.cells r.cells.toArray 29)) B lv xs from HO.out.alloc _)
      have HZ := Lib.hid (show B ≤ (w.alloc (.cells r.cells.toArray 29)).heap.size from Nat.le_trans HBB.out ((Ext.refl w).alloc _).size)
      have hol : w.ownsRow B 29 4 lv xs.length (rcells xs) := HO.out
      have HLT := Lib.hid (hol.lt)
      clear hol
      go_enter Try.func35, Try.ntmps35
      go_wp2_with (first
        | (at_builtin; refine wpList_app rfl (.tmp 14) (.tmp 19) 22 rfl B 29 _ 4 32 Try.underlying22 infoRule rfl (by decide) (by decide) _ _ _ rfl HOA.out _ _ _ rfl HS.out (by intro u hu; exact rcells_one [r] u (by simpa [rcells] using hu)) (by omega) HZ.out ?_; intro v6 w6 ho6 hg6; have HO6 := Lib.hid ho6; have HG6 := Lib.hid hg6; clear ho6 hg6; have HX1 := Lib.hid (show Below B w w6 from Below.grown ((Below.refl _ _).alloc HBB.out _) HG6.out (Nat.le_trans HBB.out ((Ext.refl w).alloc _).size) (fun q hq => (HLT.out q hq).1)); have k6 := (blk_below HB.out hbB HX1.out).cells))
      have HO1 := Lib.hid (show OwnR w6 B v6 (xs ++ [r]) by
        have := HO6.out
        show World.ownsRow _ _ _ _ _ _ _
        rw [rcells_app, List.length_append]
        simpa [rcells] using this)
      go_loopw [1, 25] (fun lw j wr => ∃ (c : Nat) (part : List Rul), c ≤ 2 ∧ j = I c ∧ Hid ((c = 0 → part = []) ∧ (c = 1 → part = l.rules) ∧ (c = 2 → part = l.rules ++ k.rules)) ∧ Hid (OwnR wr B lw ((xs ++ [r]) ++ part)) ∧ Hid (Below B w wr)) (fun _ j _ => 2 - (intOf j).toNat)
      case atStart => exact ⟨0, [], by omega, rfl, ⟨fun _ => rfl, fun h => by omega, fun h => by omega⟩, by rw [List.append_nil]; exact HO1.out, HX1.out⟩
      case round =>
        obtain ⟨c, part, hc, rfl, HP, HO2, HX2⟩ := hrel
        have hpc : ∀ o, wr.cell? ⟨b, o, none⟩ = (forkC pa n r true vl vk)[o]? := (blk_below HB.out hbB HX2.out).cells
        have hsz : B ≤ wr.heap.size := Nat.le_trans HBB.out HX2.out.size
        have HSZ := Lib.hid hsz
        clear hsz
        obtain rfl | rfl | rfl : c = 0 ∨ c = 1 ∨ c = 2 := by omega
        · obtain rfl : part = [] := HP.out.1 rfl
          rw [List.append_nil] at HO2
          go_wp2_with (first
            | (go_at_call 35; (with_reducible refine (IHL.out wr B vl bl _ (xs ++ [r]) (tree_below HL.out HBL.out HX2.out) HBL.out HSZ.out HO2.out (by rw [List.length_append]; simp; omega)).mono ?_); rintro e w2 hp2; obtain ⟨lv2, he, ho2, hx2⟩ := hp2; subst he; have HO3 := Lib.hid ho2; have HX3 := Lib.hid (HX2.out.trans hx2); clear ho2 hx2))
          go_roundw
          case rel => exact ⟨1, l.rules, by omega, rfl, ⟨fun h => by omega, fun _ => rfl, fun h => by omega⟩, HO3.out, HX3.out⟩
          case measure => decide
        · obtain rfl : part = l.rules := HP.out.2.1 rfl
          go_wp2_with (first
            | (go_at_call 35; (with_reducible refine (IHK.out wr B vk bk _ ((xs ++ [r]) ++ l.rules) (tree_below HK.out HBK.out HX2.out) HBK.out HSZ.out HO2.out (by rw [List.length_append, List.length_append]; simp; omega)).mono ?_); rintro e w2 hp2; obtain ⟨lv2, he, ho2, hx2⟩ := hp2; subst he; have HO3 := Lib.hid ho2; have HX3 := Lib.hid (HX2.out.trans hx2); clear ho2 hx2))
          go_roundw
          case rel => exact ⟨2, l.rules ++ k.rules, by omega, rfl, ⟨fun h => by omega, fun h => by omega, fun _ => rfl⟩, by show OwnR _ _ _ _; rw [← List.append_assoc]; exact HO3.out, HX3.out⟩
          case measure => decide
        · obtain rfl : part = l.rules ++ k.rules := HP.out.2.2 rfl
          have HF := Lib.hid (show OwnR wr B _ (xs ++ (T.node pa n r true l k).rules) by rw [HR.out]; (try simp only [List.append_assoc]); try rw [List.append_assoc] at HO2; exact HO2.out)
          go_wp2
          go_ret
          exact ⟨_, rfl, HF.out, HX2.out⟩

theorem trieRules_any (w : World) (B tb : Nat) (t : T) (v : Value) (bs : List Nat) (h : TrieAt w B tb t v bs) (hs : t.size ≤ 1000000) :
    Calls Try.prog 19 #[.pointer (some ⟨tb, 0, none⟩)] w fun e w' => ∃ rv, e = .returned rv ∧ RulesAt w' rv t.rules ∧ Ext w w' := by
  have k0 := h.blk.cells
  have HT := Lib.hid h.tree
  have HLT := Lib.hid (show ∀ b ∈ bs, b < w.heap.size from fun b hb => HT.out.lt b hb)
  clear h
  go_enter Try.func19, Try.ntmps19
  go_wp2_with (first
    | (go_at_call 35; (with_reducible refine (forkRules_any t w w.heap.size v bs _ [] HT.out HLT.out (Nat.le_refl _) (OwnR.nil _ _) (by simp; omega)).mono ?_); rintro e w2 hp2; obtain ⟨lv2, he, ho2, hx2⟩ := hp2; subst he; have HO3 := Lib.hid ho2; have HX3 := Lib.hid hx2; clear ho2 hx2))
  go_ret
  refine ⟨_, rfl, ?_, HX3.out⟩
  have := Reads.of_own HO3.out
  show Reads _ _ _ _ _
  simpa using this
end Go.Proofs.Ytgkefgibpbdepaa
