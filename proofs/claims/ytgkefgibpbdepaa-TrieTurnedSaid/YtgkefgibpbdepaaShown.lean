/- The statements' head: the document's example of a trie. Conditions: none. -/
import Derived.Test.YtgkefgibpbdepaaTrieM
namespace Go.Proofs.Ytgkefgibpbdepaa
open Go.RowKit

def shA : Rul := ⟨167772160#32, 9, 3, 0⟩
def shB : Rul := ⟨176160768#32, 9, 2, 0⟩
theorem sh_size : (buildT [shA, shB]).size = 3 := by decide +kernel
theorem sh_find : (buildT [shA, shB]).find 176160773#32 none = some shB := by decide +kernel
theorem sh_val : foundV ((buildT [shA, shB]).find 176160773#32 none) = .tuple #[.agg #[.int .u32 176160768, I 9, I 2, I 0], .bool true] := by
  rw [sh_find]; rfl
theorem sh_reads (w : World) : RulesAt (w.alloc (.cells #[.int .u32 167772160, I 9, I 3, I 0, .int .u32 176160768, I 9, I 2, I 0] 29)) (.slice (some ⟨w.heap.size, 0, none⟩) 2 2) [shA, shB] :=
  Reads.made w 4 29 2 (rcells [shA, shB]) rfl (by unfold maxLen; omega)
theorem sh_ok : RulesOk [shA, shB] := by
  intro r hr
  simp only [List.mem_cons, List.not_mem_nil, or_false] at hr
  rcases hr with rfl | rfl <;> exact ⟨by unfold In64; decide, by unfold In64; decide, by unfold In64; decide⟩

set_option maxHeartbeats 1000000 in
theorem shown11_any (w : World) : Calls Try.prog 9 #[] w fun e w' => e = .returned (.bool true) ∧ Ext w w' := by
  have h1 := Lib.hid (@sh_reads w)
  go_enter Try.func9, Try.ntmps9
  go_wp2_with (first
    | (go_at_call 11; refine (trieBuild_any _ [shA, shB] _ h1.out sh_ok (by decide)).mono ?_; rintro e w1 ⟨tb, v, bs, rfl, hT, hx1⟩; have HT := Lib.hid hT; clear hT)
    | (go_at_call 12; refine (trieFind_any _ _ tb _ v bs 176160773#32 HT.out).mono ?_; rintro e w2 ⟨he, hx2⟩; rw [sh_val] at he; subst he)
    | (go_at_call 13; refine (trieSize_any _ _ tb _ v bs (HT.out.later (hx2.alloc _))).mono ?_; rintro e w3 ⟨he, hx3⟩; rw [sh_size] at he; subst he; have kc := (Blk.later (Blk.new w2 [.int .u32 176160768, I 9, I 2, I 0] 29) hx3).cells))
  go_ret
  exact ⟨rfl, Ext.trans ((Ext.refl w).alloc _) (hx1.trans (hx2.trans (Ext.trans ((Ext.refl w2).alloc _) hx3)))⟩
end Go.Proofs.Ytgkefgibpbdepaa
