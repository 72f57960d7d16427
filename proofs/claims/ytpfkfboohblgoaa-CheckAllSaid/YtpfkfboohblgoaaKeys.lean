/- atoms.key: a vector's text. Conditions: each number is from -1 to 65534; whole numbers are within 64 bits. -/
import Derived.Test.YtpfkfboohblgoaaGVec
import Derived.OwnWalk
import Derived.Laws.BytesArg
namespace Go.Proofs.Ytpfkfboohblgoaa
open Go.RowKit

theorem infoU8 : (Try.prog.info? 5).map (fun i => (i.zero, i.size, i.bytes)) = some (some (.int .u8 0), 1, 1) := by kernel_rfl
abbrev B8 (x : Int) : Value := .int .u8 x
/-- The two bytes of a number. -/
def kv2 (x : Int) : List Int := [(x + 1) / 256, (x + 1) % 256]
def kvs (l : List Int) : List Int := l.flatMap kv2
theorem kvs_len (l : List Int) : (kvs l).length = l.length * 2 := flat_len _ 2 (fun _ => rfl) l
theorem kvs_step {l : List Int} {k : Nat} (h : k < l.length) : kvs (l.take (k + 1)) = kvs (l.take k) ++ kv2 l[k] := by
  unfold kvs
  rw [List.take_succ_eq_append_getElem h, List.flatMap_append]; simp
def OwnB (w : World) (B : Nat) (v : Value) (l : List Int) : Prop := w.ownsRow B 5 1 v l.length (l.map B8)
theorem OwnB.later {w w' : World} {B : Nat} {v : Value} {l : List Int} (h : OwnB w B v l) (hx : Ext w w') : OwnB w' B v l := own_later h hx
theorem OwnB.none {w : World} {B : Nat} {v : Value} {l : List Int} (h : OwnB w B v l) : ∃ a cap, v = .slice a l.length cap ∧ l.length ≤ cap ∧ (∀ (i : Nat), i < l.length → ∃ b off, a = some ⟨b, off, none⟩ ∧ w.cell? ⟨b, off + i, none⟩ = some (B8 (l.getD i 0))) := by
  obtain ⟨h0, a, cap, h1, h2, h3, h4, h5⟩ := Reads.of_own h
  refine ⟨a, cap, h1, h2, fun i hi => ?_⟩
  cases a with
  | none => have := h4 rfl; omega
  | some b =>
    have hg : (l.map B8)[i]? = some (B8 (l.getD i 0)) := by rw [List.getElem?_map, List.getElem?_eq_getElem hi, List.getD_eq_getElem?_getD, List.getElem?_eq_getElem hi]; rfl
    obtain ⟨e1, e2⟩ := h5 b rfl
    replace e1 : b.spot = Option.none := by
      rcases e1 with e1 | e1
      · exact e1
      · rw [e1] at hg; cases hg
    obtain ⟨bb, bo, bs⟩ := b
    simp only at e1
    subst e1
    exact ⟨bb, bo, rfl, e2 i _ hg⟩
set_option maxHeartbeats 2000000 in
set_option maxRecDepth 100000 in
theorem key_any (v : Value) (l : List Int) (w : World) (hv : IntsAt w v l) (hn : l.length ≤ 1000000) (hb : ∀ x ∈ l, -1 ≤ x ∧ x ≤ 65534) :
    Calls Try.prog 72 #[v] w fun e w' => e = .returned (.string (strOfNums (kvs l))) ∧ Ext w w' := by
  obtain ⟨ad, cap, rfl, a1, a2, a3⟩ := hv.form
  have A3 := Lib.hid a3
  have HBD := Lib.hid hb
  clear a3 hb hv
  unfold maxLen at a2
  obtain ⟨i8, hi8, hz8, hs8, hb8⟩ := info_parts infoU8
  have HI8 := Lib.hid hi8
  have HZ8 := Lib.hid hz8
  have HS8 := Lib.hid hs8
  clear hi8 hz8 hs8
  go_enter Try.func72, Try.ntmps72
  go_upto_region 2 with (at_make; go_loud (refine wpList_make_own _ rfl _ _ 150 rfl w.heap.size 5 i8 (.int .u8 0) 1 Try.underlying150 HI8.out HZ8.out HS8.out .i64 .i64 _ (2 * l.length) rfl rfl (by omega) (by rw [hb8]; omega) (by unfold maxLen; omega) (Nat.le_refl _) ?_); intro w1 hown1 hgrow1; have HO1 := Lib.hid (show OwnB w1 w.heap.size _ [] from hown1); have HX1 := Lib.hid (show Ext w w1 from Below.grown (Ext.refl w) hgrow1 (Nat.le_refl _) (fun j hj => by cases hj)); clear hown1 hgrow1)
  go_wp2_with fail
  go_loopw [3, 12] (fun v i wr => ∃ k : Nat, k ≤ l.length ∧ i = I k ∧ Hid (OwnB wr w.heap.size v (kvs (l.take k))) ∧ Hid (Ext w wr)) (fun _ i _ => l.length - (intOf i).toNat)
  case atStart => exact ⟨0, by omega, rfl, HO1.out, HX1.out⟩
  case round =>
    obtain ⟨k, hk, rfl, HO, HX⟩ := hrel
    by_cases hlt : k < l.length
    · obtain ⟨b0, o0, rfl, p0⟩ := A3.out k l[k] (List.getElem?_eq_getElem hlt)
      replace p0 := HX.out.cell p0
      obtain ⟨xlo, xhi⟩ := HBD.out _ (List.getElem_mem hlt)
      have HST := Lib.hid (kvs_step hlt)
      generalize l[k] = x at *
      have HLEN := Lib.hid (show (kvs (l.take k)).length ≤ 2000000 by rw [kvs_len, List.length_take]; omega)
      have HA := Lib.hid (show Ext w (wr.alloc (.cells #[B8 ((x + 1) / 256), B8 ((x + 1) % 256)] 5)) from HX.out.alloc _)
      have HOA := Lib.hid (show (wr.alloc (.cells #[B8 ((x + 1) / 256), B8 ((x + 1) % 256)] 5)).ownsRow w.heap.size 5 1 _ (kvs (l.take k)).length ((kvs (l.take k)).map B8) from HO.out.later ((Ext.refl wr).alloc _))
      have HSRC := Lib.hid (show Reads (wr.alloc (.cells #[B8 ((x + 1) / 256), B8 ((x + 1) % 256)] 5)) 1 (.slice (some ⟨wr.heap.size, 0, none⟩) 2 2) 2 [B8 ((x + 1) / 256), B8 ((x + 1) % 256)] from Reads.made wr 1 5 2 [B8 ((x + 1) / 256), B8 ((x + 1) % 256)] rfl (by unfold maxLen; omega))
      have HONE := Lib.hid (show ∀ u ∈ [B8 ((x + 1) / 256), B8 ((x + 1) % 256)], u.oneCell' = true from by intro u hu; simp only [List.mem_cons, List.not_mem_nil, or_false] at hu; rcases hu with rfl | rfl <;> rfl)
      go_wp2_with (first
        | (at_builtin; refine wpList_app rfl (.tmp 16) (.tmp 24) 150 rfl w.heap.size 5 _ 1 1 Try.underlying150 infoU8 rfl (by decide) (by decide) _ _ _ rfl HOA.out _ _ _ rfl HSRC.out HONE.out (by have := HLEN.out; omega) HA.out.size ?_; intro v9 w9 ho9 hg9; have HO9 := Lib.hid ho9; have HX9 := Lib.hid (Ext.grown HA.out hg9 HOA.out (Nat.le_refl _)); clear ho9 hg9))
      go_roundw
      case rel =>
        refine ⟨k + 1, by omega, by go_num, ?_, HX9.out⟩
        show OwnB _ _ _ _
        rw [HST.out]
        unfold OwnB
        rw [List.length_append, List.map_append]
        exact HO9.out
      case measure => simp [intOf]; omega
    · have HE := Lib.hid (show kvs (l.take k) = kvs l by rw [List.take_of_length_le (by omega)])
      rw [HE.out] at HO
      obtain ⟨va, vcap, rfl, v1, v2⟩ := HO.out.none
      have hdone : decide ((k : Int) < (l.length : Int)) = false := decide_eq_false (by omega)
      have hcv : (convert 150 9 (.slice va (kvs l).length vcap)).run Try.prog wr = .ok (.string (strOfNums (kvs l))) wr := by
        cases va with
        | none =>
          have h0 : (kvs l).length = 0 := by
            rcases Nat.eq_zero_or_pos (kvs l).length with g | g
            · exact g
            · obtain ⟨_, _, h, _⟩ := v2 0 g; cases h
          have he : kvs l = [] := List.length_eq_zero_iff.1 h0
          rw [run_convert_bytes_nil (P := Try.prog) wr 150 5 Try.underlying150 Try.underlying5 (kvs l).length vcap 9 Try.underlying9, he]
          rfl
        | some p =>
          by_cases hz : 0 < (kvs l).length
          · obtain ⟨b, o, hp, _⟩ := v2 0 hz
            obtain rfl := Option.some.inj hp
            exact run_convert_bytes_arg (P := Try.prog) wr 150 5 Try.underlying150 Try.underlying5 b o _ vcap (kvs l) rfl (fun i hi => by
              obtain ⟨b', o', hp', h⟩ := v2 i hi
              simp only [Option.some.injEq, Addr.mk.injEq, and_true] at hp'
              obtain ⟨rfl, rfl⟩ := hp'
              exact h) 9 Try.underlying9
          · have he : kvs l = [] := List.length_eq_zero_iff.1 (by omega)
            rw [he, run_convert_bytes_string wr 150 9 5 _ _ _ Try.underlying150 Try.underlying5 Try.underlying9]
            rw [run_bytesToString wr p _ _ [] (by rfl)]
            rfl
      clear v2
      go_wp2_with fail
      go_ret
      exact ⟨rfl, HX.out⟩
end Go.Proofs.Ytpfkfboohblgoaa
