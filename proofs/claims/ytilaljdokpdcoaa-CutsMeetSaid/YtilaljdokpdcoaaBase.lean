/- Plain words that all walks of this seat share: numbers of 32 bits as bit vectors, worlds that only grow, rows of cells. Conditions: none. -/
import Derived.Test.YtilaljdokpdcoaaProg
import Derived.WalkKit
import Derived.WalkSpells
import Derived.WalkLawsBesides
import Derived.Outline
import Derived.Lib.Hide
import Derived.Deep.QuietTactic
import Derived.BigQuiet
import Derived.Deep.DeepFit
import Derived.Deep.DeepMust
import Derived.Deep.DeepCutAuto
import Derived.Deep.CutBlock
namespace Go.Proofs.Ytilaljdokpdcoaa
open Go.RowKit

/-- A number of 32 bits, as the walk's whole number. -/
def uv (a : BitVec 32) : Int := (a.toNat : Int)
theorem uv_nonneg (a : BitVec 32) : 0 ≤ uv a := by unfold uv; omega
theorem uv_lt (a : BitVec 32) : uv a < 4294967296 := by unfold uv; omega
theorem uv_bd (a : BitVec 32) : 0 ≤ uv a ∧ uv a < 4294967296 := ⟨uv_nonneg a, uv_lt a⟩
@[simp, go_sem] theorem ofInt_uv (a : BitVec 32) : BitVec.ofInt 32 (uv a) = a := by simp [uv]
theorem uv_ofInt (n : Int) (h0 : 0 ≤ n) (h1 : n < 4294967296) : uv (BitVec.ofInt 32 n) = n := by
  unfold uv; rw [BitVec.toNat_ofInt]; omega
theorem uv_inj {a b : BitVec 32} (h : uv a = uv b) : a = b := by
  rw [← ofInt_uv a, ← ofInt_uv b, h]
/-- A number of 32 bits as a value; a whole number as one. -/
abbrev U (a : BitVec 32) : Value := .int .u32 (uv a)
abbrev I (n : Int) : Value := .int .i64 n

theorem wrap_u32_nat (r : BitVec 32) : IntKind.u32.wrap (r.toNat : Int) = uv r := by
  have := r.isLt
  rw [IntKind.wrap_u32']; unfold uv; omega
theorem bits_u32 (op : BinOp) (x y : Int) (f : BitVec 32 → BitVec 32 → BitVec 32)
    (h : bits op .u32 x y = IntKind.u32.wrap ((f (BitVec.ofInt 32 x) (BitVec.ofInt 32 y)).toNat : Int)) :
    bits op .u32 x y = uv (f (BitVec.ofInt 32 x) (BitVec.ofInt 32 y)) := by rw [h, wrap_u32_nat]
@[go_sem high] theorem bits_and_uv (a b : BitVec 32) : bits .and .u32 (uv a) (uv b) = uv (a &&& b) := by
  have := bits_u32 .and (uv a) (uv b) (· &&& ·) rfl; simpa using this
@[go_sem high] theorem bits_or_uv (a b : BitVec 32) : bits .or .u32 (uv a) (uv b) = uv (a ||| b) := by
  have := bits_u32 .or (uv a) (uv b) (· ||| ·) rfl; simpa using this
@[go_sem high] theorem bits_xor_uv (a b : BitVec 32) : bits .xor .u32 (uv a) (uv b) = uv (a ^^^ b) := by
  have := bits_u32 .xor (uv a) (uv b) (· ^^^ ·) rfl; simpa using this
@[go_sem high] theorem bits_andNot_uv (a b : BitVec 32) : bits .andNot .u32 (uv a) (uv b) = uv (a &&& ~~~b) := by
  have := bits_u32 .andNot (uv a) (uv b) (fun x y => x &&& ~~~y) rfl; simpa using this
@[go_sem high] theorem bits_and_uv_lit (a : BitVec 32) (n : Int) : bits .and .u32 (uv a) n = uv (a &&& BitVec.ofInt 32 n) := by
  have := bits_u32 .and (uv a) n (· &&& ·) rfl; simpa using this
@[go_sem high] theorem bits_xor_lit_uv (a : BitVec 32) (n : Int) : bits .xor .u32 n (uv a) = uv (BitVec.ofInt 32 n ^^^ a) := by
  have := bits_u32 .xor n (uv a) (· ^^^ ·) rfl; simpa using this
@[go_sem high] theorem wrap_u32_uv (a : BitVec 32) : IntKind.u32.wrap (uv a) = uv a := by have := uv_bd a; rw [IntKind.wrap_u32']; omega
@[go_sem high] theorem wrap_i64_uv (a : BitVec 32) : IntKind.i64.wrap (uv a) = uv a := by have := uv_bd a; rw [IntKind.wrap_i64]; omega
@[go_sem high] theorem uv_beq (a b : BitVec 32) : (uv a == uv b) = (a == b) := by
  by_cases h : a = b
  · subst h; simp
  · have : uv a ≠ uv b := fun e => h (uv_inj e)
    rw [beq_eq_false_iff_ne.2 this, beq_eq_false_iff_ne.2 h]
@[go_sem high] theorem uv_beq_zero (a : BitVec 32) : (uv a == 0) = (a == 0#32) := uv_beq a 0#32
@[go_sem high] theorem uv_bne (a b : BitVec 32) : (uv a != uv b) = (a != b) := by rw [bne, bne, uv_beq]
@[go_sem high] theorem uv_bne_zero (a : BitVec 32) : (uv a != 0) = (a != 0#32) := uv_bne a 0#32
theorem wrap_of_toNat {n : Int} {r : BitVec 32} (h : n % 4294967296 = uv r) : IntKind.u32.wrap n = uv r := by rw [IntKind.wrap_u32', h]
@[go_sem high] theorem wrap_uv_add_uv (a b : BitVec 32) : IntKind.u32.wrap (uv a + uv b) = uv (a + b) := by
  refine wrap_of_toNat ?_; unfold uv; rw [BitVec.toNat_add]; omega
@[go_sem high] theorem wrap_uv_sub_uv (a b : BitVec 32) : IntKind.u32.wrap (uv a - uv b) = uv (a - b) := by
  refine wrap_of_toNat ?_; unfold uv; rw [BitVec.toNat_sub]; have := a.isLt; have := b.isLt; omega
theorem uv_add_lit (a : BitVec 32) (n : Int) : IntKind.u32.wrap (uv a + n) = uv (a + BitVec.ofInt 32 n) := by
  refine wrap_of_toNat ?_; unfold uv; rw [BitVec.toNat_add, BitVec.toNat_ofInt]; have := a.isLt; omega
@[go_sem high] theorem wrap_uv_add1 (a : BitVec 32) : IntKind.u32.wrap (uv a + 1) = uv (a + 1#32) := uv_add_lit a 1
@[go_sem high] theorem wrap_uv_sub1 (a : BitVec 32) : IntKind.u32.wrap (uv a - 1) = uv (a - 1#32) := by
  refine wrap_of_toNat ?_; unfold uv; rw [BitVec.toNat_sub]; have := a.isLt; simp; omega
@[go_sem high] theorem wrap_uv_mul2 (a : BitVec 32) : IntKind.u32.wrap (uv a * 2) = uv (a * 2#32) := by
  refine wrap_of_toNat ?_; unfold uv; rw [BitVec.toNat_mul]; simp
@[go_sem high] theorem wrap_uv_shl (a : BitVec 32) (k : Nat) : IntKind.u32.wrap (uv a * 2 ^ k) = uv (a <<< k) := by
  refine wrap_of_toNat ?_; unfold uv; rw [BitVec.toNat_shiftLeft, Nat.shiftLeft_eq]; simp
theorem uv_lt_iff (a b : BitVec 32) : (uv a < uv b) ↔ (a < b) := by rw [BitVec.lt_def]; unfold uv; omega
theorem uv_le_iff (a b : BitVec 32) : (uv a ≤ uv b) ↔ (a ≤ b) := by rw [BitVec.le_def]; unfold uv; omega

theorem ret_int {k : IntKind} {a b : Int} (h : a = b) : Ending.returned (.int k a) = .returned (.int k b) := by rw [h]
theorem ret_bool {a b : Bool} (h : a = b) : Ending.returned (.bool a) = .returned (.bool b) := by rw [h]
theorem ret_u {a b : BitVec 32} (h : a = b) : Ending.returned (U a) = .returned (U b) := by rw [h]

/-- What there was stays as it was; there may be more. -/
def Ext (w w' : World) : Prop := Below w.heap.size w w'
theorem Ext.refl (w : World) : Ext w w := Below.refl _ _
theorem Ext.size {a b : World} (h : Ext a b) : a.heap.size ≤ b.heap.size := Below.size h
theorem Ext.trans {a b c : World} (h : Ext a b) (k : Ext b c) : Ext a c := Below.trans h (Below.mono k h.size)
theorem Ext.below {w w' : World} (h : Ext w w') : Below w.heap.size w w' := h
theorem Ext.cell {w w' : World} (h : Ext w w') {p : Addr} {v : Value} (hp : w.cell? p = some v) : w'.cell? p = some v := by
  have hb : p.block < w.heap.size := by
    rcases Nat.lt_or_ge p.block w.heap.size with h' | h'
    · exact h'
    · simp [World.cell?, Array.getElem?_eq_none h'] at hp
  rw [Below.cell h hb]; exact hp
theorem Ext.cells {w w' : World} (h : Ext w w') : ∀ b o, b < w.heap.size → w'.cell? ⟨b, o, none⟩ = w.cell? ⟨b, o, none⟩ := fun b o hb => Below.cell (p := ⟨b, o, none⟩) h hb
theorem Ext.frozens {w w' : World} (h : Ext w w') : ∀ b o, b < w.heap.size → w'.frozen? ⟨b, o, none⟩ = w.frozen? ⟨b, o, none⟩ := fun b o hb => Below.frozen (p := ⟨b, o, none⟩) h hb

end Go.Proofs.Ytilaljdokpdcoaa
