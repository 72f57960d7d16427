/- Text, Itoa, Addr: these texts in one. Conditions: each part names its own. -/
import Derived.Test.YtdpmnldmbnpfpaaDoorGBase
import Derived.Lib.ItoaNum
import Derived.Test.YtdpmnldmbnpfpaaDoorGPref
import Derived.Shelf.Strconv.Itoa3
import Derived.WalkSmall
import Derived.Lib.AppendIntMem
/- Plain facts on the texts of addresses: four numbers with dots between. Conditions: none. -/
namespace Go.Proofs.YtdpmnldmbnpfpaaDoor
/-- The decimal digits of a number. -/
abbrev dd (n : Nat) : List UInt8 := Lib.decDigits n
theorem dd_1 {n : Nat} (h : n < 10) : dd n = [UInt8.ofNat (48 + n)] := by unfold dd; rw [Lib.decDigits, dif_pos h]
theorem dd_2 {n : Nat} (h : ¬ n < 10) : dd n = dd (n / 10) ++ [UInt8.ofNat (48 + n % 10)] := by unfold dd; rw [Lib.decDigits, dif_neg h]
def isDig (c : UInt8) : Bool := decide (48 ≤ c.toNat) && decide (c.toNat ≤ 57)
def dval (l : List UInt8) : Nat := l.foldl (fun v c => v * 10 + (c.toNat - 48)) 0
theorem dval_snoc (l : List UInt8) (c : UInt8) : dval (l ++ [c]) = dval l * 10 + (c.toNat - 48) := by simp [dval]
theorem dig_nat {k : Nat} (h : k < 10) : (UInt8.ofNat (48 + k)).toNat = 48 + k := by
  rw [UInt8.toNat_ofNat']; omega
theorem dd_facts : ∀ n : Nat, (∀ c ∈ dd n, isDig c = true) ∧ dval (dd n) = n ∧ dd n ≠ [] := by
  intro n
  induction n using Nat.strongRecOn with
  | _ n ih =>
    by_cases h : n < 10
    · rw [dd_1 h]
      refine ⟨fun c hc => ?_, ?_, by simp⟩
      · obtain rfl : c = UInt8.ofNat (48 + n) := by simpa using hc
        unfold isDig; rw [dig_nat h]; simp; omega
      · show 0 * 10 + ((UInt8.ofNat (48 + n)).toNat - 48) = n
        rw [dig_nat h]; omega
    · rw [dd_2 h]
      have h1 := ih (n / 10) (by omega)
      have h2 : n % 10 < 10 := by omega
      refine ⟨fun c hc => ?_, ?_, by simp⟩
      · rcases List.mem_append.1 hc with hc | hc
        · exact h1.1 c hc
        · obtain rfl : c = UInt8.ofNat (48 + n % 10) := by simpa using hc
          unfold isDig; rw [dig_nat h2]; simp; omega
      · rw [dval_snoc, h1.2.1, dig_nat h2]; omega
theorem dd_dig (n : Nat) : ∀ c ∈ dd n, isDig c = true := (dd_facts n).1
theorem dval_dd (n : Nat) : dval (dd n) = n := (dd_facts n).2.1
theorem dd_ne (n : Nat) : dd n ≠ [] := (dd_facts n).2.2
theorem dd_inj {m n : Nat} (h : dd m = dd n) : m = n := by rw [← dval_dd m, h, dval_dd]
theorem dd_len {n : Nat} : ∀ k : Nat, 1 ≤ k → n < 10 ^ k → (dd n).length ≤ k := by
  intro k
  induction k generalizing n with
  | zero => intro h; omega
  | succ k ih =>
    intro _ hn
    by_cases h : n < 10
    · rw [dd_1 h]; simp
    · rw [dd_2 h, List.length_append]
      have hk : 1 ≤ k := by
        rcases Nat.eq_zero_or_pos k with e | e
        · subst e; simp at hn; omega
        · exact e
      have := ih (n := n / 10) hk (by rw [Nat.pow_succ] at hn; omega)
      simp; omega
/-- The four bytes of a number below 2^32. -/
def byteK (a k : Nat) : Nat := a / 256 ^ k % 256
def join4 (p q r s : List UInt8) : List UInt8 := p ++ 46 :: (q ++ 46 :: (r ++ 46 :: s))
def prN (a : Nat) : List UInt8 := join4 (dd (byteK a 3)) (dd (byteK a 2)) (dd (byteK a 1)) (dd (byteK a 0))
abbrev Digs (l : List UInt8) : Prop := ∀ c ∈ l, isDig c = true
theorem dot_not : isDig 46 = false := by decide
theorem slash_not : isDig 47 = false := by decide
theorem digs_count {l : List UInt8} (h : Digs l) : l.count 46 = 0 := by
  rw [List.count_eq_zero]; intro hm; have := h 46 hm; rw [dot_not] at this; cases this
theorem split_dot {p q x y : List UInt8} {c : UInt8} (hc : isDig c = false) (hp : Digs p) (hq : Digs q) (h : p ++ c :: x = q ++ c :: y) : p = q ∧ x = y := by
  induction p generalizing q with
  | nil =>
    cases q with
    | nil => simp at h; exact ⟨rfl, h⟩
    | cons d q =>
      simp at h
      have := hq d (by simp)
      rw [← h.1, hc] at this; cases this
  | cons a p ih =>
    cases q with
    | nil =>
      simp at h
      have := hp a (by simp)
      rw [h.1, hc] at this; cases this
    | cons d q =>
      simp only [List.cons_append, List.cons.injEq] at h
      obtain ⟨h1, h2⟩ := ih (q := q) (fun c hc => hp c (by simp [hc])) (fun c hc => hq c (by simp [hc])) h.2
      exact ⟨by rw [h.1, h1], h2⟩
theorem join4_inj {p q r s p' q' r' s' : List UInt8} (h1 : Digs p) (h2 : Digs q) (h3 : Digs r) (k1 : Digs p') (k2 : Digs q') (k3 : Digs r')
    (h : join4 p q r s = join4 p' q' r' s') : p = p' ∧ q = q' ∧ r = r' ∧ s = s' := by
  unfold join4 at h
  obtain ⟨e1, h⟩ := split_dot dot_not h1 k1 h
  obtain ⟨e2, h⟩ := split_dot dot_not h2 k2 h
  obtain ⟨e3, h⟩ := split_dot dot_not h3 k3 h
  exact ⟨e1, e2, e3, h⟩
theorem join4_count {p q r s : List UInt8} (h1 : Digs p) (h2 : Digs q) (h3 : Digs r) (h4 : Digs s) : (join4 p q r s).count 46 = 3 := by
  unfold join4
  simp only [List.count_append, List.count_cons_self, digs_count h1, digs_count h2, digs_count h3, digs_count h4]
theorem prN_count (a : Nat) : (prN a).count 46 = 3 := join4_count (dd_dig _) (dd_dig _) (dd_dig _) (dd_dig _)
theorem prN_mem {a : Nat} {c : UInt8} (h : c ∈ prN a) : isDig c = true ∨ c = 46 := by
  unfold prN join4 at h
  simp only [List.mem_append, List.mem_cons] at h
  rcases h with h | h | h | h | h | h | h
  · exact .inl (dd_dig _ c h)
  · exact .inr h
  · exact .inl (dd_dig _ c h)
  · exact .inr h
  · exact .inl (dd_dig _ c h)
  · exact .inr h
  · exact .inl (dd_dig _ c h)
theorem byteK_lt (a k : Nat) : byteK a k < 256 := Nat.mod_lt _ (by decide)
theorem bytes_all {a : Nat} (h : a < 4294967296) : ((byteK a 3 * 256 + byteK a 2) * 256 + byteK a 1) * 256 + byteK a 0 = a := by
  unfold byteK; simp only [Nat.reducePow]; omega
theorem prN_len (a : Nat) : (prN a).length ≤ 15 := by
  have h := fun k => dd_len (n := byteK a k) 3 (by omega) (by have := byteK_lt a k; omega)
  have h0 := h 0
  have h1 := h 1
  have h2 := h 2
  have h3 := h 3
  unfold prN join4
  simp only [List.length_append, List.length_cons]
  omega
/-- A text is read: the number so far, and the one that is begun. -/
def pstep (st : Nat × Nat) (c : UInt8) : Option (Nat × Nat) :=
  if c = 46 then some ((st.1 * 256 + st.2) % 4294967296, 0)
  else if isDig c then (if st.2 * 10 + (c.toNat - 48) > 255 then none else some (st.1, st.2 * 10 + (c.toNat - 48))) else none
theorem pstep_dig {x v : Nat} {c : UInt8} (hc : isDig c = true) (h : v * 10 + (c.toNat - 48) ≤ 255) : pstep (x, v) c = some (x, v * 10 + (c.toNat - 48)) := by
  unfold pstep
  rw [if_neg (by intro e; subst e; rw [dot_not] at hc; cases hc), if_pos hc, if_neg (by simp; omega)]
theorem fold_digs {x : Nat} : ∀ (l : List UInt8) (v : Nat), Digs l → l.foldl (fun v c => v * 10 + (c.toNat - 48)) v ≤ 255 → l.foldlM pstep (x, v) = some (x, l.foldl (fun v c => v * 10 + (c.toNat - 48)) v)
  | [], v, _, _ => rfl
  | c :: l, v, hd, hb => by
    have hm : ∀ (l : List UInt8) (v : Nat), v ≤ l.foldl (fun v c => v * 10 + (c.toNat - 48)) v := fun l => by
      induction l with
      | nil => intro v; exact Nat.le_refl _
      | cons c l ih => intro v; exact Nat.le_trans (show v ≤ v * 10 + (c.toNat - 48) by omega) (ih _)
    have h1 := hm l (v * 10 + (c.toNat - 48))
    simp only [List.foldl_cons] at hb
    rw [List.foldlM_cons, pstep_dig (hd c (by simp)) (by omega)]
    exact fold_digs l _ (fun c hc => hd c (by simp [hc])) hb
theorem fold_dd (x n : Nat) (h : n < 256) : (dd n).foldlM pstep (x, 0) = some (x, n) := by
  have e : (dd n).foldl (fun v c => v * 10 + (c.toNat - 48)) 0 = n := dval_dd n
  rw [fold_digs (dd n) 0 (dd_dig n) (by rw [e]; omega), e]
theorem fold_dot (x v : Nat) (l : List UInt8) : (46 :: l).foldlM pstep (x, v) = l.foldlM pstep ((x * 256 + v) % 4294967296, 0) := by
  rw [List.foldlM_cons]; rfl
theorem fold_pr {a : Nat} (h : a < 4294967296) : (prN a).foldlM pstep (0, 0) = some (a / 256, a % 256) := by
  unfold prN join4
  rw [List.foldlM_append, fold_dd _ _ (byteK_lt _ _), Option.bind_eq_bind, Option.bind_some, fold_dot, List.foldlM_append, fold_dd _ _ (byteK_lt _ _), Option.bind_eq_bind, Option.bind_some, fold_dot,
    List.foldlM_append, fold_dd _ _ (byteK_lt _ _), Option.bind_eq_bind, Option.bind_some, fold_dot, fold_dd _ _ (byteK_lt _ _)]
  have := bytes_all h
  have h0 := byteK_lt a 0
  have h1 := byteK_lt a 1
  have h2 := byteK_lt a 2
  have h3 := byteK_lt a 3
  generalize byteK a 0 = x0 at *
  generalize byteK a 1 = x1 at *
  generalize byteK a 2 = x2 at *
  generalize byteK a 3 = x3 at *
  exact congrArg some (Prod.ext (by show _ = a / 256; omega) (by show _ = a % 256; omega))
theorem prN_inj {a b : Nat} (ha : a < 4294967296) (hb : b < 4294967296) (h : prN a = prN b) : a = b := by
  have h1 := fold_pr ha
  rw [h, fold_pr hb] at h1
  simp at h1; omega
/-- The reference's reading: whatever the bytes are. -/
def rstep (st : Nat × Nat) (c : UInt8) : Nat × Nat :=
  if c = 46 then ((st.1 * 256 + st.2) % 4294967296, 0) else (st.1, (st.2 * 10 + c.toNat + 4294967248) % 4294967296)
theorem rstep_of {st st' : Nat × Nat} {c : UInt8} (h : pstep st c = some st') : rstep st c = st' := by
  unfold pstep at h
  unfold rstep
  split at h
  · rename_i e; rw [if_pos e]; simpa using h
  · rename_i e
    rw [if_neg e]
    split at h
    · rename_i g
      split at h
      · cases h
      · rename_i z
        simp only [isDig, Bool.and_eq_true, decide_eq_true_eq] at g
        simp only [Option.some.injEq] at h
        rw [← h]
        exact Prod.ext rfl (by show _ = st.2 * 10 + (c.toNat - 48); omega)
    · cases h
theorem rfold_of : ∀ (l : List UInt8) (st st' : Nat × Nat), l.foldlM pstep st = some st' → l.foldl rstep st = st'
  | [], st, st', h => by simpa using h
  | c :: l, st, st', h => by
    rw [List.foldlM_cons] at h
    cases e : pstep st c with
    | none => rw [e] at h; cases h
    | some s1 =>
      rw [e] at h
      rw [List.foldl_cons, rstep_of e]
      exact rfold_of l s1 st' h
/-- What a text says: the address whose text it is. -/
def Says (l : List UInt8) (a : Nat) : Prop := a < 4294967296 ∧ prN a = l
theorem says_one {l : List UInt8} {a b : Nat} (ha : Says l a) (hb : Says l b) : a = b := prN_inj ha.1 hb.1 (ha.2.trans hb.2.symm)
/-- Behind an address's text nothing but a digit may stand. -/
theorem no_tail {a b : Nat} {c : UInt8} {l : List UInt8} (hc : isDig c = false) : prN b ≠ prN a ++ c :: l := by
  intro h
  have hm := prN_mem (a := b) (c := c) (by rw [h]; simp)
  rcases hm with g | g
  · rw [hc] at g; cases g
  · subst g
    have h1 := congrArg (List.count 46) h
    rw [List.count_append, prN_count, prN_count, List.count_cons_self] at h1
    omega
theorem no_head {a b : Nat} : prN b ≠ 48 :: prN a := by
  intro h
  have e : (48 : UInt8) :: prN a = join4 (48 :: dd (byteK a 3)) (dd (byteK a 2)) (dd (byteK a 1)) (dd (byteK a 0)) := rfl
  rw [e] at h
  have hd : Digs (48 :: dd (byteK a 3)) := fun c hc => by
    rcases List.mem_cons.1 hc with rfl | hc
    · decide
    · exact dd_dig _ c hc
  have h1 := (join4_inj (dd_dig _) (dd_dig _) (dd_dig _) hd (dd_dig _) (dd_dig _) h).1
  have h2 := congrArg dval h1
  rw [dval_dd] at h2
  have h3 : dval (48 :: dd (byteK a 3)) = dval (dd (byteK a 3)) := rfl
  rw [h3, dval_dd] at h2
  rw [h2] at h1
  have := congrArg List.length h1
  simp at this
theorem no_count {b : Nat} {l : List UInt8} (h : l.count 46 ≠ 3) : prN b ≠ l := fun e => h (by rw [← e, prN_count])
theorem no_big {b n0 n1 n2 n3 : Nat} (h : 256 ≤ n0 ∨ 256 ≤ n1 ∨ 256 ≤ n2 ∨ 256 ≤ n3) : prN b ≠ join4 (dd n0) (dd n1) (dd n2) (dd n3) := by
  intro e
  obtain ⟨e0, e1, e2, e3⟩ := join4_inj (dd_dig _) (dd_dig _) (dd_dig _) (dd_dig _) (dd_dig _) (dd_dig _) e
  have g0 := dd_inj e0
  have g1 := dd_inj e1
  have g2 := dd_inj e2
  have g3 := dd_inj e3
  have k0 := byteK_lt b 0
  have k1 := byteK_lt b 1
  have k2 := byteK_lt b 2
  have k3 := byteK_lt b 3
  omega
end Go.Proofs.YtdpmnldmbnpfpaaDoor

/- The text of a whole number, and of an address. Conditions: the library's table of powers of ten reads as it is laid. -/
namespace Go.Proofs.YtdpmnldmbnpfpaaDoor
open Go.RowKit

/-- The library's table reads as it is laid. -/
def Tab10 (w : World) : Prop := Lib.TabIs Tryd.prog w "internal/strconv.uint64pow10" .u64 Lib.pow10Tab
theorem gTab10 : (Tryd.prog.globalNamed "internal/strconv.uint64pow10").isSome = true := by kernel_rfl
theorem Tab10.later {w w' : World} (h : Tab10 w) (hx : Ext w w') : Tab10 w' := by
  obtain ⟨g, hg⟩ := Option.isSome_iff_exists.1 gTab10
  unfold Tab10 Lib.TabIs at *
  refine var?_below hx hg ?_ h
  unfold World.var? at h
  simp only [hg, Option.bind_some] at h
  rcases Nat.lt_or_ge g w.heap.size with k | k
  · exact k
  · rw [Array.getElem?_eq_none k] at h; cases h
theorem Ext.grown' {w : World} (k : Nat) (os : Array Obj) : Ext w (Sort.grow (w.drewN k) os) := Lib.below_grow _ w (Nat.le_refl _) k os
/-- A string's value, of its bytes. -/
abbrev S (l : List UInt8) : Value := .string ⟨l.toArray⟩
theorem itoa_nat (n : Nat) : Lib.itoa (n : Int) = dd n := by
  unfold Lib.itoa; rw [if_neg (by omega), Int.toNat_natCast]
theorem itoa_any (n : Int) (w : World) (h : In64 n) (ht : Tab10 w) :
    Calls Tryd.prog 34 #[I n] w fun e w' => e = .returned (S (Lib.itoa n)) ∧ Ext w w' :=
  (Tryd.strconv_Itoa n h.1 h.2 w ht).mono fun e w' ⟨he, k, os, hw⟩ => ⟨he, by rw [hw]; exact Ext.grown' k os⟩
theorem itoaN_any (n : Nat) (w : World) (h : n < 9223372036854775808) (ht : Tab10 w) :
    Calls Tryd.prog 34 #[I n] w fun e w' => e = .returned (S (dd n)) ∧ Ext w w' := by
  have := itoa_any n w ⟨by omega, by omega⟩ ht
  rwa [itoa_nat] at this
end Go.Proofs.YtdpmnldmbnpfpaaDoor

/- The text of an address. Conditions: the library's table of powers of ten reads as it is laid. -/
namespace Go.Proofs.YtdpmnldmbnpfpaaDoor
open Go.RowKit

@[go_sem high] theorem strApp (a b : List UInt8) : (⟨a.toArray⟩ : ByteArray) ++ ⟨b.toArray⟩ = ⟨(a ++ b).toArray⟩ := by
  apply ByteArray.ext; simp
theorem byte_uv (a : BitVec 32) (k : Nat) : uv ((a >>> (8 * k)) &&& BitVec.ofInt 32 255) = (byteK a.toNat k : Int) := by
  unfold uv byteK
  rw [BitVec.toNat_and, BitVec.toNat_ushiftRight, Nat.shiftRight_eq_div_pow, show (BitVec.ofInt 32 255).toNat = 2 ^ 8 - 1 from rfl, Nat.and_two_pow_sub_one_eq_mod, Nat.pow_mul]
theorem wrap64_uv (a : BitVec 32) : wrap64 (uv a) = uv a := by have := uv_bd a; unfold wrap64; omega
theorem byte_lit3 (a : BitVec 32) : wrap64 (bits .and .u32 (uv a / (16777216 : Int)) 255) = (byteK a.toNat 3 : Nat) := by
  have e : uv a / (16777216 : Int) = uv (a >>> 24) := div_uv a 24
  rw [e, bits_and_uv_lit]; refine (wrap64_uv _).trans ?_; exact byte_uv a 3
theorem byte_lit2 (a : BitVec 32) : wrap64 (bits .and .u32 (uv a / (65536 : Int)) 255) = (byteK a.toNat 2 : Nat) := by
  have e : uv a / (65536 : Int) = uv (a >>> 16) := div_uv a 16
  rw [e, bits_and_uv_lit]; refine (wrap64_uv _).trans ?_; exact byte_uv a 2
theorem byte_lit1 (a : BitVec 32) : wrap64 (bits .and .u32 (uv a / (256 : Int)) 255) = (byteK a.toNat 1 : Nat) := by
  have e : uv a / (256 : Int) = uv (a >>> 8) := div_uv a 8
  rw [e, bits_and_uv_lit]; refine (wrap64_uv _).trans ?_; exact byte_uv a 1
theorem byte_lit0 (a : BitVec 32) : uv (a &&& 255#32) = (byteK a.toNat 0 : Nat) := by
  have := byte_uv a 0
  simpa using this
theorem itoa_is (n : Nat) (x : Int) (w : World) (h : x = n) (hn : n < 9223372036854775808) (ht : Tab10 w) :
    Calls Tryd.prog 34 #[I x] w fun e w' => e = .returned (S (dd n)) ∧ Ext w w' := by subst h; exact itoaN_any n w hn ht
/-- The text so far, when j bytes have been told. -/
def prTo (a j : Nat) : List UInt8 :=
  match j with
  | 0 => []
  | 1 => dd (byteK a 3) ++ [46]
  | 2 => (dd (byteK a 3) ++ [46]) ++ dd (byteK a 2) ++ [46]
  | 3 => ((dd (byteK a 3) ++ [46]) ++ dd (byteK a 2) ++ [46]) ++ dd (byteK a 1) ++ [46]
  | _ => prN a
theorem dd3 (a k : Nat) : (dd (byteK a k)).length ≤ 3 := dd_len 3 (by omega) (by have := byteK_lt a k; omega)
theorem prTo_len (a j : Nat) : (prTo a j).length ≤ 15 := by
  have h1 := dd3 a 3
  have h2 := dd3 a 2
  have h3 := dd3 a 1
  unfold prTo
  split
  · simp
  · simp; omega
  · simp; omega
  · simp; omega
  · exact prN_len a
theorem ret_S {a b : List UInt8} (h : a = b) : Ending.returned (S a) = Ending.returned (S b) := by rw [h]
theorem S_congr {a b : List UInt8} (h : a = b) : S a = S b := by rw [h]
set_option maxHeartbeats 1000000 in
theorem print_any (a : BitVec 32) (w : World) (ht : Tab10 w) :
    Calls Tryd.prog 50 #[U a] w fun e w' => e = .returned (S (prN a.toNat)) ∧ Ext w w' := by
  have HT := Lib.hid ht
  clear ht
  go_enter Tryd.func50, Tryd.ntmps50
  go_wp2_with fail
  go_loopw [3, 4] (fun t i wr => ∃ j : Nat, j ≤ 4 ∧ i = I (24 - 8 * j) ∧ t = S (prTo a.toNat j) ∧ Ext w wr) (fun _ i _ => (intOf i + 8).toNat)
  case atStart => exact ⟨0, by omega, rfl, rfl, Ext.refl w⟩
  case round =>
    obtain ⟨j, hj, rfl, rfl, hx⟩ := hrel
    have hl := prTo_len a.toNat j
    obtain rfl | rfl | rfl | rfl | rfl : j = 0 ∨ j = 1 ∨ j = 2 ∨ j = 3 ∨ j = 4 := by omega
    · have hd := dd3 a.toNat 3
      go_wp2_with (first
        | (go_at_call 34; with_reducible refine (itoa_is (byteK a.toNat 3) _ _ (byte_lit3 a) (by have := byteK_lt a.toNat 3; omega) (HT.out.later hx)).mono ?_; rintro e w1 ⟨rfl, hx1⟩))
      go_roundw
      case rel => exact ⟨1, by omega, rfl, rfl, hx.trans hx1⟩
      case measure => decide
    · have hd := dd3 a.toNat 2
      go_wp2_with (first
        | (go_at_call 34; with_reducible refine (itoa_is (byteK a.toNat 2) _ _ (byte_lit2 a) (by have := byteK_lt a.toNat 2; omega) (HT.out.later hx)).mono ?_; rintro e w1 ⟨rfl, hx1⟩))
      go_roundw
      case rel => exact ⟨2, by omega, rfl, S_congr (by simp [prTo]), hx.trans hx1⟩
      case measure => decide
    · have hd := dd3 a.toNat 1
      go_wp2_with (first
        | (go_at_call 34; with_reducible refine (itoa_is (byteK a.toNat 1) _ _ (byte_lit1 a) (by have := byteK_lt a.toNat 1; omega) (HT.out.later hx)).mono ?_; rintro e w1 ⟨rfl, hx1⟩))
      go_roundw
      case rel => exact ⟨3, by omega, rfl, S_congr (by simp [prTo]), hx.trans hx1⟩
      case measure => decide
    · have hd := dd3 a.toNat 0
      go_wp2_with (first
        | (go_at_call 34; with_reducible refine (itoa_is (byteK a.toNat 0) _ _ (byte_lit0 a) (by have := byteK_lt a.toNat 0; omega) (HT.out.later hx)).mono ?_; rintro e w1 ⟨rfl, hx1⟩))
      go_roundw
      case rel => exact ⟨4, by omega, rfl, S_congr (by unfold prTo prN join4; simp), hx.trans hx1⟩
      case measure => decide
    · go_wp2
      go_ret
      exact ⟨rfl, hx⟩
end Go.Proofs.YtdpmnldmbnpfpaaDoor
