/- Plain laws for the law TopFiner: parts cut finer hold still. Conditions: none. -/
import Derived.Test.YtdpmnldmbnpfpaaGreatGAnaH
namespace Go.Proofs.YtdpmnldmbnpfpaaGreat
open Go Go.RowKit Go.Maps Go.Proofs

theorem Rising.tail {x : BitVec 32} {l : List (BitVec 32)} (h : Rising (x :: l)) : Rising l := (List.pairwise_cons.1 h).2
theorem Rising.head {x : BitVec 32} {l : List (BitVec 32)} (h : Rising (x :: l)) : ∀ y ∈ l, uv x < uv y := (List.pairwise_cons.1 h).1
theorem rising_sub {x y : BitVec 32} {F A : List (BitVec 32)} (hF : Rising (x :: F)) (hA : Rising (y :: A)) (hs : ∀ z ∈ x :: F, z ∈ y :: A) : (x = y ∧ ∀ z ∈ F, z ∈ A) ∨ (∀ z ∈ x :: F, z ∈ A) := by
 by_cases hxy : x = y
 · refine .inl ⟨hxy, fun z hz => ?_⟩
   rcases List.mem_cons.1 (hs z (List.mem_cons_of_mem _ hz)) with rfl | h
   · have := hF.head _ hz
     rw [hxy] at this; omega
   · exact h
 · refine .inr fun z hz => ?_
   have hx : x ∈ A := (List.mem_cons.1 (hs x (List.mem_cons_self ..))).resolve_left hxy
   have hlt := hA.head x hx
   rcases List.mem_cons.1 (hs z hz) with rfl | h
   · rcases List.mem_cons.1 hz with h' | h'
     · exact absurd h'.symm hxy
     · have := hF.head _ h'; omega
   · exact h
theorem risingF_len : ∀ {A F : List (BitVec 32)}, Rising F → Rising A → (∀ z ∈ F, z ∈ A) → F.length ≤ A.length
 | [], [], _, _, _ => Nat.le_refl _
 | [], x :: F, _, _, h => by cases h x (List.mem_cons_self ..)
 | y :: A, [], _, _, _ => Nat.zero_le _
 | y :: A, x :: F, hF, hA, h => by
   rcases rising_sub hF hA h with ⟨_, g⟩ | g
   · have := risingF_len hF.tail hA.tail g
     simp only [List.length_cons]; omega
   · have := risingF_len hF hA.tail g
     simp only [List.length_cons] at *; omega
theorem rising_eq : ∀ {A F : List (BitVec 32)}, Rising F → Rising A → (∀ z ∈ F, z ∈ A) → A.length = F.length → A = F
 | [], [], _, _, _, _ => rfl
 | [], x :: F, _, _, _, h => by cases h
 | y :: A, [], _, _, _, h => by cases h
 | y :: A, x :: F, hF, hA, h, hl => by
   rcases rising_sub hF hA h with ⟨rfl, g⟩ | g
   · rw [rising_eq hF.tail hA.tail g (by simpa using hl)]
   · have := risingF_len hF hA.tail g
     simp only [List.length_cons] at *; omega
/-- The certificate d of parts that begin at A, with the ranks of the parts, beginning at F, that they were of. -/
structure Finer (F : List (BitVec 32)) (rks : List (List Int)) (A : List (BitVec 32)) (d : Crt) : Prop where
 vd : d.vd = 1
 dest : d.dest = 0#32
 tr : d.tr = []
 len : d.ps.length = A.length
 rln : d.rks.length = A.length
 parts : ∀ (i : Nat) (a : BitVec 32), A[i]? = some a → ∃ p r, d.ps[i]? = some p ∧ d.rks[i]? = some r ∧ p.fr = a ∧ p.up = endV A i ∧ rks[ivN F a]? = some r
theorem iv_own {F : List (BitVec 32)} (hF : Rising F) {i : Nat} (hi : i < F.length) : ivN F F[i] = i := by
 unfold ivN
 rw [atN_eq hF hi (Int.le_refl _) (fun h => hF.lt (Nat.lt_succ_self i) h)]; rfl
/-- The interval that has an address. -/
theorem iv_is {F : List (BitVec 32)} (hF : Rising F) (h0 : F[0]? = some 0#32) (a : BitVec 32) : ∃ h : ivN F a < F.length, uv F[ivN F a] ≤ uv a ∧ ∀ h2 : ivN F a + 1 < F.length, uv a < uv F[ivN F a + 1] := by
 obtain ⟨hp, he⟩ := List.getElem?_eq_some_iff.1 h0
 have key : ∀ m, m ≤ F.length → 0 < m → (∃ k, ∃ h : k < F.length, uv F[k] ≤ uv a ∧ ∀ h2 : k + 1 < F.length, uv a < uv F[k + 1]) ∨ ∀ j (h : j < F.length), j < m → uv F[j] ≤ uv a := by
  intro m
  induction m with
  | zero => intro _ h; omega
  | succ m ih =>
    intro hm _
    by_cases h1 : m = 0
    · subst h1
      refine .inr fun j h hj => ?_
      have hj0 : j = 0 := by omega
      subst hj0
      rw [he]
      have := (uv_bd a).1
      have h0 : uv (0#32) = 0 := rfl
      omega
    · rcases ih (by omega) (by omega) with g | g
      · exact .inl g
      · by_cases h2 : uv F[m] ≤ uv a
        · refine .inr fun j h hj => ?_
          rcases Nat.lt_or_ge j m with q | q
          · exact g j h q
          · have : j = m := by omega
            subst this; exact h2
        · refine .inl ⟨m - 1, by omega, g _ _ (by omega), fun h3 => ?_⟩
          have e : m - 1 + 1 = m := by omega
          simp only [e]; omega
 have fin : ∃ k, ∃ h : k < F.length, uv F[k] ≤ uv a ∧ ∀ h2 : k + 1 < F.length, uv a < uv F[k + 1] := by
  rcases key F.length (Nat.le_refl _) (by omega) with g | g
  · exact g
  · exact ⟨F.length - 1, by omega, g _ _ (by omega), fun h2 => by omega⟩
 obtain ⟨k, hk, h1, h2⟩ := fin
 have e : ivN F a = k := by unfold ivN; rw [atN_eq hF hk h1 h2]; rfl
 subst e
 exact ⟨hk, h1, h2⟩
theorem end_finer {F A : List (BitVec 32)} (hF : Rising F) (hA : Rising A) (hs : ∀ x ∈ F, x ∈ A) {i k : Nat} (hi : i < A.length) (h2 : ∀ h2 : k + 1 < F.length, uv A[i] < uv F[k + 1]) : uv (endV A i) ≤ uv (endV F k) := by
 by_cases hk : k + 1 < F.length
 · obtain ⟨j, hj, he⟩ := List.getElem_of_mem (hs _ (List.getElem_mem hk))
   have hlt := h2 hk
   have hij : i < j := by
    rcases Nat.lt_or_ge i j with g | g
    · exact g
    · have := hA.le g hi
      rw [he] at this; omega
   have h3 := hA.le (show i + 1 ≤ j from hij) hj
   rw [he] at h3
   rw [end_pos hF hk, end_pos hA (by omega)]
   omega
 · have : endV F k = 4294967295#32 := by unfold endV; rw [dif_neg hk]
   rw [this]
   have := (uv_bd (endV A i)).2
   have e : uv (4294967295#32) = 4294967295 := rfl
   omega
theorem finer_ok {ls : List (List Rul)} {l A : List (BitVec 32)} {c d : Crt} (hm : netMayV ls = 0) (hC : Cuts ls.flatten l) (h : AnaFree ls (atomsL (vecV ls) l).fr c) (hA : Rising A) (h0 : A[0]? = some 0#32) (hs : ∀ x ∈ (atomsL (vecV ls) l).fr, x ∈ A) (hn : A.length ≤ 8193) (hd : Finer (atomsL (vecV ls) l).fr c.rks A d) : certMayV ls.length d = 0 ∧ ansV l ls d = (1, 0) := by
 have hI := atomsIt hC
 have key : ∀ (i : Nat) (hi : i < A.length) (p : Prt) (r : List Int), d.ps[i]? = some p → d.rks[i]? = some r → p.fr = A[i] ∧ p.up = endV A i ∧ ∃ h : ivN (atomsL (vecV ls) l).fr A[i] < (atomsL (vecV ls) l).fr.length, RanksIs (vecV ls (atomsL (vecV ls) l).fr[ivN (atomsL (vecV ls) l).fr A[i]]) r := by
  intro i hi p r hp hr
  obtain ⟨p', r', g1, g2, g3, g4, g5⟩ := hd.parts i _ (List.getElem?_eq_getElem hi)
  rw [hp] at g1
  rw [hr] at g2
  obtain rfl := Option.some.inj g1
  obtain rfl := Option.some.inj g2
  obtain ⟨hk, _, _⟩ := iv_is hI.rise hI.zero A[i]
  obtain ⟨_, r2, _, k2, _, _, k5⟩ := h.parts _ _ (List.getElem?_eq_getElem hk)
  rw [g5] at k2
  obtain rfl := Option.some.inj k2
  exact ⟨g3, g4, hk, k5⟩
 have hmeet : meetV d.ps = 0 := meet_cuts hA h0 hd.len fun i hi p hp => by
  have hr : i < d.rks.length := by rw [hd.rln]; exact hi
  obtain ⟨k1, k2, _⟩ := key i hi p _ hp (List.getElem?_eq_getElem hr)
  exact ⟨k1, k2⟩
 have hR : FreeOk ls.length d := ⟨hd.vd, hd.dest, hd.tr, by rw [hd.len]; exact hn, hmeet, rksV_zero _ _ fun r hr => by
  obtain ⟨i, hir⟩ := List.getElem?_of_mem hr
  have hi := (List.getElem?_eq_some_iff.1 hir).1
  have hp : i < d.ps.length := by rw [hd.len, ← hd.rln]; exact hi
  obtain ⟨_, _, hk, h5⟩ := key i (by rw [← hd.rln]; exact hi) _ r (List.getElem?_eq_getElem hp) hir
  have hf := (AnaIs.facts hm ⟨l, hC, .inr h⟩).rks
  obtain ⟨_, r2, _, q2, _, _, q5⟩ := h.parts _ _ (List.getElem?_eq_getElem hk)
  have e : r = r2 := h5.one q5
  have := hf r2 (List.mem_of_getElem? q2)
  rw [e]
  exact ⟨by omega, this.2⟩⟩
 refine ⟨hR.may, ?_⟩
 rw [ans_free hm hR]
 have hz : partsZ l ls (d.ps.zip d.rks) = 0 := by
  refine partsZ_all fun q hq => ?_
  obtain ⟨i, hi⟩ := List.getElem?_of_mem hq
  rw [List.getElem?_zip_eq_some] at hi
  obtain ⟨hi1, hi2⟩ := hi
  have hil : i < A.length := by rw [← hd.len]; exact (List.getElem?_eq_some_iff.1 hi1).1
  obtain ⟨g3, g4, hk, g5⟩ := key i hil _ _ hi1 hi2
  obtain ⟨_, k1, k2⟩ := iv_is hI.rise hI.zero A[i]
  rw [partV_eq (by rw [g5.1, vecV_len]), g3, g4, fall_iff hC (end_ge hA hil)]
  intro a ha1 ha2 v hv
  refine ranks_fall hm ?_ hv
  have he := end_finer hI.rise hA hs hil k2
  rw [hI.within hC hk (by omega) (by omega)]
  exact g5
 rw [if_neg (by rw [hz]; simp)]
/-- As many parts as there were: then it is the same certificate. -/
theorem finer_same {ls : List (List Rul)} {l A : List (BitVec 32)} {c d : Crt} (hC : Cuts ls.flatten l) (h : AnaFree ls (atomsL (vecV ls) l).fr c) (hA : Rising A) (hs : ∀ x ∈ (atomsL (vecV ls) l).fr, x ∈ A) (hd : Finer (atomsL (vecV ls) l).fr c.rks A d) : d.ps.length = c.ps.length ↔ CrtEq c d := by
 have hI := atomsIt hC
 constructor
 · intro hl
   rw [hd.len, h.len] at hl
   have hAF := rising_eq hI.rise hA hs hl
   subst hAF
   refine ⟨h.vd.trans hd.vd.symm, h.dest.trans hd.dest.symm, h.tr.trans hd.tr.symm, ?_, ?_⟩
   · refine List.ext_getElem? fun i => ?_
     by_cases hi : i < (atomsL (vecV ls) l).fr.length
     · obtain ⟨p, r, g1, g2, g3, g4, g5⟩ := hd.parts i _ (List.getElem?_eq_getElem hi)
       rw [iv_own hI.rise hi] at g5
       rw [g2, g5]
     · rw [List.getElem?_eq_none (by rw [h.rln]; omega), List.getElem?_eq_none (by rw [hd.rln]; omega)]
   · refine List.ext_getElem? fun i => ?_
     rw [List.getElem?_map, List.getElem?_map]
     by_cases hi : i < (atomsL (vecV ls) l).fr.length
     · obtain ⟨p, r, g1, g2, g3, g4, g5⟩ := hd.parts i _ (List.getElem?_eq_getElem hi)
       obtain ⟨q, s, k1, k2, k3, k4, k5⟩ := h.parts i _ (List.getElem?_eq_getElem hi)
       rw [g1, k1]
       simp only [Option.map_some, g3, g4, k3, k4]
     · rw [List.getElem?_eq_none (by rw [h.len]; omega), List.getElem?_eq_none (by rw [hd.len]; omega)]
 · intro he
   have := congrArg List.length he.ps
   simpa using this.symm
end Go.Proofs.YtdpmnldmbnpfpaaGreat
