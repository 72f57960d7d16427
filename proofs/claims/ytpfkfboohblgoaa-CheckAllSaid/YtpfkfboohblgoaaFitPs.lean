/- The parts that theseusref17.Fit makes are a certificate that may be. Conditions: none. -/
import Derived.Test.YtpfkfboohblgoaaFitTr
import Derived.Test.YtpfkfboohblgoaaCutsNx
namespace Go.Proofs.Ytpfkfboohblgoaa
open Go.RowKit

theorem meet_cuts {L : List (BitVec 32)} (hr : Rising L) (h0 : L[0]? = some 0#32) {ps : List Prt} (hl : ps.length = L.length) (hm : ∀ (i : Nat) (h : i < L.length) (p : Prt), ps[i]? = some p → p.fr = L[i] ∧ p.up = endV L i) : meetV ps = 0 := by
  have key : ∀ (d k : Nat), k + d = L.length → meetG (if h : k < L.length then uv L[k] else 4294967296) (ps.drop k) = true := by
    intro d
    induction d with
    | zero =>
      intro k hk
      rw [dif_neg (by omega), meetG_end _ (by omega)]
      rfl
    | succ d ih =>
      intro k hk
      have h1 : k < L.length := by omega
      have h2 : k < ps.length := by omega
      obtain ⟨e1, e2⟩ := hm k h1 ps[k] (List.getElem?_eq_getElem h2)
      have e3 := ih (k + 1) (by omega)
      rw [dif_pos h1, meetG_step _ h2, e1, e2]
      have e4 := end_ge hr h1
      have e5 : uv (endV L k) + 1 = (if h : k + 1 < L.length then uv L[k + 1] else 4294967296) := by
        split
        · rename_i h; rw [end_pos hr h]; omega
        · rename_i h; rw [end_top h]; decide
      rw [e5, e3, decide_eq_true e4]
      simp
  have h1 : 0 < L.length := (List.getElem?_eq_some_iff.1 h0).1
  have h2 : L[0] = 0#32 := by rw [List.getElem?_eq_getElem h1] at h0; exact Option.some.inj h0
  have h := key L.length 0 (by omega)
  rw [dif_pos h1, h2] at h
  exact meetV_yes h
theorem rksV_zero (n : Int) : ∀ rks : List (List Int), (∀ r ∈ rks, (r.length : Int) = n ∧ ∀ x ∈ r, 0 ≤ x ∧ x < n) → rksV n rks = 0
  | [], _ => rfl
  | r :: t, h => by
    obtain ⟨h1, h2⟩ := h r (List.mem_cons_self ..)
    have h3 : r.any (outB n) = false := by
      rw [List.any_eq_false]
      intro x hx
      have := h2 x hx
      unfold outB
      simp; omega
    show (if (r.length : Int) ≠ n then 1 else if r.any (outB n) then 16 else rksV n t) = 0
    rw [if_neg (by simpa using h1), if_neg (by rw [h3]; simp)]
    exact rksV_zero n t fun r' hr => h r' (List.mem_cons_of_mem _ hr)
theorem fitC_zero (l : List (BitVec 32)) : (fitC l)[0]? = some 0#32 := by
  obtain ⟨h1, h2, h3⟩ := fitC_ok l
  obtain ⟨k, hk, he⟩ := List.getElem_of_mem h2
  rcases Nat.eq_zero_or_pos k with rfl | hp
  · rw [List.getElem?_eq_getElem hk, he]
  · have := h1.lt hp hk
    rw [he] at this
    have h4 : uv (0#32) = 0 := rfl
    have h5 := uv_nonneg (fitC l)[0]
    omega
/-- A certificate all of the call's own. -/
structure CertOwn (w : World) (B : Nat) (pv tv : Value) (c : Crt) : Prop where
  parts : OwnP w B pv c.ps
  len : c.rks.length = c.ps.length
  rk : ∀ (i : Nat) (p : Prt) (r : List Int), c.ps[i]? = some p → c.rks[i]? = some r → OwnI w B p.rk r
  tr : OwnI w B tv c.tr
theorem CertOwn.at {w : World} {B : Nat} {pv tv : Value} {c : Crt} (h : CertOwn w B pv tv c) : CertAt w pv tv c :=
  ⟨h.parts.parts, h.len, fun i p r h1 h2 => Reads.of_own (h.rk i p r h1 h2), Reads.of_own h.tr⟩
theorem CertOwn.later {w w' : World} {B : Nat} {pv tv : Value} {c : Crt} (h : CertOwn w B pv tv c) (hx : Ext w w') : CertOwn w' B pv tv c :=
  ⟨h.parts.later hx, h.len, fun i p r h1 h2 => (h.rk i p r h1 h2).later hx, h.tr.later hx⟩
theorem CertOwn.setCell {w : World} {B : Nat} {pv tv : Value} {c : Crt} (h : CertOwn w B pv tv c) {p : Addr} (hp : p.block < B) (x : Value) : CertOwn (w.setCell p x) B pv tv c :=
  ⟨own_set h.parts hp x, h.len, fun i p r h1 h2 => own_set (h.rk i p r h1 h2) hp x, own_set h.tr hp x⟩
theorem fitPs_may {w : World} {B : Nat} {v : Value} {l : List (BitVec 32)} {n : Nat} {ranks : List Int} (hn : 1 ≤ n) (h : OwnPR w B v (partsF (fitC l) n ranks)) :
    ∃ ps : List Prt, CertOwn w B v (.slice none 0 0) ⟨1, ps, (partsF (fitC l) n ranks).map PrtV.rk, 0#32, []⟩ ∧ certMayV n ⟨1, ps, (partsF (fitC l) n ranks).map PrtV.rk, 0#32, []⟩ = 0 := by
  obtain ⟨ps, h1, h2, h3, h4⟩ := h.parts
  obtain ⟨g1, g2, g3⟩ := fitC_ok l
  have hl : ps.length = (fitC l).length := by rw [h2, partsF_len]
  have hat : ∀ (i : Nat) (hi : i < (fitC l).length), (partsF (fitC l) n ranks)[i]? = some ⟨(fitC l)[i], endV (fitC l) i, rowRk n ranks i⟩ := fun i hi => by
    unfold partsF
    simp [List.getD_eq_getElem?_getD, hi]
  refine ⟨ps, ⟨h1, by simp [hl, partsF_len], fun i p r hi hr => ?_, ⟨by simp [icells], .inl ⟨rfl, rfl⟩⟩⟩, ?_⟩
  · rw [List.getElem?_map, Option.map_eq_some_iff] at hr
    obtain ⟨q, hq, rfl⟩ := hr
    obtain ⟨p', e1, e2⟩ := h4 i q hq
    rw [hi] at e1
    cases e1
    exact e2
  · have hmt : meetV ps = 0 := meet_cuts g1 (fitC_zero l) hl fun i hi p hp => by
      have e := congrArg (fun l => l[i]?) h3
      simp only [List.getElem?_map, hp, hat i hi, Option.map_some, Option.some.injEq, Prod.mk.injEq] at e
      exact e
    have hrk : rksV n ((partsF (fitC l) n ranks).map PrtV.rk) = 0 := rksV_zero _ _ fun r hr => by
      obtain ⟨q, hq, rfl⟩ := List.mem_map.1 hr
      unfold partsF at hq
      obtain ⟨i, _, rfl⟩ := List.mem_map.1 hq
      refine ⟨by simp [rowRk], fun x hx => ?_⟩
      unfold rowRk at hx
      obtain ⟨k, _, rfl⟩ := List.mem_map.1 hx
      exact fitRk_bd hn _
    unfold certMayV freeV
    rw [if_pos rfl, if_neg (by simp), if_neg (show ¬ 8193 < ps.length by omega), if_neg (show ¬ meetV ps ≠ 0 by rw [hmt]; simp)]
    exact hrk
end Go.Proofs.Ytpfkfboohblgoaa
