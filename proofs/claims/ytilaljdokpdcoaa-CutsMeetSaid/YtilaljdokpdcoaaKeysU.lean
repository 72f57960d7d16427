/- Keys of 32 bits, collected in whatever order. Conditions: none. -/
import Derived.Test.YtilaljdokpdcoaaU32s
import Derived.Shelf.SlIterI.Sorted
namespace Go.Proofs.Ytilaljdokpdcoaa
open Go Go.RowKit Go.Maps Go.Sort Go.Proofs

abbrev encU : Int → Value := Value.int .u32
def numOf : Lit → Int
  | .int _ a => a
  | _ => 0
def u32Keys {H : Type} : DataW H → List Int
  | .map es => es.map fun p => numOf p.1
  | _ => []
theorem encU_inj {x y : Int} (h : encU x = encU y) : x = y := by simpa [encU] using h
theorem keyOf_u32 {P : Program} {k : TypeId} (hk : P.underlying k = some (.int .u32)) {key : Value} {kl : Lit} (h : keyOf P k key = some kl) :
    ∃ x : Int, key = encU x ∧ kl = .int .u32 x ∧ (Lit.int .u32 x).wf = true := by
  cases key <;> simp [keyOf, hk, mapKey] at h
  rename_i q a
  obtain ⟨⟨rfl, hw⟩, rfl⟩ := h
  exact ⟨a, rfl, rfl, hw⟩
/-- What has come: no key twice, and just the keys that are no longer to come. -/
def CollectedU {H : Type} (D0 : DataW H) (left : Lit → Bool) (ss : List Int) : Prop := ss.Nodup ∧ ∀ x, x ∈ ss ↔ (has D0 (.int .u32 x) = true ∧ left (.int .u32 x) = false)
section
variable {H : Type} {D0 : DataW H} {left : Lit → Bool} {ss : List Int}
theorem CollectedU.start (D0 : DataW H) : CollectedU D0 (has D0) [] := ⟨List.nodup_nil, fun x => by cases has D0 (.int .u32 x) <;> simp⟩
theorem CollectedU.step (h : CollectedU D0 left ss) {x : Int} {y : DataW H} (hlk : left (.int .u32 x) = true) (hat : ∀ zd, D0.atKey (.int .u32 x) zd = y) : CollectedU D0 (fun z => left z && !z.sameKey (.int .u32 x)) (ss ++ [x]) := by
  have hhas : has D0 (.int .u32 x) = true := has_true_of_atKey hat
  have hnew : x ∉ ss := fun hx => by
    have hf := ((h.2 x).1 hx).2
    rw [hlk] at hf; exact Bool.noConfusion hf
  constructor
  · rw [List.nodup_append]
    refine ⟨h.1, by simp, fun a ha c hc => ?_⟩
    rw [List.mem_singleton] at hc
    subst hc
    exact fun e => hnew (e ▸ ha)
  · intro y
    by_cases hy : y = x
    · subst hy; simp [hhas, Lit.sameKey]
    · simp [h.2 y, hy, Lit.sameKey]
theorem nodup_keysU {es : List (Lit × DataW H)} (hp : es.Pairwise (fun p q => p.1 ≠ q.1)) (hk : ∀ p ∈ es, ∃ x, p.1 = .int .u32 x) : (u32Keys (DataW.map es)).Nodup := by
  unfold u32Keys List.Nodup
  rw [List.pairwise_map]
  refine hp.imp_of_mem (fun {p q} hp' hq' hne e => hne ?_)
  obtain ⟨x, hx⟩ := hk p hp'
  obtain ⟨y, hy⟩ := hk q hq'
  rw [hx, hy] at e ⊢
  exact congrArg (Lit.int .u32) e
theorem mem_keysU {es : List (Lit × DataW H)} (hk : ∀ p ∈ es, ∃ x, p.1 = .int .u32 x) (x : Int) : x ∈ u32Keys (DataW.map es) ↔ has (DataW.map es) (.int .u32 x) = true := by
  rw [has_eq, List.any_eq_true]
  show x ∈ es.map (fun p => numOf p.1) ↔ _
  rw [List.mem_map]
  constructor
  · rintro ⟨p, hp, rfl⟩
    obtain ⟨y, hy⟩ := hk p hp
    refine ⟨p, hp, ?_⟩
    rw [hy]; simp [Lit.sameKey, numOf]
  · rintro ⟨p, hp, hs⟩
    obtain ⟨y, hy⟩ := hk p hp
    refine ⟨p, hp, ?_⟩
    rw [hy] at hs ⊢
    simpa [Lit.sameKey, numOf] using hs
variable {P : Program} {k : TypeId} {R : Value → Option (DataW H × List MemPlace)} {w : World} {b n : Nat}
theorem CollectedU.perm (h : CollectedU D0 left ss) (hown : w.ownsMap P k R b n D0) (K : Keyed P k) (hk : P.underlying k = some (.int .u32)) (hl : ∀ kl, left kl = false) : ss.Perm (u32Keys D0) := by
  obtain ⟨es, hD, hpw, _⟩ := hown.entries K
  obtain ⟨es', hD', hko⟩ := hown.keysOf
  obtain rfl : es = es' := by rw [hD] at hD'; simpa using hD'
  subst hD
  have hk' : ∀ p ∈ es, ∃ x, p.1 = .int .u32 x := fun p hp => by
    obtain ⟨v, hv⟩ := hko p hp
    obtain ⟨x, _, hx, _⟩ := keyOf_u32 hk hv
    exact ⟨x, hx⟩
  rw [List.perm_ext_iff_of_nodup h.1 (nodup_keysU hpw hk')]
  intro x
  rw [h.2 x, mem_keysU hk', hl]
  simp
end
end Go.Proofs.Ytilaljdokpdcoaa
