/- Plain laws of a network whose nodes are counted from the other end. Conditions: none. -/
import Derived.Test.YtamlalablblfeaaAtomsL
import Derived.Test.YtamlalablblfeaaStepBd
namespace Go.Proofs.Ytamlalablblfeaa
open Go Go.RowKit Go.Maps Go.Proofs

def turnR (M : Nat) (r : Rul) : Rul := if r.act = 1 then ⟨r.pa, r.pl, r.act, (M : Int) - 1 - r.nx⟩ else r
theorem turnR_pa (M : Nat) (r : Rul) : (turnR M r).pa = r.pa := by unfold turnR; split <;> rfl
theorem turnR_pl (M : Nat) (r : Rul) : (turnR M r).pl = r.pl := by unfold turnR; split <;> rfl
theorem turnR_act (M : Nat) (r : Rul) : (turnR M r).act = r.act := by unfold turnR; split <;> rfl
def turnL (M : Nat) (L : List Rul) : List Rul := L.map (turnR M)
theorem turnL_len (M : Nat) (L : List Rul) : (turnL M L).length = L.length := List.length_map _
def turnN (N : List (List Rul)) : List (List Rul) := (List.range N.length).map fun p => turnL N.length (N.getD (N.length - 1 - p) [])
theorem turnN_len (N : List (List Rul)) : (turnN N).length = N.length := by unfold turnN; simp
theorem turnN_mem {N : List (List Rul)} {l : List Rul} (h : l ∈ turnN N) : ∃ t ∈ N, l = turnL N.length t := by
  unfold turnN at h
  obtain ⟨p, hp, rfl⟩ := List.mem_map.1 h
  rw [List.mem_range] at hp
  have h1 : N.length - 1 - p < N.length := by omega
  exact ⟨N[N.length - 1 - p], List.getElem_mem h1, by rw [List.getD_eq_getElem?_getD, List.getElem?_eq_getElem h1]; rfl⟩
theorem turnN_of {N : List (List Rul)} {t : List Rul} (h : t ∈ N) : turnL N.length t ∈ turnN N := by
  obtain ⟨j, hj, rfl⟩ := List.mem_iff_getElem.1 h
  unfold turnN
  refine List.mem_map.2 ⟨N.length - 1 - j, List.mem_range.2 (by omega), ?_⟩
  rw [show N.length - 1 - (N.length - 1 - j) = j by omega, List.getD_eq_getElem?_getD, List.getElem?_eq_getElem hj]; rfl
theorem turn_rule {M : Nat} {r : Rul} (h : ruleMayV r M = 0) : ruleMayV (turnR M r) M = 0 := by
  by_cases ha : r.act = 1
  · have e : turnR M r = ⟨r.pa, r.pl, r.act, (M : Int) - 1 - r.nx⟩ := by unfold turnR; rw [if_pos ha]
    rw [e]
    unfold ruleMayV at *
    simp only [ha] at *
    by_cases hm : mayV r.pa r.pl = 0
    · simp only [hm] at *
      simp at *
      omega
    · rw [if_pos hm] at h; exact absurd h hm
  · have e : turnR M r = r := by unfold turnR; rw [if_neg ha]
    rw [e]; exact h
theorem turn_tab {M : Nat} {L : List Rul} (h : tabMayV M L = 0) : tabMayV M (turnL M L) = 0 := by
  obtain ⟨h1, h2, _⟩ := tabG_spec M L none h
  refine tabG_zero M _ none (fun r hr => ?_) ?_ (fun q h => by cases h)
  · obtain ⟨q, hq, rfl⟩ := List.mem_map.1 hr
    exact turn_rule (h1 q hq)
  · unfold Sorted turnL
    rw [List.pairwise_map]
    refine List.Pairwise.imp (fun {a b} hab => ?_) h2
    rw [ltP_iff] at *
    rw [turnR_pa, turnR_pa, turnR_pl, turnR_pl]; exact hab
theorem turn_may {N : List (List Rul)} (h : netMayV N = 0) (hl : N.length ≤ 8) (hs : ∀ l ∈ N, l.length ≤ 20) : netMayV (turnN N) = 0 ∧ sizeN (turnN N) ≤ 160 := by
  have h1 : sizeN (turnN N) ≤ (turnN N).length * 20 := sizeN_le fun l hm => by
    obtain ⟨t, ht, rfl⟩ := turnN_mem hm
    rw [turnL_len]; exact hs t ht
  rw [turnN_len] at h1
  refine ⟨?_, by omega⟩
  unfold netMayV
  rw [if_neg (by rw [turnN_len]; omega), turnN_len]
  refine netG_zero fun l hm => ?_
  obtain ⟨t, ht, rfl⟩ := turnN_mem hm
  exact turn_tab ((netMay_tabs h).2.2 t ht)
theorem turn_ok {N : List (List Rul)} (h : netMayV N = 0) (hl : N.length ≤ 8) (hok : TablesOk N) : TablesOk (turnN N) := by
  intro l hm r hr
  obtain ⟨t, ht, rfl⟩ := turnN_mem hm
  obtain ⟨q, hq, rfl⟩ := List.mem_map.1 hr
  have hm0 := (tabG_spec _ t none ((netMay_tabs h).2.2 t ht)).1 q hq
  have hq0 := hok t ht q hq
  by_cases ha : q.act = 1
  · have e : turnR N.length q = ⟨q.pa, q.pl, q.act, (N.length : Int) - 1 - q.nx⟩ := by unfold turnR; rw [if_pos ha]
    rw [e]
    refine ⟨hq0.pl, hq0.act, ?_⟩
    unfold ruleMayV at hm0
    by_cases hm : mayV q.pa q.pl = 0
    · simp only [hm, ha] at hm0
      simp at hm0
      unfold In64
      simp only
      omega
    · rw [if_pos hm] at hm0; exact absurd hm0 hm
  · have e : turnR N.length q = q := by unfold turnR; rw [if_neg ha]
    rw [e]; exact hq0
theorem rcut_turn (M : Nat) (r : Rul) : rcut (turnR M r) = rcut r := by unfold rcut; rw [turnR_pa, turnR_pl]
theorem turn_cuts {N : List (List Rul)} {l : List (BitVec 32)} (h : Cuts N.flatten l) : Cuts (turnN N).flatten l := by
  refine ⟨h.1, fun a => ?_⟩
  rw [h.2 a]
  unfold cutI
  simp only [List.mem_cons, List.mem_flatMap, List.mem_flatten]
  refine or_congr Iff.rfl ⟨fun ⟨r, ⟨t, ht, hr⟩, hx⟩ => ⟨turnR N.length r, ⟨_, turnN_of ht, List.mem_map_of_mem hr⟩, by rw [rcut_turn]; exact hx⟩, fun ⟨r, ⟨t, ht, hr⟩, hx⟩ => ?_⟩
  obtain ⟨s, hs, rfl⟩ := turnN_mem ht
  obtain ⟨q, hq, rfl⟩ := List.mem_map.1 hr
  exact ⟨q, ⟨s, hs, hq⟩, by rw [rcut_turn] at hx; exact hx⟩
theorem find_turn (M : Nat) (L : List Rul) (a : BitVec 32) : findL (turnL M L) a = (findL L a).map (turnR M) := by
  unfold findL turnL
  suffices g : ∀ o : Option Rul, (L.map (turnR M)).foldl (findStep a) (o.map (turnR M)) = (L.foldl (findStep a) o).map (turnR M) from g none
  induction L with
  | nil => intro o; rfl
  | cons r L ih =>
    intro o
    rw [List.map_cons, List.foldl_cons, List.foldl_cons, ← ih]
    congr 1
    unfold findStep
    have e : better a (o.map (turnR M)) (turnR M r) = better a o r := by
      unfold better
      rw [turnR_pa, turnR_pl]
      cases o with
      | none => rfl
      | some b => simp [turnR_pl]
    rw [e]
    split <;> rfl
theorem step_turn (M : Nat) (L : List Rul) (a : BitVec 32) : stepO (turnL M L) a = (stepO L a).map fun x => (M : Int) - 1 - x := by
  unfold stepO
  rw [find_turn]
  cases h : findL L a with
  | none => rfl
  | some r =>
    simp only [Option.map_some, turnR_act]
    by_cases ha : r.act = 1
    · rw [if_pos ha, if_pos ha]
      unfold turnR
      rw [if_pos ha]; rfl
    · rw [if_neg ha, if_neg ha]; rfl
def fM (M : Nat) (x : Int) : Int := if 0 ≤ x then (M : Int) - 1 - x else -1
def gM (M : Nat) (v : List Int) : List Int := (List.range M).map fun p => fM M (v.getD (M - 1 - p) (-1))
theorem gM_len (M : Nat) (v : List Int) : (gM M v).length = M := by unfold gM; simp
theorem gM_get {M : Nat} {v : List Int} {j : Nat} (hj : j < M) (hv : v.length = M) : (gM M v)[M - 1 - j]? = some (fM M (v[j]'(by omega))) := by
  unfold gM
  rw [List.getElem?_map, List.getElem?_range (by omega)]
  simp only [Option.map_some]
  rw [show M - 1 - (M - 1 - j) = j by omega, List.getD_eq_getElem?_getD, List.getElem?_eq_getElem (by omega)]; rfl
def VecIn (M : Nat) (v : List Int) : Prop := v.length = M ∧ ∀ x ∈ v, -1 ≤ x ∧ x < M
theorem vec_in {N : List (List Rul)} (h : netMayV N = 0) (a : BitVec 32) : VecIn N.length (vecV N a) := by
  refine ⟨vecV_len N a, fun x hx => ?_⟩
  unfold vecV at hx
  obtain ⟨t, ht, rfl⟩ := List.mem_map.1 hx
  cases hs : stepO t a with
  | none => simp; omega
  | some y => have := step_bd h ht a hs; simp; omega
theorem turnN_get {N : List (List Rul)} {p : Nat} (hp : p < N.length) : (turnN N)[p]? = some (turnL N.length (N[N.length - 1 - p]'(by omega))) := by
  unfold turnN
  rw [List.getElem?_map, List.getElem?_range hp]
  simp only [Option.map_some]
  rw [List.getD_eq_getElem?_getD, List.getElem?_eq_getElem (by omega)]; rfl
theorem vec_turn {N : List (List Rul)} (h : netMayV N = 0) (a : BitVec 32) : vecV (turnN N) a = gM N.length (vecV N a) := by
  refine List.ext_getElem? fun p => ?_
  by_cases hp : p < N.length
  · have hj : N.length - 1 - p < N.length := by omega
    have e1 := gM_get (M := N.length) (v := vecV N a) hj (vecV_len N a)
    rw [show N.length - 1 - (N.length - 1 - p) = p by omega] at e1
    rw [e1]
    have e2 : (vecV (turnN N) a)[p]? = some ((stepO (turnL N.length N[N.length - 1 - p]) a).getD (-1)) := by
      unfold vecV
      rw [List.getElem?_map, turnN_get hp]; rfl
    rw [e2, step_turn]
    have e3 : (vecV N a)[N.length - 1 - p]'(by rw [vecV_len]; exact hj) = (stepO N[N.length - 1 - p] a).getD (-1) := by
      have := vecV_get (ls := N) (a := a) hj
      rw [List.getElem?_eq_getElem (by rw [vecV_len]; exact hj)] at this
      exact Option.some.inj this
    rw [e3]
    cases hs : stepO N[N.length - 1 - p] a with
    | none => rfl
    | some x =>
      have hb := step_bd h (List.getElem_mem hj) a hs
      simp only [Option.map_some, Option.getD_some]
      unfold fM
      rw [if_pos hb.1]
  · rw [List.getElem?_eq_none (by rw [vecV_len, turnN_len]; omega), List.getElem?_eq_none (by rw [gM_len]; omega)]
theorem gM_inj {M : Nat} {u v : List Int} (hu : VecIn M u) (hv : VecIn M v) (h : gM M u = gM M v) : u = v := by
  refine List.ext_getElem (by rw [hu.1, hv.1]) fun j h1 h2 => ?_
  have hj : j < M := by rw [hu.1] at h1; exact h1
  have e1 := gM_get hj hu.1
  have e2 := gM_get hj hv.1
  rw [h, e2] at e1
  have e3 := Option.some.inj e1
  have b1 := hu.2 _ (List.getElem_mem h1)
  have b2 := hv.2 _ (List.getElem_mem h2)
  unfold fM at e3
  split at e3 <;> split at e3 <;> omega
theorem ats_turn {N : List (List Rul)} (h : netMayV N = 0) (l : List (BitVec 32)) : atomsL (vecV (turnN N)) l = (atomsL (vecV N) l).mapV (gM N.length) := by
  have e : vecV (turnN N) = fun b => gM N.length (vecV N b) := funext fun b => vec_turn h b
  rw [e]
  exact atoms_mapV (p := VecIn N.length) (fun a => vec_in h a) (fun u v hu hv he => gM_inj hu hv he) l
end Go.Proofs.Ytamlalablblfeaa
