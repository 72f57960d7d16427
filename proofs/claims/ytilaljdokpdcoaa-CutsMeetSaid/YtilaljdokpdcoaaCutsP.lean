/- Plain facts on cuts: what the rows are that hold a network's. Conditions: none. -/
import Derived.Test.YtilaljdokpdcoaaSortedU
import Derived.Test.YtilaljdokpdcoaaNetP
namespace Go.Proofs.Ytilaljdokpdcoaa
open Go Go.RowKit Go.Maps Go.Proofs

def rcut (r : Rul) : List Int := uv (lowV r.pa r.pl) :: (if uv (highV r.pa r.pl) = 4294967295 then [] else [uv (highV r.pa r.pl) + 1])
def cutI (rs : List Rul) : List Int := 0 :: rs.flatMap rcut
/-- The rising row of the cuts. -/
def Cuts (rs : List Rul) (l : List (BitVec 32)) : Prop := l.Pairwise (fun a b => uv a < uv b) ∧ ∀ a : BitVec 32, a ∈ l ↔ uv a ∈ cutI rs
theorem cutI_app (rs : List Rul) (r : Rul) : cutI (rs ++ [r]) = cutI rs ++ rcut r := by unfold cutI; simp
theorem rcut_bd (r : Rul) : ∀ x ∈ rcut r, 0 ≤ x ∧ x < 4294967296 := by
  intro x hx
  unfold rcut at hx
  have h1 := uv_bd (lowV r.pa r.pl)
  have h2 := uv_bd (highV r.pa r.pl)
  split at hx
  · simp at hx; omega
  · simp at hx; omega
theorem cutI_bd (rs : List Rul) : ∀ x ∈ cutI rs, 0 ≤ x ∧ x < 4294967296 := by
  intro x hx
  unfold cutI at hx
  rcases List.mem_cons.1 hx with rfl | hx
  · omega
  · obtain ⟨r, _, hr⟩ := List.mem_flatMap.1 hx
    exact rcut_bd r x hr
theorem wf_u32 {x : Int} (h0 : 0 ≤ x) (h1 : x < 4294967296) : (Lit.int .u32 x).wf = true := by
  have h2 : x ≤ 4294967295 := by omega
  show (decide (0 ≤ x) && decide (x ≤ 4294967295)) = true
  rw [decide_eq_true h0, decide_eq_true h2]; rfl
theorem keyOf_U (a : Int) (h0 : 0 ≤ a) (h1 : a < 4294967296) : keyOf Try.prog 25 (.int .u32 a) = some (.int .u32 a) := keyOf_int_mk Try.underlying25 (wf_u32 h0 h1)
/-- The map in block mb has these keys. -/
def MapAt (w : World) (mb : Nat) (cs : List Int) : Prop :=
  ∃ (n : Nat) (D : DataW Unit), w.ownsMap Try.prog 25 (plainElem Try.prog 4) mb n D ∧ n ≤ cs.length ∧ ∀ x, has D (.int .u32 x) = true ↔ x ∈ cs
theorem has_put {D : DataW Unit} (hD : IsMap D) (x : Int) (d : DataW Unit) (y : Int) : has (D.put (.int .u32 x) d) (.int .u32 y) = true ↔ y = x ∨ has D (.int .u32 y) = true := by
  by_cases h : y = x
  · subst h
    rw [has_put_same hD (by first | trivial | simp [WideAt.IsKeyLit])]
    simp
  · rw [has_put_other (fun e => h (by cases e; rfl))]
    simp [h]
theorem MapAt.start (w : World) : (w.alloc (.map #[] 0)).ownsMap Try.prog 25 (plainElem (H := Unit) Try.prog 4) w.heap.size 0 (.map []) := World.ownsMap_made _ _ _ _
theorem Cuts.at {rs : List Rul} {a b : List (BitVec 32)} (h : Cuts rs a) (k : Cuts rs b) : a = b :=
  List.Perm.eq_of_pairwise (le := fun x y => uv x < uv y) (fun x y _ _ h1 h2 => by omega) h.1 k.1
    ((List.perm_ext_iff_of_nodup (h.1.imp (fun {x y} h e => by subst e; omega)) (k.1.imp (fun {x y} h e => by subst e; omega))).2 fun x => by rw [h.2, k.2])
/-- Numbers of the kind, back from whole numbers. -/
theorem cuts_of {D : DataW Unit} {w : World} {mb n : Nat} {rs : List Rul} (hown : w.ownsMap Try.prog 25 (plainElem Try.prog 4) mb n D) (hh : ∀ x, has D (.int .u32 x) = true ↔ x ∈ cutI rs) :
    ∃ l : List (BitVec 32), (u32Keys D).mergeSort leU = l.map uv ∧ Cuts rs l ∧ l.length = Maps.size D := by
  obtain ⟨es, rfl, hpw, _⟩ := hown.entries lawU
  obtain ⟨es', hD', hko⟩ := hown.keysOf
  obtain rfl : es = es' := by simpa using hD'
  have hk' : ∀ p ∈ es, ∃ x, p.1 = .int .u32 x := fun p hp => by
    obtain ⟨v, hv⟩ := hko p hp
    obtain ⟨x, _, hx, _⟩ := keyOf_u32 Try.underlying25 hv
    exact ⟨x, hx⟩
  have hnd := nodup_keysU hpw hk'
  have hmem : ∀ x, x ∈ u32Keys (DataW.map es) ↔ x ∈ cutI rs := fun x => (mem_keysU hk' x).trans (hh x)
  have hp := List.mergeSort_perm (u32Keys (DataW.map es)) leU
  have hs := List.pairwise_mergeSort leU_trans leU_total (u32Keys (DataW.map es))
  have hn2 : ((u32Keys (DataW.map es)).mergeSort leU).Nodup := hp.nodup_iff.2 hnd
  have hlen : ((u32Keys (DataW.map es)).mergeSort leU).length = es.length := by rw [List.length_mergeSort]; unfold u32Keys; rw [List.length_map]
  generalize (u32Keys (DataW.map es)).mergeSort leU = ms at hp hs hn2 hlen
  have hmm : ∀ x, x ∈ ms ↔ x ∈ cutI rs := fun x => (hp.mem_iff).trans (hmem x)
  have hback : (ms.map (BitVec.ofInt 32)).map uv = ms := by
    rw [List.map_map]
    refine (List.map_congr_left (g := id) fun x hx => ?_).trans (List.map_id _)
    have := cutI_bd rs x ((hmm x).1 hx)
    exact uv_ofInt x this.1 this.2
  refine ⟨ms.map (BitVec.ofInt 32), hback.symm, ⟨?_, fun a => ?_⟩, by rw [List.length_map]; exact hlen⟩
  · have h2 : ((ms.map (BitVec.ofInt 32)).map uv).Pairwise (fun a b => a < b) := by
      rw [hback]
      refine (List.Pairwise.and hs hn2).imp ?_
      rintro a b ⟨h1, h2⟩
      have := of_decide_eq_true h1
      omega
    exact List.pairwise_map.1 h2
  · rw [← hmm (uv a)]
    constructor
    · intro h
      have := List.mem_map_of_mem (f := uv) h
      rwa [hback] at this
    · intro h
      refine List.mem_map.2 ⟨uv a, h, uv_inj (uv_ofInt _ (uv_bd a).1 (uv_bd a).2)⟩
theorem SortCap.bytes {n : Nat} (h : SortCap n) : n * 4 ≤ 140737488355328 ∧ n < maxLen ∧ n ≤ maxLen := by
  have : n ≤ 12 := h
  unfold maxLen; omega
theorem SortCap.mono {m n : Nat} (h : SortCap n) (k : m ≤ n) : SortCap m := Nat.le_trans k h
end Go.Proofs.Ytilaljdokpdcoaa
