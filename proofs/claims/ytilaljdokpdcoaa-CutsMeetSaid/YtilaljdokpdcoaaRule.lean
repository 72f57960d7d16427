/- Rules by value: how they lie in memory, how they are held against each other, and rules that may be. Conditions: whole numbers are within 64 bits. -/
import Derived.Test.YtilaljdokpdcoaaMask06
import Derived.Test.YtilaljdokpdcoaaRegion
import Derived.Deep.RegionHeld3
namespace Go.Proofs.Ytilaljdokpdcoaa
open Go.RowKit

/-- A rule: its address, its length, what becomes of packets, the node. -/
structure Rul where
  pa : BitVec 32
  pl : Int
  act : Int
  nx : Int
  deriving DecidableEq
abbrev Rul.cells (r : Rul) : List Value := [U r.pa, I r.pl, I r.act, I r.nx]
abbrev Rul.val (r : Rul) : Value := .agg #[U r.pa, I r.pl, I r.act, I r.nx]
structure Rul.Ok (r : Rul) : Prop where
  pl : In64 r.pl
  act : In64 r.act
  nx : In64 r.nx

theorem r07Compare_any (a b : Rul) (w : World) :
    Calls Try.prog 67 #[a.val, b.val] w fun e w' => e = .returned (I (cmpV a.pa a.pl b.pa b.pl)) ∧ Ext w w' := by
  go_enter Try.func67, Try.ntmps67
  go_wp2_with (go_at_call 81; refine (r06Compare_any _ _ _ _ _).mono ?_; rintro e w' ⟨rfl, rfl⟩)
  go_ret
  exact ⟨rfl, ((Ext.refl w).alloc _).alloc _⟩
theorem ruleCompare_any (a b : Rul) (w : World) :
    Calls Try.prog 76 #[a.val, b.val] w fun e w' => e = .returned (I (cmpV a.pa a.pl b.pa b.pl)) ∧ Ext w w' := by
  go_enter Try.func76, Try.ntmps76
  go_wp2_with (go_at_call 87; refine (prefCompare_any _ _ _ _ _).mono ?_; rintro e w' ⟨rfl, rfl⟩)
  go_ret
  exact ⟨rfl, ((Ext.refl w).alloc _).alloc _⟩

theorem tmod_bd (x k : Int) (hk : 0 < k) : -k < x.tmod k ∧ x.tmod k < k := by
  have h1 := Int.tmod_lt_of_pos x hk
  have h2 := Int.tmod_lt_of_pos (-x) hk
  rw [Int.neg_tmod] at h2
  omega
theorem tmod_fix (x k : Int) : (x.tmod k + k) % k = x % k := by
  rw [Int.add_emod_right, Int.tmod_def, Int.sub_mul_emod_self_left]
def fitV (r : Rul) (nodes : Int) : Rul :=
  { pa := r.pa &&& maskV (r.pl % 33), pl := r.pl % 33, act := if r.act % 3 = 0 then 3 else r.act % 3, nx := if r.act % 3 = 1 then r.nx % nodes else 0 }
theorem mod3 (x : Int) : x % 3 = 0 ∨ x % 3 = 1 ∨ x % 3 = 2 := by omega
set_option maxHeartbeats 1000000 in
theorem r07Fit_any (r : Rul) (nodes : Int) (w : World) (hr : r.Ok) (h1 : 1 ≤ nodes) (h2 : nodes ≤ 100000) :
    Calls Try.prog 69 #[r.val, I nodes] w fun e w' => e = .returned (fitV r nodes).val ∧ Ext w w' := by
  obtain ⟨⟨h3, h4⟩, ⟨h5, h6⟩, h7, h8⟩ := hr
  obtain ⟨a1, a2⟩ := tmod_bd r.pl 33 (by omega)
  obtain ⟨a3, a4⟩ := tmod_bd r.act 3 (by omega)
  obtain ⟨a5, a6⟩ := tmod_bd r.nx nodes (by omega)
  have e1 := tmod_fix r.pl 33
  have e2 := tmod_fix r.act 3
  have e3 := tmod_fix r.nx nodes
  have b1 : 0 ≤ r.pl % 33 := Int.emod_nonneg _ (by omega)
  have b2 : r.pl % 33 < 33 := Int.emod_lt_of_pos _ (by omega)
  have s1 : IntKind.i64.wrap (r.act.tmod 3 + 3) = r.act.tmod 3 + 3 := IntWalk.i64_in _ (by omega)
  have s2 : (r.act.tmod 3 + 3).tmod 3 = r.act % 3 := by rw [Int.tmod_eq_emod_of_nonneg (by omega), e2]
  have H : Hid ((fitV r nodes).val = .agg #[U (r.pa &&& maskV (r.pl % 33)), I (r.pl % 33), I (if r.act % 3 = 0 then 3 else r.act % 3), I (if r.act % 3 = 1 then r.nx % nodes else 0)]) := rfl
  rcases mod3 r.act with g | g | g
  all_goals
    simp only [g] at H s2 e2
    clear g
    go_enter Try.func69, Try.ntmps69
    go_wp2_with fail
    go_region_held3 (fun w' => w'.cell? ⟨w.heap.size, 0, none⟩ = some (U r.pa) ∧ w'.cell? ⟨w.heap.size, 2, none⟩ = some (I r.act)) (go_simp) ((first | (go_at_call 83; refine (r06Mask_any _ _ ⟨by omega, by omega⟩).mono ?_; rintro e w' ⟨rfl, rfl⟩)))
    all_goals
      go_wp2
      refine bodyPost_ret (v := (fitV r nodes).val) ?_ rfl ⟨rfl, ?_⟩
      · rw [H.out]; simp [results, Try.results69, go_sem]
      · (repeat (first | with_reducible exact Ext.refl _ | with_reducible assumption | with_reducible refine Ext.alloc ?_ _ | with_reducible refine Ext.drew ?_ | with_reducible refine Ext.drewN ?_ _ | (with_reducible refine Ext.setCellP ?_ ?_; focus (first | (simp; done) | (simp; omega) | omega))))
end Go.Proofs.Ytilaljdokpdcoaa
