/- FitTr, FitPs, FitLoops, FitC: these texts in one. Conditions: each part names its own. -/
import Derived.Test.YtdpmnldmbnpfpaaGreatDoorGCert
import Derived.Test.YtdpmnldmbnpfpaaGreatDoorGFit17
import Derived.Test.YtdpmnldmbnpfpaaGreatDoorGChk
/- The trace that theseusref17.Fit makes, in plain words, and that it may be. Conditions: none. -/
namespace Go.Proofs.YtdpmnldmbnpfpaaGreatDoor
open Go.RowKit

def addT (v : Int) (o : List Int) : List Int := if v ∈ o then o else if o = [] \/ o.headD 0 < v then o ++ [v] else o
/-- The numbers that are tried, one after the other. -/
def tryT (n : Nat) (tr : List Int) : List Int := if tr = [] then [0] else tr.map (fitRk n)
def fitTr (n : Nat) (tr : List Int) : List Int := (tryT n tr).foldl (fun o v => addT v o) []
structure GoodT (n : Nat) (o : List Int) : Prop where
 nodup : o.Nodup
 low : ∀ x ∈ o, o.headD 0 <= x
 mem : ∀ x ∈ o, 0 <= x /\ x < n
theorem GoodT.nil (n : Nat) : GoodT n [] := ⟨List.nodup_nil, (fun x h => by cases h), (fun x h => by cases h)⟩
theorem GoodT.add {n : Nat} {o : List Int} (h : GoodT n o) {v : Int} (hv : 0 <= v /\ v < n) : GoodT n (addT v o) := by
 unfold addT
 split
 · exact h
 · rename_i hn
   split
   · rename_i hf
     refine ⟨?_, ?_, ?_⟩
     · rw [List.nodup_append]
       refine ⟨h.nodup, by simp, fun a ha b hb => ?_⟩
       simp only [List.mem_singleton] at hb
       subst hb
       intro e; subst e; exact hn ha
     · intro x hx
       cases o with
       | nil => simp at hx; subst hx; simp
       | cons y t =>
         rcases List.mem_append.1 hx with hx | hx
         · exact h.low x hx
         · simp only [List.mem_singleton] at hx
           subst hx
           rcases hf with hf | hf
           · cases hf
           · simp at hf ⊢; omega
     · intro x hx
       rcases List.mem_append.1 hx with hx | hx
       · exact h.mem x hx
       · simp only [List.mem_singleton] at hx
         subst hx; exact hv
   · exact h
theorem nodup_few : ∀ (n : Nat) (l : List Int), l.Nodup -> (∀ x ∈ l, 0 <= x /\ x < (n : Int)) -> l.length <= n
 | 0, l, _, h => by
   cases l with
   | nil => simp
   | cons x t => have := h x (List.mem_cons_self ..); omega
 | n + 1, l, hd, h => by
   have h1 := nodup_few n (l.erase (n : Int)) (hd.erase _) (fun x hx => by
    have hx2 := (hd.mem_erase_iff).1 hx
    have := h x hx2.2
    have := hx2.1
    omega)
   rw [List.length_erase] at h1
   split at h1 <;> omega
theorem trG_no {f : Int} : ∀ (t s : List Int), (s ++ t).Nodup -> (∀ x ∈ t, f <= x) -> trG f s t = false
 | [], _, _, _ => rfl
 | x :: t, s, hd, hl => by
   have h1 : x ∉ s := fun hx => by
    rw [List.nodup_append] at hd
    exact hd.2.2 x hx x (List.mem_cons_self ..) rfl
   have h2 := hl x (List.mem_cons_self ..)
   show (decide (x ∈ s) || (decide (x < f) || trG f (s ++ [x]) t)) = false
   rw [trG_no t (s ++ [x]) (by simpa using hd) (fun y hy => hl y (List.mem_cons_of_mem _ hy)), decide_eq_false h1, decide_eq_false (show ¬ x < f by omega)]
   rfl
end Go.Proofs.YtdpmnldmbnpfpaaGreatDoor

/- The parts that theseusref17.Fit makes are a certificate that may be. Conditions: none. -/
namespace Go.Proofs.YtdpmnldmbnpfpaaGreatDoor
open Go.RowKit

theorem meet_cuts {L : List (BitVec 32)} (hr : Rising L) (h0 : L[0]? = some 0#32) {ps : List Prt} (hl : ps.length = L.length) (hm : ∀ (i : Nat) (h : i < L.length) (p : Prt), ps[i]? = some p -> p.fr = L[i] /\ p.up = endV L i) : meetV ps = 0 := by
 have key : ∀ (d k : Nat), k + d = L.length -> meetG (if h : k < L.length then uv L[k] else 4294967296) (ps.drop k) = true := by
  intro d
  induction d with
  | zero =>
    intro k hk
    rw [dif_neg (by omega), meetG_end _ (by omega)]
    rfl
  | succ d ih =>
    intro k hk
    have h1 : k < L.length := by omega
    have h2 : k < ps.length := by omega
    obtain ⟨e1, e2⟩ := hm k h1 ps[k] (List.getElem?_eq_getElem h2)
    have e3 := ih (k + 1) (by omega)
    rw [dif_pos h1, meetG_step _ h2, e1, e2]
    have e4 := end_ge hr h1
    have e5 : uv (endV L k) + 1 = (if h : k + 1 < L.length then uv L[k + 1] else 4294967296) := by
     split
     · rename_i h; rw [end_pos hr h]; omega
     · rename_i h; rw [end_top h]; decide
    rw [e5, e3, decide_eq_true e4]
    simp
 have h1 : 0 < L.length := (List.getElem?_eq_some_iff.1 h0).1
 have h2 : L[0] = 0#32 := by rw [List.getElem?_eq_getElem h1] at h0; exact Option.some.inj h0
 have h := key L.length 0 (by omega)
 rw [dif_pos h1, h2] at h
 exact meetV_yes h
theorem rksV_zero (n : Int) : ∀ rks : List (List Int), (∀ r ∈ rks, (r.length : Int) = n /\ ∀ x ∈ r, 0 <= x /\ x < n) -> rksV n rks = 0
 | [], _ => rfl
 | r :: t, h => by
   obtain ⟨h1, h2⟩ := h r (List.mem_cons_self ..)
   have h3 : r.any (outB n) = false := by
    rw [List.any_eq_false]
    intro x hx
    have := h2 x hx
    unfold outB
    simp; omega
   show (if (r.length : Int) ≠ n then 1 else if r.any (outB n) then 16 else rksV n t) = 0
   rw [if_neg (by simpa using h1), if_neg (by rw [h3]; simp)]
   exact rksV_zero n t fun r' hr => h r' (List.mem_cons_of_mem _ hr)
/-- A certificate all of the call's own. -/
structure CertOwn (w : World) (B : Nat) (pv tv : Value) (c : Crt) : Prop where
 parts : OwnP w B pv c.ps
 len : c.rks.length = c.ps.length
 rk : ∀ (i : Nat) (p : Prt) (r : List Int), c.ps[i]? = some p -> c.rks[i]? = some r -> OwnI w B p.rk r
 tr : OwnI w B tv c.tr
theorem CertOwn.at {w : World} {B : Nat} {pv tv : Value} {c : Crt} (h : CertOwn w B pv tv c) : CertAt w pv tv c :=
 ⟨h.parts.parts, h.len, fun i p r h1 h2 => Reads.of_own (h.rk i p r h1 h2), Reads.of_own h.tr⟩
theorem CertOwn.later {w w' : World} {B : Nat} {pv tv : Value} {c : Crt} (h : CertOwn w B pv tv c) (hx : Ext w w') : CertOwn w' B pv tv c :=
 ⟨h.parts.later hx, h.len, fun i p r h1 h2 => (h.rk i p r h1 h2).later hx, h.tr.later hx⟩
theorem CertOwn.setCell {w : World} {B : Nat} {pv tv : Value} {c : Crt} (h : CertOwn w B pv tv c) {p : Addr} (hp : p.block < B) (x : Value) : CertOwn (w.setCell p x) B pv tv c :=
 ⟨own_set h.parts hp x, h.len, fun i p r h1 h2 => own_set (h.rk i p r h1 h2) hp x, own_set h.tr hp x⟩
end Go.Proofs.YtdpmnldmbnpfpaaGreatDoor

/- theseusref17.Fit of a verdict whose last bit is 0: a trace that may be. Conditions: whole numbers are within 64 bits. -/
namespace Go.Proofs.YtdpmnldmbnpfpaaGreatDoor
open Go.RowKit

/-- Which nodes a trace has. -/
def usedV (n : Nat) (o : List Int) : List Value := (List.range n).map fun (v : Nat) => Value.bool (decide ((v : Int) ∈ o))
def foldT (l : List Int) : List Int := l.foldl (fun o v => addT v o) []
end Go.Proofs.YtdpmnldmbnpfpaaGreatDoor

/- theseusref17.Fit of any certificate: one that may be. Conditions: whole numbers are within 64 bits. -/
namespace Go.Proofs.YtdpmnldmbnpfpaaGreatDoor
open Go.RowKit

end Go.Proofs.YtdpmnldmbnpfpaaGreatDoor
