/- ByEq, FTakeW: these texts in one. Conditions: each part names its own. -/
import Derived.Test.YtdpmnldmbnpfpaaGreatDoorGBytW
import Derived.Test.YtdpmnldmbnpfpaaGreatDoorShelf
import Derived.Test.YtdpmnldmbnpfpaaGreatDoorGBase
/- bytes.Equal on rows of bytes. Conditions: none. -/
namespace Go.Proofs.YtdpmnldmbnpfpaaGreatDoor
open Go Go.RowKit Go.Maps Go.Proofs

theorem bytesOf_yv : ∀ {x y : List Byt}, Lib.bytesOf (x.map yv) = Lib.bytesOf (y.map yv) -> x = y
 | [], [], _ => rfl
 | [], b :: y, h => by cases h
 | a :: x, [], h => by cases h
 | a :: x, b :: y, h => by
   unfold Lib.bytesOf at h
   simp only [List.map_cons, List.cons.injEq] at h
   have e : a = b := by
    have h1 := congrArg UInt8.toNat h.1
    have ha := a.isLt
    have hb := b.isLt
    refine BitVec.eq_of_toNat_eq ?_
    unfold yv at h1
    simp at h1
    omega
   rw [e, bytesOf_yv (x := x) (y := y) h.2]
theorem BsAt.bytesIn {w : World} {a : Option Addr} {cap : Nat} {l : List Byt} (h : BsAt w (.slice a l.length cap) l) : Lib.BytesIn w a l.length (l.map yv) := fun hn => by
 obtain ⟨a', cap', e, -, -, hc⟩ := h.form
 cases e
 obtain ⟨b, o, rfl, -⟩ := hc 0 _ (List.getElem?_eq_getElem hn)
 refine ⟨b, o, rfl, fun i hi => ?_⟩
 obtain ⟨b', o', e, h2⟩ := hc i _ (List.getElem?_eq_getElem hi)
 cases e
 rw [h2, List.getD_eq_getElem?_getD, List.getElem?_map, List.getElem?_eq_getElem hi]
 rfl
theorem bytesEqual_any (u v : Value) (x y : List Byt) (w : World) (hx : BsAt w u x) (hy : BsAt w v y) : Calls Tryz.prog 107 #[u, v] w fun e w' => e = .returned (.bool (decide (x = y))) /\ w' = w := by
 obtain ⟨a, c, rfl, -⟩ := hx.form
 obtain ⟨b, d, rfl, -⟩ := hy.form
 refine (Tryz.bytes_Equal_all a b x.length c y.length d (x.map yv) (y.map yv) w (by simp) (by simp) hx.bytesIn hy.bytesIn).mono ?_
 rintro e w' ⟨he, hw⟩
 refine ⟨?_, hw⟩
 rw [he]
 by_cases h : x = y
 · subst h; simp
 · rw [decide_eq_false h, beq_eq_false_iff_ne.2 fun e => h (bytesOf_yv e)]
theorem BsAt.cut {w : World} {a : Option Addr} {n cap j k : Nat} {l : List Byt} (h : BsAt w (.slice a n cap) l) (hj : j <= k) (hk : k <= cap) (hjl : j <= l.length) : BsAt w (.slice a j k) (l.take j) := by
 obtain ⟨h0, a', cap', e, h2, h3, h4, h5⟩ := h
 cases e
 have hlen : (l.take j).length = j := by rw [List.length_take]; omega
 unfold BsAt
 rw [hlen]
 refine ⟨by rw [ycells_len, hlen]; omega, a, k, rfl, hj, by omega, fun hn => ?_, fun b hb => ?_⟩
 · obtain ⟨e1, e2⟩ := h4 hn
   omega
 · obtain ⟨e1, e2⟩ := h5 b hb
   refine ⟨?_, fun i u hi => e2 i u ?_⟩
   · rcases e1 with e1 | e1
     · exact .inl e1
     · refine .inr ?_
       have : l = [] := by cases l with
        | nil => rfl
        | cons _ _ => cases e1
       subst this; simp [ycells]
   · unfold ycells at hi ⊢
     rw [List.map_take, List.getElem?_take] at hi
     split at hi
     · exact hi
     · cases hi
theorem BsAt.piece3 {w : World} {a : Option Addr} {n cap i j k : Nat} {l : List Byt} (h : BsAt w (.slice a n cap) l) (hi : i <= j) (hj : j <= k) (hk : k <= cap) (hjl : j <= l.length) : BsAt w (sliced a i j k 1) ((l.take j).drop i) := by
 have h1 := (h.cut hj hk hjl).piece (j := i) (k := j) hi (by rw [List.length_take]; omega)
 rw [List.take_of_length_le (by rw [List.length_take]; omega)] at h1
 exact h1
end Go.Proofs.YtdpmnldmbnpfpaaGreatDoor

/- frame.Take, by the program. Conditions: a milliard bytes at most. -/
namespace Go.Proofs.YtdpmnldmbnpfpaaGreatDoor
open Go Go.RowKit Go.Maps Go.Proofs

/-- What frame.Take and its like hand back: bytes of their own and no error, or none and an error. -/
def TookY (w : World) (r : List Byt × Int) (e : Ending) (w' : World) : Prop :=
 (∃ u, e = .returned (.tuple #[u, I r.2]) /\ OwnY w' w.heap.size u r.1 /\ (r.2 ≠ 0 -> u = .slice none 0 0)) /\ Ext w w'
set_option maxHeartbeats 4000000 in
set_option maxRecDepth 100000 in
theorem frameTake_any (m : BitVec 32) (v : Value) (l : List Byt) (w : World) (h : BsAt w v l) (hl : l.length <= 1000000000) : Calls Tryz.prog 47 #[U m, v] w (TookY w (ftake m l)) := by
 have HC := Lib.hid h
 obtain ⟨a, cap, rfl, c1, c2, -⟩ := h.form
 clear h
 unfold maxLen at c2
 by_cases h8 : l.length < 8
 · have HA := Lib.hid (show ftake m l = ([], 2) by unfold ftake; rw [if_pos h8])
   have hd : decide ((l.length : Int) < 8) = true := decide_eq_true (by omega)
   go_enter Tryz.func47, Tryz.ntmps47
   go_wp2_with fail
   go_ret2
   rw [HA.out]
   exact ⟨⟨_, rfl, OwnY.nil _ _, fun _ => rfl⟩, Ext.refl _⟩
 · obtain ⟨E, hE⟩ : ∃ E, l.length = E + 4 := ⟨l.length - 4, by omega⟩
   have hd : decide ((l.length : Int) < 8) = false := decide_eq_false (by omega)
   go_enter Tryz.func47, Tryz.ntmps47
   go_upto_region 4 with fail
   have hEc : E <= cap := by omega
   go_region
   go_upto_region 5 with fail
   have hE4 : 4 <= E := by omega
   have hE4i : (4 : Int) <= (E : Int) := by omega
   have HXD := Lib.hid (show Ext w w.drew from (Ext.refl w).drew)
   generalize w.drew = w1 at *
   refine wp_region_R (RB (w1.heap.size)) 4 rfl (by kernel_rfl) (by kernel_rfl) (fun w0 hx0 => ?_)
   refine WRi_at 0 ?_
   iterate 3
    refine WRi_q (preRB _) rfl (by decide) (by kernel_rfl) rfl ?_; apply Exists.intro; refine ⟨fun w1 hx1 => ?_, ?_⟩
    · go_simp; try go_bits
      first | with_reducible rfl | rfl
    simp only [Act.put, List.setIfInBounds_toArray, List.set_cons_zero, List.set_cons_succ, Nat.reduceAdd]
   refine WRi_out ?_
   refine WR_one 3 rfl (by decide) (by kernel_rfl) rfl (fun K hK => ?_)
   go_simp
   refine (frameFour_any m _).mono ?_
   rintro e w5 ⟨fv, he, hfo, hx5⟩
   subst he
   refine hK _ _ (RB.ext hx5) ?_
   clear hK K
   have HX5 := Lib.hid (HXD.out.trans (hx0.trans hx5))
   have HF5 := Lib.hid hfo.bs
   have HT4 := Lib.hid (show BsAt w5 (.slice a 4 4) (l.take 4) from (HC.out.cut (j := 4) (k := 4) (by decide) (by omega) (by omega)).later HX5.out)
   clear hfo hx5 hx0
   refine WR_done (by kernel_rfl) ?_
   (try simp only [List.drop_succ_cons, List.drop_zero])
   by_cases hm : l.take 4 = be4 m
   · have hmd : decide (l.take 4 = be4 m) = true := decide_eq_true hm
     go_upto_region 7 with (first
      | (go_at_call 107; (with_reducible refine (bytesEqual_any _ _ _ _ _ HT4.out HF5.out).mono ?_); rintro e w6 ⟨he, hw⟩; subst he hw))
     have HTE := Lib.hid (show BsAt w6 (.slice a E E) (l.take E) from (HC.out.cut (j := E) (k := E) (Nat.le_refl _) hEc (by omega)).later HX5.out)
     have HTD := Lib.hid (show BsAt w6 (.slice (Option.map (fun x => x.add E) a) 4 (cap - E)) (l.drop E) from by
      have h := (HC.out.piece (j := E) (k := l.length) (by omega) (Nat.le_refl _)).later HX5.out
      rw [List.take_length] at h
      have e : slv 1 (.slice a l.length cap) E l.length = .slice (Option.map (fun x => x.add E) a) 4 (cap - E) := by
       show Value.slice (if cap = E then a else a.map (·.add (E * 1))) (l.length - E) (cap - E) = _
       rw [if_neg (by omega), Nat.mul_one, show l.length - E = 4 by omega]
      rw [e] at h; exact h)
     by_cases hs : l.drop E = be4 (crcSum (l.take E))
     · have hsd : decide (l.drop E = be4 (crcSum (l.take E))) = true := decide_eq_true hs
       have HA := Lib.hid (show ftake m l = ((l.take E).drop 4, 0) by
        unfold ftake; rw [if_neg h8, if_neg (not_not_intro hm), show l.length - 4 = E by omega, if_neg (not_not_intro hs)])
       go_upto_region 9 with (first
        | (go_at_call 30; (with_reducible refine (crcSum_any _ _ _ HTE.out).mono ?_); rintro e w7 ⟨he, hx7⟩; subst he; have HX7 := Lib.hid (HX5.out.trans hx7); have HTD7 := Lib.hid (HTD.out.later hx7); clear hx7)
        | (go_at_call 29; (with_reducible refine (frameFour_any _ _).mono ?_); rintro e w8 ⟨v8, he, ho8, hx8⟩; subst he; have HF8 := Lib.hid ho8.bs; have HX8 := Lib.hid (HX7.out.trans hx8); have HTD8 := Lib.hid (HTD7.out.later hx8); clear hx8 ho8)
        | (go_at_call 107; (with_reducible refine (bytesEqual_any _ _ _ _ _ HTD8.out HF8.out).mono ?_); rintro e w9 ⟨he, hw⟩; subst he hw))
       have HT9 := Lib.hid (show BsAt _ (.slice (if E = 4 then a else Option.map (fun x => (⟨x.block, x.off + 4, none⟩ : Addr)) a) (E - 4) (E - 4)) ((l.take E).drop 4) from (HC.out.piece3 (i := 4) (j := E) (k := E) hE4 (Nat.le_refl _) hEc (by omega)).later HX8.out)
       have hn9 : ((l.take E).drop 4).length <= 1000000000 := by rw [List.length_drop, List.length_take]; omega
       go_wp2_with (first
        | (go_at_call 108; (with_reducible refine (frameOwn_any _ _ _ HT9.out hn9).mono ?_); rintro e w9 ⟨u9, he, ho9, hx9⟩; subst he; have HO9 := Lib.hid (ho9.low HX8.out.size); have HX9 := Lib.hid (HX8.out.trans hx9); clear ho9 hx9))
       all_goals
        go_ret2
        rw [HA.out]
        exact ⟨⟨_, rfl, HO9.out, fun h => absurd rfl h⟩, HX9.out⟩
     · have hsd : decide (l.drop E = be4 (crcSum (l.take E))) = false := decide_eq_false hs
       have HA := Lib.hid (show ftake m l = ([], 6) by
        unfold ftake; rw [if_neg h8, if_neg (not_not_intro hm), show l.length - 4 = E by omega, if_pos hs])
       go_wp2_with (first
        | (go_at_call 30; (with_reducible refine (crcSum_any _ _ _ HTE.out).mono ?_); rintro e w7 ⟨he, hx7⟩; subst he; have HX7 := Lib.hid (HX5.out.trans hx7); have HTD7 := Lib.hid (HTD.out.later hx7); clear hx7)
        | (go_at_call 29; (with_reducible refine (frameFour_any _ _).mono ?_); rintro e w8 ⟨v8, he, ho8, hx8⟩; subst he; have HF8 := Lib.hid ho8.bs; have HX8 := Lib.hid (HX7.out.trans hx8); have HTD8 := Lib.hid (HTD7.out.later hx8); clear hx8 ho8)
        | (go_at_call 107; (with_reducible refine (bytesEqual_any _ _ _ _ _ HTD8.out HF8.out).mono ?_); rintro e w9 ⟨he, hw⟩; subst he hw))
       go_ret2
       rw [HA.out]
       exact ⟨⟨_, rfl, OwnY.nil _ _, fun _ => rfl⟩, HX8.out⟩
   · have hmd : decide (l.take 4 = be4 m) = false := decide_eq_false hm
     have HA := Lib.hid (show ftake m l = ([], 5) by unfold ftake; rw [if_neg h8, if_pos hm])
     go_wp2_with (first
      | (go_at_call 107; (with_reducible refine (bytesEqual_any _ _ _ _ _ HT4.out HF5.out).mono ?_); rintro e w6 ⟨he, hw⟩; subst he hw))
     go_ret2
     rw [HA.out]
     exact ⟨⟨_, rfl, OwnY.nil _ _, fun _ => rfl⟩, HX5.out⟩
end Go.Proofs.YtdpmnldmbnpfpaaGreatDoor
