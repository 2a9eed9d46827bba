/-
  Plain: a text cut at one byte: pieces without it, joined by it, are told back.
-/
import Derived.Test.YtmfekngjhiofaaaGreatDoorHBack
import Derived.Test.YtmfekngjhiofaaaGreatDoorPSplit
set_option linter.unusedVariables false
set_option linter.unusedSimpArgs false
namespace Go.Proofs.YtmfekngjhiofaaaGreatDoor.Q
open Go.RowKit Go.Proofs.YtmfekngjhiofaaaGreatDoorW.PrintWords Go.Proofs.YtmfekngjhiofaaaGreatDoorW.PrintLast Go.Proofs.YtmfekngjhiofaaaGreatDoorW.PrintMore
theorem occ1_no (c : UInt8) (s : List UInt8) (j : Nat) (h : s[j]? ≠ some c) : Lib.occAt s [c] j = false := by
  unfold Lib.occAt
  cases hd : s.drop j with
  | nil => rfl
  | cons b r =>
    have hc : s[j]? = some b := by rw [← List.head?_drop, hd]; rfl
    have hne : b ≠ c := fun e => h (by rw [hc, e])
    have : (c == b) = false := beq_eq_false_iff_ne.mpr (fun e => hne e.symm)
    simp [List.isPrefixOf, this]
theorem index1_clean (c : UInt8) (w : List UInt8) (h : c ∉ w) : Lib.index w [c] = -1 :=
  Lib.index_none fun j _ => occ1_no c w j fun e => h (List.mem_of_getElem? e)
theorem index1_at (c : UInt8) (w r : List UInt8) (h : c ∉ w) : Lib.index (w ++ ([c] ++ r)) [c] = w.length := by
  refine Lib.index_first (by simp) ?_ (fun j hj => occ1_no c _ j fun e => ?_)
  · unfold Lib.occAt
    rw [List.drop_left]
    simp [List.isPrefixOf]
  · rw [List.getElem?_append_left hj] at e
    exact h (List.mem_of_getElem? e)
theorem cut1_join (c : UInt8) : ∀ (w : List UInt8) (ws : List (List UInt8)), (∀ x ∈ w :: ws, c ∉ x) → Lib.count (Lib.join (w :: ws) [c]) [c] = ws.length ∧ Lib.splitK [c] 0 ws.length (Lib.join (w :: ws) [c]) = w :: ws
  | w, [], h => by
    rw [join_one]
    exact ⟨Lib.count_miss (index1_clean c w (h w (by simp))), rfl⟩
  | w, w' :: ws, h => by
    obtain ⟨h1, h2⟩ := cut1_join c w' ws (fun x hx => h x (List.mem_cons_of_mem _ hx))
    have hi := index1_at c w (Lib.join (w' :: ws) [c]) (h w (by simp))
    have hd : (w ++ ([c] ++ Lib.join (w' :: ws) [c])).drop (w.length + 1) = Lib.join (w' :: ws) [c] := by
      rw [← List.append_assoc, show w.length + 1 = (w ++ [c]).length by simp, List.drop_left]
    rw [join_two]
    refine ⟨by rw [Lib.count_hit (by simp) hi, show w.length + [c].length = w.length + 1 from rfl, hd, h1, List.length_cons]; omega, ?_⟩
    have hne : (Lib.index (w ++ ([c] ++ Lib.join (w' :: ws) [c])) [c] == -1) = false := by rw [hi, beq_eq_false_iff_ne]; omega
    rw [List.length_cons]
    unfold Lib.splitK
    rw [hne, hi]
    simp only [Bool.false_eq_true, if_false, Int.toNat_natCast, Nat.add_zero, List.length_cons, List.length_nil, Nat.zero_add]
    rw [hd, h2, List.take_left]
theorem map_data_inj0 : ∀ {l l' : List ByteArray}, l.map (·.data.toList) = l'.map (·.data.toList) → l = l'
  | [], [], _ => rfl
  | [], _ :: _, h => by simp at h
  | _ :: _, [], h => by simp at h
  | a :: l, b :: l', h => by
    simp only [List.map_cons, List.cons.injEq] at h
    rw [ba_list0 h.1, map_data_inj0 h.2]
theorem splitS_join (c : UInt8) (ws : List ByteArray) (hne : ws ≠ []) (s : ByteArray) (hs : s.data.toList = Lib.join (ws.map (·.data.toList)) [c]) (h : ∀ x ∈ ws, c ∉ x.data.toList) : splitS s ⟨#[c]⟩ = ws := by
  obtain ⟨w, ws, rfl⟩ := List.exists_cons_of_ne_nil hne
  have hc := cut1_join c w.data.toList (ws.map (·.data.toList)) (fun x hx => by
    rcases List.mem_cons.1 hx with rfl | hx
    · exact h w (by simp)
    · obtain ⟨y, hy, rfl⟩ := List.mem_map.1 hx
      exact h y (List.mem_cons_of_mem _ hy))
  rw [List.map_cons] at hs
  rw [← hs, List.length_map] at hc
  apply map_data_inj0
  have hcount : Lib.countB s ⟨#[c]⟩ = ws.length := hc.1
  unfold splitS
  rw [hcount, Lib.splitB_data]
  exact hc.2
theorem splitS_text (c : UInt8) (s : ByteArray) : Lib.join ((splitS s ⟨#[c]⟩).map (·.data.toList)) [c] = s.data.toList := joinB_split s ⟨#[c]⟩ (by simp)
theorem join_front (c : UInt8) : ∀ (w : List UInt8) (ws : List (List UInt8)), c :: Lib.join (w :: ws) [c] = ((w :: ws).map (c :: ·)).flatten
  | w, [] => by rw [join_one]; simp
  | w, w' :: ws => by
    have ih := join_front c w' ws
    rw [join_two, List.map_cons, List.flatten_cons, ← ih]
    simp
theorem join_back (c : UInt8) : ∀ (w : List UInt8) (ws : List (List UInt8)), Lib.join (w :: ws) [c] ++ [c] = ((w :: ws).map (· ++ [c])).flatten
  | w, [] => by rw [join_one]; simp
  | w, w' :: ws => by
    have ih := join_back c w' ws
    rw [join_two, List.map_cons, List.flatten_cons, ← ih]
    simp
end Go.Proofs.YtmfekngjhiofaaaGreatDoor.Q
