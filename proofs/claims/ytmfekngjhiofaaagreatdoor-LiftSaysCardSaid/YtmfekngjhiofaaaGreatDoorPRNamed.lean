/-
  Plain: the document's unlike and Named tell what lift.named tells.
-/
import Derived.Test.YtmfekngjhiofaaaGreatDoorQx13
import Derived.Test.YtmfekngjhiofaaaGreatDoorHNamed
import Derived.Test.YtmfekngjhiofaaaGreatDoorPPlain
set_option linter.unusedVariables false
set_option linter.unusedSimpArgs false
namespace Go.Proofs.YtmfekngjhiofaaaGreatDoor.Q
open Go.RowKit Go.Proofs.YtmfekngjhiofaaaGreatDoorW.PrintWords Go.Proofs.YtmfekngjhiofaaaGreatDoorW.PrintLast Go.Proofs.YtmfekngjhiofaaaGreatDoorW.PrintMore
theorem bad_odd (c : UInt8) : badC.data.toList.contains c = oddC c := by
  show List.contains [32, 10, 61, 124, 126, 58] c = oddC c
  rw [Bool.eq_iff_iff]
  simp [oddC, List.contains_cons, or_assoc]
theorem plain_bad (s : ByteArray) : plainB s = !badL s.data.toList := by
  unfold plainB badL Lib.containsAny
  generalize s.data.toList = l
  induction l with
  | nil => rfl
  | cons c l ih =>
    have hg := Lib.indexAny_ge badC.data.toList l
    rw [List.all_cons, ih]
    simp only [Lib.indexAny, bad_odd c]
    cases oddC c
    · by_cases e : Lib.indexAny l badC.data.toList = -1
      · simp [e]
      · have h1 : 0 ≤ Lib.indexAny l badC.data.toList := by omega
        have h2 : 0 ≤ Lib.indexAny l badC.data.toList + 1 := by omega
        simp [e, h1, h2]
    · simp
theorem ba_of_list {a b : ByteArray} (h : a.data.toList = b.data.toList) : a = b := by
  cases a; cases b; congr 1; exact Array.toList_inj.1 h
def nm (l : List ByteArray) : List (List UInt8) := l.map (·.data.toList)
theorem rdOf_at (l : List ByteArray) (i : Nat) (h : i < l.length) : rdOf ByteArray.empty l (i : Int) = l[i] := by unfold rdOf; simp [h]
theorem unlike_l1 (l : List ByteArray) (hn : l.length ≤ 1000) (i F : Nat) (hi : i < l.length) (hp : badL l[i].data.toList = false) (hu : unlikeB ((nm l).take i) = true)
    (IH : unlikeB ((nm l).take (i + 1)) = true → ∀ k, F < k → proofmarkref27_unlike.l0 k l ((i + 1 : Nat) : Int) = some (unlikeB (nm l))) (d : Nat) : ∀ (k j : Nat) (_ : i - j = d) (hj : j ≤ i) (_ : ∀ m (h : m < j), l[m]'(by omega) ≠ l[i]), F + d + 1 < k → proofmarkref27_unlike.l1 k l (i : Int) (j : Int) = some (unlikeB (nm l)) := by
  have hs : (nm l).take (i + 1) = (nm l).take i ++ [l[i].data.toList] := names_snoc (fun x : ByteArray => x.data.toList) l i hi
  have hmem : l[i].data.toList ∈ (nm l).take i ↔ ∃ m, ∃ h : m < i, l[m]'(by omega) = l[i] := by
    rw [List.mem_take_iff_getElem]
    constructor
    · rintro ⟨m, hm, he⟩
      have h1 : m < i := by omega
      refine ⟨m, h1, ba_of_list ?_⟩
      simpa [nm] using he
    · rintro ⟨m, hm, he⟩
      exact ⟨m, by simp [nm]; omega, by simp [nm, he]⟩
  induction d with
  | zero =>
    intro k j h1 h2 h3 h4
    obtain rfl : j = i := by omega
    obtain ⟨k, rfl⟩ : ∃ q, k = q + 1 := ⟨k - 1, by omega⟩
    simp only [proofmarkref27_unlike.l1]
    rw [if_neg (by omega), wrap_one j (by omega)]
    refine IH ?_ k (by omega)
    rw [hs, unlikeB_snoc, hu, hp, decide_eq_false (by rw [hmem]; rintro ⟨m, hm, he⟩; exact h3 m hm he)]
    rfl
  | succ d ih =>
    intro k j h1 h2 h3 h4
    obtain ⟨k, rfl⟩ : ∃ q, k = q + 1 := ⟨k - 1, by omega⟩
    simp only [proofmarkref27_unlike.l1]
    rw [if_pos (by omega), if_pos (by omega), if_pos (by omega), if_pos (by omega), if_pos (by omega), rdOf_at l j (by omega), rdOf_at l i hi, wrap_one j (by omega)]
    by_cases he : l[j]'(by omega) = l[i]
    · rw [if_pos (by rw [he])]
      have : unlikeB (nm l) = false := unlikeB_take _ (i + 1) (by rw [hs, unlikeB_snoc, decide_eq_true (hmem.2 ⟨j, by omega, he⟩)]; simp)
      rw [this]
    · rw [if_neg (fun q => he (by rw [ByteArray.toList_eq, ByteArray.toList_eq] at q; exact ba_of_list q))]
      refine ih k (j + 1) (by omega) (by omega) (fun m hm => ?_) (by omega)
      by_cases hmj : m = j
      · subst hmj; exact he
      · exact h3 m (by omega)
theorem unlike_l0 (l : List ByteArray) (hn : l.length ≤ 1000) (hz : ∀ s ∈ l, s.size ≤ 1000) (d : Nat) : ∀ (k i : Nat), l.length - i = d → i ≤ l.length → unlikeB ((nm l).take i) = true → d * 1010 + 2000 < k → proofmarkref27_unlike.l0 k l (i : Int) = some (unlikeB (nm l)) := by
  induction d with
  | zero =>
    intro k i h1 h2 h3 h4
    obtain rfl : i = l.length := by omega
    obtain ⟨k, rfl⟩ : ∃ q, k = q + 1 := ⟨k - 1, by omega⟩
    simp only [proofmarkref27_unlike.l0]
    rw [if_neg (by omega)]
    rw [List.take_of_length_le (by simp [nm])] at h3
    rw [h3]
  | succ d ih =>
    intro k i h1 h2 h3 h4
    obtain ⟨k, rfl⟩ : ∃ q, k = q + 1 := ⟨k - 1, by omega⟩
    have hi : i < l.length := by omega
    have hsz := hz l[i] (List.getElem_mem hi)
    simp only [proofmarkref27_unlike.l0]
    rw [if_pos (by omega), if_pos (by omega), rdOf_at l i hi, plain_f _ (by omega) k (by omega)]
    simp only [Option.bind_some]
    have hs : (nm l).take (i + 1) = (nm l).take i ++ [l[i].data.toList] := names_snoc (fun x : ByteArray => x.data.toList) l i hi
    rw [plain_bad]
    cases hb : badL l[i].data.toList
    · rw [if_pos (show (!false) = true from rfl)]
      exact unlike_l1 l hn i (d * 1010 + 2000) hi hb h3 (fun hu q hq => ih q (i + 1) (by omega) (by omega) hu hq) i k 0 (by omega) (by omega) (fun m hm => absurd hm (by omega)) (by omega)
    · rw [if_neg (by simp)]
      have : unlikeB (nm l) = false := unlikeB_take _ (i + 1) (by rw [hs, unlikeB_snoc, hb]; simp)
      rw [this]
theorem unlike_f (l : List ByteArray) (hn : l.length ≤ 1000) (hz : ∀ s ∈ l, s.size ≤ 1000) (k : Nat) (hk : 1100000 < k) : proofmarkref27_unlike.f k l = some (unlikeB (nm l)) := by
  unfold proofmarkref27_unlike.f
  exact unlike_l0 l hn hz l.length k 0 (by omega) (by omega) rfl (by omega)
theorem named_l1 (n0 : List S125) (n1 : List S72) (n2 : List S114) (n3 : List S105) (n4 : List S72) (p : List ByteArray) (hp : p.length ≤ 1000) (hpz : ∀ s ∈ p, s.size ≤ 1000) (h2 : n2.length ≤ 1000) (hz : ∀ x ∈ n2, x.f0.size ≤ 1000) (d : Nat) : ∀ (k i : Nat), n2.length - i = d → i ≤ n2.length → d + 1100010 < k → proofmarkref27_Named.l1 k p ((n2.take i).map (·.f0)) (i : Int) n0 n1 n2 n3 n4 = some (unlikeB (nm p) && unlikeB (namesC n2)) := by
  induction d with
  | zero =>
    intro k i h1 h3 h4
    obtain rfl : i = n2.length := by omega
    obtain ⟨k, rfl⟩ : ∃ q, k = q + 1 := ⟨k - 1, by omega⟩
    simp only [proofmarkref27_Named.l1]
    have e : nm (n2.map (·.f0)) = namesC n2 := by unfold nm namesC; rw [List.map_map]; rfl
    rw [if_neg (by omega), unlike_f p hp hpz k (by omega), List.take_length, unlike_f _ (by simpa using h2) (fun s hs => by obtain ⟨x, hx, rfl⟩ := List.mem_map.1 hs; exact hz x hx) k (by omega), e]
    simp only [Option.bind_some]
    cases unlikeB (nm p) <;> simp
  | succ d ih =>
    intro k i h1 h3 h4
    obtain ⟨k, rfl⟩ : ∃ q, k = q + 1 := ⟨k - 1, by omega⟩
    have hi : i < n2.length := by omega
    have hr : rd_T114 n2 (i : Int) = n2[i] := by simp [rd_T114, hi]
    have := ih k (i + 1) (by omega) (by omega) (by omega)
    simp only [proofmarkref27_Named.l1, hr]
    rw [if_pos (by omega), if_pos (by omega), if_pos (by simp; omega), wrap_one i (by omega), take_push (·.f0) n2 i hi]
    exact this
theorem named_l0 (n0 : List S125) (n1 : List S72) (n2 : List S114) (n3 : List S105) (n4 : List S72) (h1l : n1.length ≤ 1000) (h1z : ∀ x ∈ n1, x.f0.size ≤ 1000) (h2 : n2.length ≤ 1000) (hz : ∀ x ∈ n2, x.f0.size ≤ 1000) (d : Nat) : ∀ (k i : Nat), n1.length - i = d → i ≤ n1.length → d + 1102000 < k → proofmarkref27_Named.l0 k ((n1.take i).map (·.f0)) [] (i : Int) n0 n1 n2 n3 n4 = some (unlikeB (namesP n1) && unlikeB (namesC n2)) := by
  induction d with
  | zero =>
    intro k i h1 h3 h4
    obtain rfl : i = n1.length := by omega
    obtain ⟨k, rfl⟩ : ∃ q, k = q + 1 := ⟨k - 1, by omega⟩
    simp only [proofmarkref27_Named.l0]
    have e : nm (n1.map (·.f0)) = namesP n1 := by unfold nm namesP; rw [List.map_map]; rfl
    have := named_l1 n0 n1 n2 n3 n4 (n1.map (·.f0)) (by simpa using h1l) (fun s hs => by obtain ⟨x, hx, rfl⟩ := List.mem_map.1 hs; exact h1z x hx) h2 hz n2.length k 0 (by omega) (by omega) (by omega)
    rw [e] at this
    rw [if_neg (by omega), List.take_length]
    exact this
  | succ d ih =>
    intro k i h1 h3 h4
    obtain ⟨k, rfl⟩ : ∃ q, k = q + 1 := ⟨k - 1, by omega⟩
    have hi : i < n1.length := by omega
    have hr : rd_T72 n1 (i : Int) = n1[i] := by simp [rd_T72, hi]
    have := ih k (i + 1) (by omega) (by omega) (by omega)
    simp only [proofmarkref27_Named.l0, hr]
    rw [if_pos (by omega), if_pos (by omega), if_pos (by simp; omega), wrap_one i (by omega), take_push (·.f0) n1 i hi]
    exact this
/-- the fuel that Named is walked with -/
def namedK : Nat := 1200000
theorem named_f (n0 : List S125) (n1 : List S72) (n2 : List S114) (n3 : List S105) (n4 : List S72) (h1l : n1.length ≤ 1000) (h1z : ∀ x ∈ n1, x.f0.size ≤ 1000) (h2 : n2.length ≤ 1000) (hz : ∀ x ∈ n2, x.f0.size ≤ 1000) (k : Nat) (hk : 1200000 ≤ k) : proofmarkref27_Named.f k n0 n1 n2 n3 n4 = some (unlikeB (namesP n1) && unlikeB (namesC n2)) := by
  unfold proofmarkref27_Named.f
  exact named_l0 n0 n1 n2 n3 n4 h1l h1z h2 hz n1.length k 0 (by omega) (by omega) (by omega)
/-- some fuel is enough (not told how much: no numeral for the kernel to unfold) -/
theorem named_ex (n0 : List S125) (n1 : List S72) (n2 : List S114) (n3 : List S105) (n4 : List S72) (h1l : n1.length ≤ 1000) (h1z : ∀ x ∈ n1, x.f0.size ≤ 1000) (h2 : n2.length ≤ 1000) (hz : ∀ x ∈ n2, x.f0.size ≤ 1000) : ∃ k, proofmarkref27_Named.f k n0 n1 n2 n3 n4 = some (unlikeB (namesP n1) && unlikeB (namesC n2)) := by
  obtain ⟨k, hk⟩ : ∃ k : Nat, 1200000 ≤ k := ⟨_, Nat.le_refl _⟩
  exact ⟨k, named_f n0 n1 n2 n3 n4 h1l h1z h2 hz k hk⟩
end Go.Proofs.YtmfekngjhiofaaaGreatDoor.Q
