/- From the printed walks' words to blocks known whole: what reads as a row, what was made. -/
import Derived.Test.YtcnlomknmhgpbaaApA
import Derived.Test.YtcnlomknmhgpbaaWWords
namespace Go.Proofs.Ytcnlomknmhgpbaa.Br
open Go Go.RowKit Go.Proofs.Ytcnlomknmhgpbaa.Hp Go.Proofs.Ytcnlomknmhgpbaa.Sl Go.Proofs.Ytcnlomknmhgpbaa.Ap Go.Proofs.YtcnlomknmhgpbaaW.PrintWords
set_option linter.unusedVariables false
set_option linter.unusedSimpArgs false
theorem kept_of_below {w w' : World} (h : Below w.heap.size w w') : Hp.Kept [] w w' := ⟨h.os, h.tape, h.output, h.size, fun k hk _ => h.block k hk⟩
/-- What a call made: a row of its own, or none. -/
def Made (w w' : World) (v : Value) (l : List Int) : Prop := Row w' v l ∧ ∀ k, v.ownBlock = some k → w.heap.size ≤ k
theorem made_of_R {w w' : World} {v : Value} {l : List Int} {ok : Nat → Prop} (h : (Kd.int .u8).R 5 w' w.heap.size ok v l) : Made w w' v l := by
  have ho := Kd.own_of_R h
  refine ⟨?_, fun k hk => own_base ho k hk⟩
  obtain ⟨_, ⟨e, hn⟩ | ⟨g, cap, cur, e, hg, hh, h1, h2, h3, h4⟩⟩ := ho
  · exact .inl ⟨e, List.length_eq_zero_iff.1 hn⟩
  · refine .inr ⟨g, cap, cur.toList, e, ?_, h1, h2, by simpa using h3, ?_⟩
    · unfold Has; rw [hh]
    · rw [Nat.mul_one] at h4; rw [h4]; rfl
theorem C_of_bytes {w : World} {A : Option Addr} {c : Nat} {l : List Int} (h : Bytes w (.slice A l.length c) l) : (Kd.int .u8).C w A l.length l ∧ l.length ≤ c := by
  rcases h with ⟨e, rfl⟩ | ⟨x, cap, e, h1, h2, h3⟩
  · obtain ⟨rfl, rfl⟩ : A = none ∧ c = 0 := by simpa using e
    exact ⟨⟨rfl, by simp, fun h => absurd h (by simp)⟩, Nat.le_refl _⟩
  · obtain ⟨rfl, rfl⟩ : A = some x ∧ c = cap := by simpa using e
    refine ⟨⟨rfl, by unfold maxLen at h2; omega, fun hp => ?_⟩, h1⟩
    rcases h3 with rfl | ⟨b, off, rfl, hb, hc⟩
    · simp at hp
    · refine ⟨_, rfl, fun j p hj => ⟨[.int .u8 p], rfl, rfl, fun i u hi => ?_⟩⟩
      have hjl : j < l.length := (List.getElem?_eq_some_iff.1 hj).1
      have hi0 : i = 0 := by
        have := (List.getElem?_eq_some_iff.1 hi).1
        simp at this; omega
      subst hi0
      have hu : Value.int .u8 p = u := by simpa using hi
      subst hu
      show w.cell? ((⟨b, off, none⟩ : Addr).add (j * 1 + 0)) = _
      rw [Nat.mul_one, Nat.add_zero, Go.WideShapes.add_plain, hc j hjl]
      simp [List.getD_eq_getElem?_getD, hj]
theorem Made.bytes {w w' : World} {v : Value} {l : List Int} (h : Made w w' v l) : Bytes w' v l := by
  rcases h.1 with h | ⟨g, h⟩
  · exact .inl h
  · exact h.bytes
theorem Made.kept {w w' w'' : World} {v : Value} {l : List Int} {S : List Nat} (h : Made w w' v l) (k : Hp.Kept S w' w'') (hS : ∀ b, v.ownBlock = some b → b ∉ S) : Made w w'' v l := ⟨h.1.kept k hS, h.2⟩
theorem Made.shape {w w' : World} {v : Value} {l : List Int} (h : Made w w' v l) : ∃ p c, v = .slice p l.length c := by
  rcases h.1.shape with ⟨rfl, rfl⟩ | ⟨g, cap, e, _⟩
  · exact ⟨_, _, rfl⟩
  · exact ⟨_, _, e⟩
end Go.Proofs.Ytcnlomknmhgpbaa.Br
