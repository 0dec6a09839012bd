/- Contracts of bag's calls: the others, and the document's bag. -/
import Derived.Test.YtlafkeijikbenabBagC
import Derived.Test.YtlafkeijikbenabBrG
namespace Go.Proofs.Ytlafkeijikbenab.BagC
open Go Go.RowKit Go.Proofs.Ytlafkeijikbenab.Hp Go.Proofs.Ytlafkeijikbenab.Sl Go.Proofs.Ytlafkeijikbenab.Ap Go.Proofs.Ytlafkeijikbenab.MeterC Go.Proofs.Ytlafkeijikbenab.Br Go.Proofs.Ytlafkeijikbenab.BrG
set_option linter.unusedVariables false
set_option linter.unusedSimpArgs false
theorem put_nil (s : Value) (w : World) : Calls Try.prog 32 #[.pointer none, s] w fun e w' => e = .returned (.tuple #[.int .i64 0, .int .i64 1]) ∧ Kept [] w w' := by
  go_enter Try.func32, Try.ntmps32
  go_wp2
  go_ret2
  exact ⟨rfl, Kept.refl _ _⟩
theorem put_long (b : Nat) (s : Value) (l : List Int) (w : World) (hs : Bytes w s l) (hl : 27 < l.length) :
    Calls Try.prog 32 #[.pointer (some ⟨b, 0, none⟩), s] w fun e w' => e = .returned (.tuple #[.int .i64 0, .int .i64 41]) ∧ Kept [] w w' := by
  obtain ⟨p, c, rfl⟩ : ∃ p c, s = .slice p l.length c := by rcases hs with ⟨rfl, rfl⟩ | ⟨x, cap, rfl, _⟩ <;> exact ⟨_, _, rfl⟩
  have e1 : decide ((l.length : Int) > 27) = true := by simp; omega
  clear hs hl
  go_enter Try.func32, Try.ntmps32
  go_wp2
  go_ret2
  exact ⟨rfl, Kept.refl _ _⟩
theorem put_full (b m : Nat) (la : Option Nat) (fs : List (List Int)) (s : Value) (l : List Int) (w : World) (h : IsBag w b m la fs) (hs : Bytes w s l) (hl : l.length ≤ 27) (hf : 4096 ≤ fs.length) :
    Calls Try.prog 32 #[.pointer (some ⟨b, 0, none⟩), s] w fun e w' => e = .returned (.tuple #[.int .i64 0, .int .i64 150]) ∧ Kept [] w w' := by
  obtain ⟨v, mm, h1, h2, ⟨vs, h3, h4, h5⟩, h6, h7⟩ := h
  obtain ⟨p, c, rfl⟩ : ∃ p c, s = .slice p l.length c := by rcases hs with ⟨rfl, rfl⟩ | ⟨x, cap, rfl, _⟩ <;> exact ⟨_, _, rfl⟩
  obtain ⟨pv, cv, rfl, hle⟩ := h3.shape
  have c0 := h1.cell 0 (v := .slice pv vs.length cv) rfl
  have e1 : decide ((l.length : Int) > 27) = false := by simp; omega
  have e2 : decide ((vs.length : Int) ≥ 4096) = true := by simp; omega
  clear hs h1 h2 h3 h5 hl h4
  go_enter Try.func32, Try.ntmps32
  go_wp2
  go_ret2
  exact ⟨rfl, Kept.refl _ _⟩
theorem len_call (b m : Nat) (la : Option Nat) (fs : List (List Int)) (w : World) (h : IsBag w b m la fs) :
    Calls Try.prog 34 #[.pointer (some ⟨b, 0, none⟩)] w fun e w' => e = .returned (.int .i64 (fs.length : Nat)) ∧ w = w' := by
  obtain ⟨v, mm, h1, h2, ⟨vs, h3, h4, h5⟩, h6, h7⟩ := h
  obtain ⟨pv, cv, rfl, hle⟩ := h3.shape
  rw [← h4]
  have c0 := h1.cell 0 (v := .slice pv vs.length cv) rfl
  clear h1 h2 h3 h5 h4 h6 h7
  go_enter Try.func34, Try.ntmps34
  go_wp2
  go_ret
  exact ⟨rfl, rfl⟩
theorem len_nil (w : World) : Calls Try.prog 34 #[.pointer none] w fun e w' => e = .returned (.int .i64 0) ∧ w = w' := by
  go_enter Try.func34, Try.ntmps34
  go_wp2
  go_ret
  exact ⟨rfl, rfl⟩
theorem made_of_cloned {w w1 : World} {s v : Value} {l : List Int} (hb : Bytes w s l) (h : Cloned w s l v w1) : Made w w1 v l := row_of_cloned hb h
theorem get_in (b m : Nat) (la : Option Nat) (fs : List (List Int)) (i : Nat) (w : World) (h : IsBag w b m la fs) (hi : i < fs.length) :
    Calls Try.prog 33 #[.pointer (some ⟨b, 0, none⟩), .int .i64 (i : Int)] w fun e w' => ∃ y, e = .returned (.tuple #[y, .int .i64 0]) ∧ Kept [] w w' ∧ Made w w' y (fs.getD i []) := by
  obtain ⟨v, mm, h1, h2, ⟨vs, h3, h4, h5⟩, h6, h7⟩ := h
  obtain ⟨g, cv, rfl, hle, hg, hc⟩ := h3.cell i (by omega)
  have hr := (h5 i hi).1
  obtain ⟨py, cy, ey⟩ := Row.sl hr
  rw [ey] at hc hr
  have HR := Lib.hid (Row.bytes hr)
  have c0 := h1.cell 0 (v := .slice (some ⟨g, 0, none⟩) vs.length cv) rfl
  have n1 : decide ((i : Int) < 0) = false := by simp
  have n2 : decide ((i : Int) ≥ (vs.length : Int)) = false := by simp; omega
  have n3 : i < cv := by omega
  have n4 : i < vs.length := by omega
  have hsm := Lib.hid (h7.get i)
  generalize fs.getD i [] = l at *
  clear h1 h2 h3 h5 h4 h6 h7 hr hi ey hle
  go_enter Try.func33, Try.ntmps33
  go_wp2_with fail
  refine (clone_call _ l _ HR.out (by have := hsm.out; omega)).mono ?_
  rintro e w2 ⟨y, rfl, k2, hcl⟩
  have Y := Lib.hid (made_of_cloned HR.out hcl)
  clear hcl
  go_wp2_with fail
  go_ret2
  exact ⟨y, rfl, k2, Y.out⟩
theorem get_out (b m : Nat) (la : Option Nat) (fs : List (List Int)) (i : Int) (w : World) (h : IsBag w b m la fs) (hi : i < 0 ∨ (fs.length : Int) ≤ i) :
    Calls Try.prog 33 #[.pointer (some ⟨b, 0, none⟩), .int .i64 i] w fun e w' => e = .returned (.tuple #[.slice none 0 0, .int .i64 151]) ∧ Kept [] w w' := by
  obtain ⟨v, mm, h1, h2, ⟨vs, h3, h4, h5⟩, h6, h7⟩ := h
  obtain ⟨pv, cv, rfl, hle⟩ := h3.shape
  have c0 := h1.cell 0 (v := .slice pv vs.length cv) rfl
  by_cases hn : i < 0
  · have n1 : decide (i < 0) = true := by simpa using hn
    clear h1 h2 h3 h5 h4 h6 h7 hi hle hn
    go_enter Try.func33, Try.ntmps33
    go_wp2_with fail
    go_ret2
    exact ⟨rfl, Kept.refl _ _⟩
  · have n1 : decide (i < 0) = false := by simpa using hn
    have n2 : decide (i ≥ (vs.length : Int)) = true := by simp; omega
    clear h1 h2 h3 h5 h4 h6 h7 hi hle hn
    go_enter Try.func33, Try.ntmps33
    go_wp2_with fail
    go_ret2
    exact ⟨rfl, Kept.refl _ _⟩
theorem get_nil (i : Int) (w : World) : Calls Try.prog 33 #[.pointer none, .int .i64 i] w fun e w' => e = .returned (.tuple #[.slice none 0 0, .int .i64 1]) ∧ Kept [] w w' := by
  go_enter Try.func33, Try.ntmps33
  go_wp2_with fail
  go_ret2
  exact ⟨rfl, Kept.refl _ _⟩
/-- What Get answers. -/
def getA (fs : List (List Int)) (i : Int) : List Int × Int := if 0 ≤ i ∧ i < (fs.length : Int) then (fs.getD i.toNat [], 0) else ([], 151)
theorem made_nil (w w' : World) : Made w w' (.slice none 0 0) [] := ⟨.inl ⟨rfl, rfl⟩, fun k hk => by cases hk⟩
theorem get_call (b m : Nat) (la : Option Nat) (fs : List (List Int)) (i : Int) (w : World) (h : IsBag w b m la fs) :
    Calls Try.prog 33 #[.pointer (some ⟨b, 0, none⟩), .int .i64 i] w fun e w' => ∃ y, e = .returned (.tuple #[y, .int .i64 (getA fs i).2]) ∧ Kept [] w w' ∧ Made w w' y (getA fs i).1 := by
  by_cases hi : 0 ≤ i ∧ i < (fs.length : Int)
  · have e : getA fs i = (fs.getD i.toNat [], 0) := by simp [getA, hi]
    rw [e]
    obtain ⟨k, rfl⟩ := Int.eq_ofNat_of_zero_le hi.1
    exact get_in b m la fs k w h (by omega)
  · have e : getA fs i = ([], 151) := by simp [getA, hi]
    rw [e]
    refine (get_out b m la fs i w h (by omega)).mono ?_
    rintro e w' ⟨rfl, k⟩
    exact ⟨_, rfl, k, made_nil _ _⟩
/-- What Garbled answers. -/
def garA (fs : List (List Int)) (i at' : Int) (w : Nat) : List Int × Int :=
  if (getA fs i).2 = 0 then (if (mkA ((getA fs i).1.length : Int) at' w).2 = 0 then (Pure.xl (getA fs i).1 (mkA ((getA fs i).1.length : Int) at' w).1, 0) else ([], (mkA ((getA fs i).1.length : Int) at' w).2)) else ([], (getA fs i).2)
theorem getA_short {fs : List (List Int)} (h : Few fs) (i : Int) : (getA fs i).1.length ≤ 27 := by
  unfold getA; split
  · exact h.get _
  · simp
set_option maxRecDepth 100000 in
theorem garbled_call (b m : Nat) (la : Option Nat) (fs : List (List Int)) (i at' : Int) (x : Nat) (hx : x < 2 ^ 32) (w : World) (h : IsBag w b m la fs) :
    Calls Try.prog 35 #[.pointer (some ⟨b, 0, none⟩), .int .i64 i, .int .i64 at', .int .u32 (x : Int)] w fun e w' => ∃ y, e = .returned (.tuple #[y, .int .i64 (garA fs i at' x).2]) ∧ Kept [] w w' ∧ Made w w' y (garA fs i at' x).1 := by
  have hG := get_call b m la fs i w h
  have hfew : Few fs := by obtain ⟨_, _, _, _, _, _, h⟩ := h; exact h
  have hs := getA_short hfew i
  unfold garA
  generalize getA fs i = q at *
  obtain ⟨f, e0⟩ := q
  have G := Lib.hid hG
  have S := Lib.hid hs
  clear hG hs hfew h
  simp only at *
  by_cases he : e0 = 0
  case neg =>
    rw [if_neg he]
    have n1 : (e0 != 0) = true := by simpa using he
    clear he
    go_enter Try.func35, Try.ntmps35
    go_wp2_with fail
    refine G.out.mono ?_
    rintro e w1 ⟨y, rfl, k1, h1⟩
    have K1 := Lib.hid k1
    clear k1 h1
    go_wp2_with fail
    go_ret2
    exact ⟨_, rfl, K1.out, made_nil _ _⟩
  rw [if_pos he]
  subst he
  have hp := mkA_len (n := (f.length : Int)) (at' := at') (w := x)
  have hM := fun W => make_call (f.length : Int) at' x hx (by have := S.out; omega) W
  generalize mkA (f.length : Int) at' x = r at *
  obtain ⟨p, e1⟩ := r
  have M := Lib.hid hM
  have P := Lib.hid hp
  clear hM hp
  simp only at *
  by_cases he : e1 = 0
  case neg =>
    rw [if_neg he]
    have n1 : (e1 != 0) = true := by simpa using he
    clear he
    go_enter Try.func35, Try.ntmps35
    go_wp2_with fail
    refine G.out.mono ?_
    rintro e w1 ⟨y, rfl, k1, h1⟩
    obtain ⟨py, cy, rfl⟩ := h1.shape
    have K1 := Lib.hid k1
    clear k1 h1
    go_wp2_with fail
    refine (M.out _).mono ?_
    rintro e w2 ⟨y2, rfl, k2, h2⟩
    have K2 := Lib.hid (K1.out.trans k2)
    clear k2 h2
    go_wp2_with fail
    go_ret2
    exact ⟨_, rfl, K2.out, made_nil _ _⟩
  rw [if_pos he]
  subst he
  go_enter Try.func35, Try.ntmps35
  go_wp2_with fail
  refine G.out.mono ?_
  rintro e w1 ⟨y, rfl, k1, h1⟩
  obtain ⟨py, cy, rfl⟩ := h1.shape
  have K1 := Lib.hid k1
  have H1 := Lib.hid h1
  clear k1 h1
  go_wp2_with fail
  refine (M.out _).mono ?_
  rintro e w2 ⟨y2, rfl, k2, h2⟩
  have K2 := Lib.hid (K1.out.trans k2)
  have B1 := Lib.hid ((H1.out.kept k2 (by simp)).bytes)
  have B2 := Lib.hid h2.bytes
  clear k2 h2
  go_wp2_with fail
  refine (turn_call _ _ _ _ _ B1.out B2.out (by have := P.out (by trivial); omega) (by have := S.out; omega)).mono ?_
  rintro e w3 ⟨y3, rfl, k3, h3⟩
  have K3 := Lib.hid (K2.out.trans k3)
  have H3 := Lib.hid h3
  have K2s := Lib.hid K2.out.size
  clear k3 h3
  go_wp2_with fail
  go_ret2
  exact ⟨_, rfl, K3.out, H3.out.1, fun k hk => Nat.le_trans K2s.out (H3.out.2 k hk)⟩
theorem garbled_nil (i at' x : Int) (w : World) : Calls Try.prog 35 #[.pointer none, .int .i64 i, .int .i64 at', .int .u32 x] w fun e w' => e = .returned (.tuple #[.slice none 0 0, .int .i64 1]) ∧ Kept [] w w' := by
  go_enter Try.func35, Try.ntmps35
  go_wp2_with fail
  refine (get_nil i w).mono ?_
  rintro e w1 ⟨rfl, k1⟩
  have K1 := Lib.hid k1
  clear k1
  go_wp2_with fail
  go_ret2
  exact ⟨rfl, K1.out⟩
theorem bytes_call (b m : Nat) (la : Option Nat) (fs : List (List Int)) (w : World) (h : IsBag w b m la fs) :
    Calls Try.prog 39 #[.pointer (some ⟨b, 0, none⟩)] w fun e w' => e = .returned (.tuple #[.int .i64 (tot fs : Nat), .int .i64 (top fs : Nat)]) ∧ w = w' := by
  obtain ⟨v, mm, h1, h2, h3, ⟨h4, h5, h6⟩, h7⟩ := h
  have c1 := h1.cell 1 (v := .pointer (some ⟨m, 0, none⟩)) rfl
  have ht := h7.tot
  have hl := h7.len
  have ew : IntKind.i64.wrap mm.total = mm.total := by rw [IntKind.wrap_i64]; omega
  have H2 := Lib.hid h2
  have PK := peak_call m mm w h2
  rw [← h4, ← h6]
  clear h6
  generalize (if mm.any = true then mm.peak else 0) = pk at *
  have PK' := Lib.hid PK
  clear h1 h2 h3 h4 h5 h7 ht hl PK
  go_enter Try.func39, Try.ntmps39
  go_wp2_with fail
  refine PK'.out.mono ?_
  rintro e w1 ⟨rfl, rfl⟩
  go_wp2_with fail
  refine (total_call m mm _ H2.out).mono ?_
  rintro e w1 ⟨rfl, rfl⟩
  go_wp2_with fail
  go_ret2
  exact ⟨rfl, rfl⟩
theorem bytes_nil (w : World) : Calls Try.prog 39 #[.pointer none] w fun e w' => e = .returned (.tuple #[.int .i64 0, .int .i64 0]) ∧ w = w' := by
  go_enter Try.func39, Try.ntmps39
  go_wp2_with fail
  go_ret2
  exact ⟨rfl, rfl⟩
end Go.Proofs.Ytlafkeijikbenab.BagC
