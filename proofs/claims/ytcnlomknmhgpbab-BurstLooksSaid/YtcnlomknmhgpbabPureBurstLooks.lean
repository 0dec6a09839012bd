/- The law BurstLooks, as its printed function has it: it answers true for every input. -/
import Derived.Test.YtcnlomknmhgpbabLemB
namespace Go.Proofs.Ytcnlomknmhgpbab.Pure
open Go Go.RowKit Go.Proofs.Ytcnlomknmhgpbab.PB Go.Proofs.YtcnlomknmhgpbabW.PrintWords Go.Proofs.YtcnlomknmhgpbabW.PrintLast Go.Proofs.YtcnlomknmhgpbabW.PrintMore
open Go.Proofs.Ytcnlomknmhgpbab.Gf Go.Proofs.Ytcnlomknmhgpbab.Bt
/-- the places of a byte's bits that are 1, from the j-th on; base: the byte's own place -/
def pbf (c base : Nat) : Nat → Nat → List Int
  | 0, _ => []
  | m + 1, j => if c.testBit (7 - j) then ((base + j : Nat) : Int) :: pbf c base m (j + 1) else pbf c base m (j + 1)
def PL : Nat → List Int → List Int
  | _, [] => []
  | i, c :: l => pbf c.toNat (8 * i) 8 0 ++ PL (i + 1) l
theorem pbf_succ (c base m j : Nat) : pbf c base (m + 1) j = if c.testBit (7 - j) then ((base + j : Nat) : Int) :: pbf c base m (j + 1) else pbf c base m (j + 1) := rfl
theorem pbf_le (c base : Nat) : ∀ m j, (pbf c base m j).length ≤ m := by
  intro m
  induction m with
  | zero => intro j; exact Nat.le_refl _
  | succ m ih =>
    intro j
    have := ih (j + 1)
    unfold pbf
    split
    · rw [List.length_cons]; omega
    · omega
theorem PL_le : ∀ l i, (PL i l).length ≤ 8 * l.length := by
  intro l
  induction l with
  | nil => intro i; exact Nat.le_refl _
  | cons c l ih =>
    intro i
    have h1 := pbf_le c.toNat (8 * i) 8 0
    have h2 := ih (i + 1)
    show (pbf _ _ _ _ ++ PL (i + 1) l).length ≤ _
    rw [List.length_append, List.length_cons]; omega
theorem bit8_at {pre : List Int} {n : Nat} {l : List Int} (hn : n < 256) {j : Nat} (hj : j < 8) (hl : (pre ++ (n : Int) :: l).length ≤ 100000) :
    burst_bit.f (pre ++ (n : Int) :: l) ((8 * pre.length + j : Nat) : Int) = some (n.testBit (7 - j)) := by
  have hlen : (pre ++ (n : Int) :: l).length = pre.length + (l.length + 1) := by simp
  unfold burst_bit.f
  rw [w_div8 (by omega), t_mod8, show (8 * pre.length + j) / 8 = pre.length from by omega, show (8 * pre.length + j) % 8 = j from by omega, rd_at]
  have e : wrap64 (7 - (j : Int)) = ((7 - j : Nat) : Int) := by rw [wrap64_id (by omega) (by omega)]; omega
  rw [e, if_pos (by omega), if_pos (by omega), if_pos (by omega), bit8 hn (by omega)]
  cases n.testBit (7 - j) <;> rfl
theorem parts_inner {pre : List Int} {n : Nat} {l : List Int} (hn : n < 256) (hl : (pre ++ (n : Int) :: l).length ≤ 100000) (E : Int) (hE : E = ((8 * (pre ++ (n : Int) :: l).length : Nat) : Int)) (r : List Int) (acc : List Int) (hacc : acc.length ≤ 1000000)
    (h : Ev (fun k => burst_Parts.l0 k (pre ++ (n : Int) :: l) (acc ++ pbf n (8 * pre.length) 8 0) E ((8 * (pre.length + 1) : Nat) : Int)) r) :
    ∀ (m j : Nat) (a : List Int), j + m = 8 → a ++ pbf n (8 * pre.length) m j = acc ++ pbf n (8 * pre.length) 8 0 → a.length ≤ 1000008 → Ev (fun k => burst_Parts.l0 k (pre ++ (n : Int) :: l) a E ((8 * pre.length + j : Nat) : Int)) r := by
  have hlen : (pre ++ (n : Int) :: l).length = pre.length + (l.length + 1) := by simp
  intro m
  induction m with
  | zero =>
    intro j a hj ha _
    obtain rfl : j = 8 := by omega
    have : a = acc ++ pbf n (8 * pre.length) 8 0 := by rw [← ha]; unfold pbf; simp
    rw [this]; exact h
  | succ m ih =>
    intro j a hj ha hal
    refine Ev.step (fun k => burst_Parts.l0.eq_2 ..) (Ev_ite_pos (by subst hE; omega) ?_)
    rw [bit8_at hn (by omega) hl]
    refine Ev_some ?_
    rw [w_succ (by omega), show 8 * pre.length + j + 1 = 8 * pre.length + (j + 1) from by omega]
    rw [pbf_succ n (8 * pre.length) m j] at ha
    by_cases c : n.testBit (7 - j) = true
    · rw [if_pos c] at ha
      refine Ev_ite_pos c (Ev_ite_pos (by omega) ?_)
      have hle := pbf_le n (8 * pre.length) m (j + 1)
      have hle8 := pbf_le n (8 * pre.length) 8 0
      have hal2 : a.length + 1 + (pbf n (8 * pre.length) m (j + 1)).length = acc.length + (pbf n (8 * pre.length) 8 0).length := by
        have := congrArg List.length ha
        rw [List.length_append, List.length_append, List.length_cons] at this
        omega
      exact ih (j + 1) (a ++ [((8 * pre.length + j : Nat) : Int)]) (by omega) (by rw [List.append_assoc, List.singleton_append]; exact ha) (by rw [List.length_append, List.length_singleton]; omega)
    · rw [if_neg c] at ha
      exact Ev_ite_neg c (ih (j + 1) a (by omega) ha hal)
theorem parts_loop : ∀ (l pre acc : List Int), By l → (pre ++ l).length ≤ 100000 → acc.length ≤ 8 * pre.length →
    Ev (fun k => burst_Parts.l0 k (pre ++ l) acc ((8 * (pre ++ l).length : Nat) : Int) ((8 * pre.length : Nat) : Int)) (acc ++ PL pre.length l) := by
  intro l
  induction l with
  | nil =>
    intro pre acc _ _ _
    refine Ev.step (fun k => burst_Parts.l0.eq_2 ..) (Ev_ite_neg (by simp) ?_)
    show Ev _ (acc ++ [])
    rw [List.append_nil]; exact Ev.now _
  | cons c l ih =>
    intro pre acc hb hl hacc
    have hc := hb.head
    obtain ⟨n, rfl⟩ : ∃ n : Nat, c = (n : Int) := ⟨c.toNat, by omega⟩
    have hlen : (pre ++ (n : Int) :: l).length = pre.length + (l.length + 1) := by simp
    have hle8 := pbf_le n (8 * pre.length) 8 0
    have g := ih (pre ++ [(n : Int)]) (acc ++ pbf n (8 * pre.length) 8 0) hb.tail (by simpa using hl) (by rw [List.length_append, List.length_append, List.length_singleton]; omega)
    have e3 : (pre ++ [(n : Int)]).length = pre.length + 1 := by simp
    rw [List.append_assoc, List.singleton_append, e3, List.append_assoc] at g
    exact parts_inner (by omega) hl _ rfl _ acc (by omega) g 8 0 acc rfl rfl (by omega)
theorem parts_ev {l : List Int} (hb : By l) (hl : l.length ≤ 100000) : Ev (fun k => burst_Parts.f k l) (PL 0 l) := by
  have g := parts_loop l [] [] hb hl (by simp)
  unfold burst_Parts.f
  have e : wrap64 (8 * (l.length : Int)) = ((8 * l.length : Nat) : Int) := by rw [wrap64_id (by omega) (by omega)]; omega
  rw [e]; exact g
theorem and128 : ∀ c : Fin 256, ∀ j : Fin 8, (bits .and .u8 ((c.val : Nat) : Int) (shr .u8 128 ((j.val : Nat) : Int)) = 0 ↔ c.val.testBit (7 - j.val) = false) := by decide +kernel
theorem rparts_inner {pre : List Int} {n : Nat} {l : List Int} (hn : n < 256) (hl : (pre ++ (n : Int) :: l).length ≤ 100000) (r : List Int) (acc : List Int) (hacc : acc.length ≤ 1000000)
    (h : Ev (fun k => parapetref03_Parts.l0 k (pre ++ (n : Int) :: l) (acc ++ pbf n (8 * pre.length) 8 0) ((pre.length + 1 : Nat) : Int)) r) :
    ∀ (m j : Nat) (a : List Int), j + m = 8 → a ++ pbf n (8 * pre.length) m j = acc ++ pbf n (8 * pre.length) 8 0 → a.length ≤ 1000008 → Ev (fun k => parapetref03_Parts.l1 k (pre ++ (n : Int) :: l) a (pre.length : Int) (j : Int)) r := by
  have hlen : (pre ++ (n : Int) :: l).length = pre.length + (l.length + 1) := by simp
  intro m
  induction m with
  | zero =>
    intro j a hj ha _
    obtain rfl : j = 8 := by omega
    have : a = acc ++ pbf n (8 * pre.length) 8 0 := by rw [← ha]; unfold pbf; simp
    rw [this]
    refine Ev.step (fun k => parapetref03_Parts.l1.eq_2 ..) (Ev_ite_neg (by omega) ?_)
    rw [w_succ (by omega)]; exact h
  | succ m ih =>
    intro j a hj ha hal
    refine Ev.step (fun k => parapetref03_Parts.l1.eq_2 ..) (Ev_ite_pos (by omega) (Ev_ite_pos (by omega) (Ev_ite_pos (by omega) (Ev_ite_pos (by omega) ?_))))
    rw [rd_at, w_succ (by omega)]
    have hb := and128 ⟨n, hn⟩ ⟨j, by omega⟩
    simp only at hb
    rw [pbf_succ n (8 * pre.length) m j] at ha
    by_cases c : n.testBit (7 - j) = true
    · rw [if_pos c] at ha
      have hle := pbf_le n (8 * pre.length) m (j + 1)
      have hle8 := pbf_le n (8 * pre.length) 8 0
      have hal2 : a.length + 1 + (pbf n (8 * pre.length) m (j + 1)).length = acc.length + (pbf n (8 * pre.length) 8 0).length := by
        have := congrArg List.length ha
        rw [List.length_append, List.length_append, List.length_cons] at this
        omega
      refine Ev_ite_neg (by rw [hb, c]; simp) (Ev_ite_pos (by omega) ?_)
      have e : wrap64 (wrap64 (8 * (pre.length : Int)) + (j : Int)) = ((8 * pre.length + j : Nat) : Int) := by
        rw [wrap64_id (n := 8 * (pre.length : Int)) (by omega) (by omega), wrap64_id (by omega) (by omega)]; omega
      rw [e]
      exact ih (j + 1) (a ++ [((8 * pre.length + j : Nat) : Int)]) (by omega) (by rw [List.append_assoc, List.singleton_append]; exact ha) (by rw [List.length_append, List.length_singleton]; omega)
    · rw [if_neg c] at ha
      exact Ev_ite_pos (hb.2 (by simpa using c)) (ih (j + 1) a (by omega) ha hal)
theorem rparts_loop : ∀ (l pre acc : List Int), By l → (pre ++ l).length ≤ 100000 → acc.length ≤ 8 * pre.length →
    Ev (fun k => parapetref03_Parts.l0 k (pre ++ l) acc ((pre.length : Nat) : Int)) (acc ++ PL pre.length l) := by
  intro l
  induction l with
  | nil =>
    intro pre acc _ _ _
    refine Ev.step (fun k => parapetref03_Parts.l0.eq_2 ..) (Ev_ite_neg (by simp) ?_)
    show Ev _ (acc ++ [])
    rw [List.append_nil]; exact Ev.now _
  | cons c l ih =>
    intro pre acc hb hl hacc
    have hc := hb.head
    obtain ⟨n, rfl⟩ : ∃ n : Nat, c = (n : Int) := ⟨c.toNat, by omega⟩
    have hlen : (pre ++ (n : Int) :: l).length = pre.length + (l.length + 1) := by simp
    have hle8 := pbf_le n (8 * pre.length) 8 0
    have g := ih (pre ++ [(n : Int)]) (acc ++ pbf n (8 * pre.length) 8 0) hb.tail (by simpa using hl) (by rw [List.length_append, List.length_append, List.length_singleton]; omega)
    have e3 : (pre ++ [(n : Int)]).length = pre.length + 1 := by simp
    rw [List.append_assoc, List.singleton_append, e3, List.append_assoc] at g
    refine Ev.step (fun k => parapetref03_Parts.l0.eq_2 ..) (Ev_ite_pos (by omega) ?_)
    exact rparts_inner (by omega) hl _ acc (by omega) g 8 0 acc rfl rfl (by omega)
theorem rparts_ev {l : List Int} (hb : By l) (hl : l.length ≤ 100000) : Ev (fun k => parapetref03_Parts.f k l) (PL 0 l) := rparts_loop l [] [] hb hl (by simp)
theorem equal_loop : ∀ (l pre : List Int), (pre ++ l).length ≤ 1000000 → Ev (fun k => slices_Equal_int_int.l0 k (pre ++ l) (pre ++ l) ((pre ++ l).length : Int) (pre.length : Int)) true := by
  intro l
  induction l with
  | nil => intro pre _; exact Ev.step (fun k => slices_Equal_int_int.l0.eq_2 ..) (Ev_ite_neg (by simp) (Ev.now _))
  | cons c l ih =>
    intro pre hl
    have hlen : (pre ++ c :: l).length = pre.length + (l.length + 1) := by simp
    have g := ih (pre ++ [c]) (by simpa using hl)
    have e3 : ((pre ++ [c]).length : Int) = ((pre.length + 1 : Nat) : Int) := by simp
    rw [List.append_assoc, List.singleton_append, e3] at g
    refine Ev.step (fun k => slices_Equal_int_int.l0.eq_2 ..) (Ev_ite_pos (by omega) (Ev_ite_pos (by omega) (Ev_ite_pos (by omega) (Ev_ite_pos (by omega) (Ev_ite_pos rfl ?_)))))
    rw [w_succ (by omega)]; exact g
theorem equal_ev {l : List Int} (hl : l.length ≤ 1000000) : Ev (fun k => slices_Equal_int_int.f k l l) true := by
  unfold slices_Equal_int_int.f
  exact Ev_ite_pos rfl (equal_loop l [] hl)
/-- what First, Last and Weight answer, by the places -/
theorem pbf_base (c base : Nat) : ∀ m j, pbf c base m j = (pbf c 0 m j).map (fun x => x + (base : Int)) := by
  intro m
  induction m with
  | zero => intro j; rfl
  | succ m ih =>
    intro j
    unfold pbf
    split
    · rw [List.map_cons, ih]; congr 1; omega
    · exact ih _
theorem pb_zero : pbf 0 0 8 0 = [] := by decide +kernel
theorem pb_head : ∀ c : Fin 256, c.val ≠ 0 → (pbf c.val 0 8 0).head? = some ((8 - len c.val : Nat) : Int) := by decide +kernel
theorem pb_last : ∀ c : Fin 256, c.val ≠ 0 → ∃ z : Fin 8, bits_TrailingZeros8.f ((c.val : Nat) : Int) = some ((z.val : Nat) : Int) ∧ (pbf c.val 0 8 0).getLast? = some ((7 - z.val : Nat) : Int) := by decide +kernel
theorem pb_len : ∀ c : Fin 256, (pbf c.val 0 8 0).length = wt 8 c.val := by decide +kernel
theorem lfirst_loop : ∀ (l pre : List Int), By l → (pre ++ l).length ≤ 100000 → 
    Ev (fun k => burst_First.l0 k (pre ++ l) ((pre ++ l).length : Int) (pre.length : Int)) ((PL pre.length l).head?.getD (-1)) := by
  intro l
  induction l with
  | nil =>
    intro pre _ _
    exact Ev.step (fun k => burst_First.l0.eq_2 ..) (Ev_ite_neg (by simp) (Ev.now _))
  | cons c l ih =>
    intro pre hb hl
    have hc := hb.head
    obtain ⟨n, rfl⟩ : ∃ n : Nat, c = (n : Int) := ⟨c.toNat, by omega⟩
    have hlen : (pre ++ (n : Int) :: l).length = pre.length + (l.length + 1) := by simp
    have ePL : PL pre.length ((n : Int) :: l) = pbf n (8 * pre.length) 8 0 ++ PL (pre.length + 1) l := rfl
    refine Ev.step (fun k => burst_First.l0.eq_2 ..) (Ev_ite_pos (by omega) (Ev_ite_pos (by omega) (Ev_ite_pos (by omega) ?_)))
    rw [rd_at, ePL]
    by_cases z : n = 0
    · subst z
      refine Ev_ite_pos rfl ?_
      have g := ih (pre ++ [((0 : Nat) : Int)]) hb.tail (by simpa using hl)
      have e3 : (pre ++ [((0 : Nat) : Int)]).length = pre.length + 1 := by simp
      rw [List.append_assoc, List.singleton_append, e3] at g
      rw [pbf_base, pb_zero, w_succ (by omega)]
      exact g
    · refine Ev_ite_neg (by omega) ?_
      rw [lead8_f (by omega)]
      refine Ev_some ?_
      have h := pb_head ⟨n, by omega⟩ z
      simp only at h
      have hle := len_le (n := 8) (a := n) (by omega)
      rw [pbf_base, List.head?_append, List.head?_map, h]
      have e : wrap64 (wrap64 (8 * ((pre.length : Nat) : Int)) + ((8 - len n : Nat) : Int)) = ((8 - len n : Nat) : Int) + ((8 * pre.length : Nat) : Int) := by
        clear h ih
        rw [wrap64_id (n := 8 * ((pre.length : Nat) : Int)) (by omega) (by omega), wrap64_id (by omega) (by omega)]; omega
      rw [e]; exact Ev.now _
theorem PL_append (a b : List Int) : ∀ i, PL i (a ++ b) = PL i a ++ PL (i + a.length) b := by
  induction a with
  | nil => intro i; rfl
  | cons c a ih =>
    intro i
    show pbf _ _ _ _ ++ PL (i + 1) (a ++ b) = (pbf _ _ _ _ ++ PL (i + 1) a) ++ _
    rw [ih, List.append_assoc, List.length_cons, show i + 1 + a.length = i + (a.length + 1) from by omega]
theorem PL_zeros : ∀ z i, PL i (List.replicate z 0) = [] := by
  intro z
  induction z with
  | zero => intro i; rfl
  | succ z ih =>
    intro i
    rw [List.replicate_succ]
    show pbf 0 (8 * i) 8 0 ++ PL (i + 1) _ = []
    rw [pbf_base, pb_zero, ih]; rfl
theorem llast_loop (N : Nat) (hN : N ≤ 100000) : ∀ (m : Nat) (pre : List Int) (z : Nat), pre.length = m → By pre → m + z = N →
    Ev (fun k => burst_Last.l0 k (pre ++ List.replicate z 0) ((m : Int) - 1)) ((PL 0 pre).getLast?.getD (-1)) := by
  intro m
  induction m with
  | zero =>
    intro pre z hp hb hz
    have : pre = [] := List.length_eq_zero_iff.1 hp
    subst this
    exact Ev.step (fun k => burst_Last.l0.eq_2 ..) (Ev_ite_neg (by omega) (Ev.now _))
  | succ m ih =>
    intro pre z hp hb hz
    obtain ⟨pre', d, rfl⟩ : ∃ p d, pre = p ++ [d] := ⟨pre.dropLast, pre.getLast (by intro h; subst h; simp at hp), (List.dropLast_concat_getLast _).symm⟩
    have hpl : pre'.length = m := by simpa using hp
    have hd : 0 ≤ d ∧ d < 256 := hb d (by simp)
    obtain ⟨n, rfl⟩ : ∃ n : Nat, d = (n : Int) := ⟨d.toNat, by omega⟩
    have hb' : By pre' := fun x hx => hb x (by simp [hx])
    have e1 : ((m + 1 : Nat) : Int) - 1 = (m : Int) := by omega
    have e2 : (pre' ++ [(n : Int)] ++ List.replicate z 0) = pre' ++ (n : Int) :: List.replicate z 0 := by simp
    have hlen : (pre' ++ (n : Int) :: List.replicate z 0).length = N := by simp; omega
    rw [e1, e2]
    have er : rd (pre' ++ (n : Int) :: List.replicate z 0) (m : Int) = (n : Int) := by rw [← hpl]; exact rd_at pre' _ _
    have ePL : PL 0 (pre' ++ [(n : Int)]) = PL 0 pre' ++ (pbf n (8 * m) 8 0 ++ []) := by
      rw [PL_append, Nat.zero_add, hpl]; rfl
    refine Ev.step (fun k => burst_Last.l0.eq_2 ..) (Ev_ite_pos (by omega) (Ev_ite_pos (by omega) (Ev_ite_pos (by omega) ?_)))
    rw [er, ePL, List.append_nil]
    by_cases h : n = 0
    · subst h
      refine Ev_ite_pos rfl ?_
      have e3 : (pre' ++ ((0 : Nat) : Int) :: List.replicate z 0) = pre' ++ List.replicate (z + 1) 0 := by rw [List.replicate_succ]; rfl
      rw [e3, pbf_base, pb_zero, List.map_nil, List.append_nil, w_pred (by omega)]
      exact ih pre' (z + 1) hpl hb' (by omega)
    · refine Ev_ite_neg (by omega) ?_
      obtain ⟨⟨t, ht⟩, h1, h2⟩ := pb_last ⟨n, by omega⟩ h
      simp only at h1 h2
      rw [h1]
      refine Ev_some ?_
      rw [pbf_base, List.getLast?_append, List.getLast?_map, h2]
      have e : wrap64 (wrap64 (wrap64 (8 * (m : Int)) + 7) - (t : Int)) = ((7 - t : Nat) : Int) + ((8 * m : Nat) : Int) := by
        clear h1 h2 ih
        rw [wrap64_id (n := 8 * (m : Int)) (by omega) (by omega), wrap64_id (n := 8 * (m : Int) + 7) (by omega) (by omega), wrap64_id (by omega) (by omega)]; omega
      rw [e]; exact Ev.now _
theorem PL_len : ∀ (l : List Int) (i : Nat), By l → (PL i l).length = wt (8 * l.length) (pol l) := by
  intro l
  induction l with
  | nil => intro i _; rfl
  | cons c l ih =>
    intro i hb
    have hc := hb.head
    obtain ⟨n, rfl⟩ : ∃ n : Nat, c = (n : Int) := ⟨c.toNat, by omega⟩
    have h := pb_len ⟨n, by omega⟩
    simp only at h
    show (pbf n (8 * i) 8 0 ++ PL (i + 1) l).length = _
    have hdiv : (n * 2 ^ (8 * l.length) + pol l) / 2 ^ (8 * l.length) = n := by
      rw [Nat.mul_comm, Nat.mul_add_div (Nat.two_pow_pos _), Nat.div_eq_of_lt (pol_lt hb.tail), Nat.add_zero]
    have hmod : (n * 2 ^ (8 * l.length) + pol l) % 2 ^ (8 * l.length) = pol l := by
      rw [Nat.mul_comm, Nat.mul_add_mod, Nat.mod_eq_of_lt (pol_lt hb.tail)]
    rw [List.length_append, pbf_base, List.length_map, h, ih _ hb.tail, pol_cons, List.length_cons, Int.toNat_natCast, show 8 * (l.length + 1) = 8 * l.length + 8 from by omega, wt_add, hdiv, ← wt_mod (8 * l.length) (n * 2 ^ (8 * l.length) + pol l), hmod, Nat.add_comm]
theorem pbf_range (c base : Nat) : ∀ m j, j + m = 8 → ∀ x ∈ pbf c base m j, (base : Int) ≤ x ∧ x < (base : Int) + 8 := by
  intro m
  induction m with
  | zero => intro j _ x hx; cases hx
  | succ m ih =>
    intro j hj x hx
    unfold pbf at hx
    split at hx
    · rcases List.mem_cons.1 hx with rfl | hx
      · omega
      · exact ih (j + 1) (by omega) x hx
    · exact ih (j + 1) (by omega) x hx
theorem PL_range : ∀ (l : List Int) (i : Nat), ∀ x ∈ PL i l, 8 * (i : Int) ≤ x ∧ x < 8 * ((i + l.length : Nat) : Int) := by
  intro l
  induction l with
  | nil => intro i x hx; cases hx
  | cons c l ih =>
    intro i x hx
    rw [List.length_cons]
    rcases List.mem_append.1 (show x ∈ pbf c.toNat (8 * i) 8 0 ++ PL (i + 1) l from hx) with h | h
    · have := pbf_range c.toNat (8 * i) 8 0 rfl x h; omega
    · have := ih (i + 1) x h; omega
theorem BurstLooks : parapetlaw03_BurstLooks.Pure := by
  intro l _ _ hw
  have hb := by_of_wf hw
  apply Ev.rounds (g := fun k => parapetlaw03_BurstLooks.f k l)
  unfold parapetlaw03_BurstLooks.f
  refine Ev.bind awake_ev (Ev_ite_pos rfl ?_)
  by_cases c : (l.length : Int) > 4000
  · exact Ev_ite_pos c (Ev.now _)
  refine Ev_ite_neg c ?_
  have hple := PL_le l 0
  have hrng := PL_range l 0
  have hp := parts_ev hb (by omega)
  have hr := rparts_ev hb (by omega)
  have hf : Ev (fun k => burst_First.f k l) ((PL 0 l).head?.getD (-1)) := lfirst_loop l [] hb (by simp; omega)
  have hl : Ev (fun k => burst_Last.f k l) ((PL 0 l).getLast?.getD (-1)) := by
    have g := llast_loop l.length (by omega) l.length l 0 rfl hb rfl
    unfold burst_Last.f
    rw [w_pred (by omega)]
    simpa using g
  have hwt := weight_ev hb (by omega)
  rw [← PL_len l 0 hb] at hwt
  have hrf : Ev (fun k => parapetref03_First.f k l) ((PL 0 l).head?.getD (-1)) := by
    unfold parapetref03_First.f
    refine Ev.bind hr ?_
    cases h : PL 0 l with
    | nil => exact Ev_ite_pos rfl (Ev.now _)
    | cons x r => exact Ev_ite_neg (by simp; omega) (Ev_ite_pos (by simp) (Ev.now _))
  have hrl : Ev (fun k => parapetref03_Last.f k l) ((PL 0 l).getLast?.getD (-1)) := by
    unfold parapetref03_Last.f
    refine Ev.bind hr ?_
    cases h : PL 0 l with
    | nil => exact Ev_ite_pos rfl (Ev.now _)
    | cons x r =>
      rw [h] at hple
      simp only [List.length_cons] at hple ⊢
      have e : wrap64 (((r.length + 1 : Nat) : Int) - 1) = (r.length : Int) := by rw [wrap64_id (by omega) (by omega)]; omega
      rw [e]
      refine Ev_ite_neg (by omega) (Ev_ite_pos (by omega) (Ev_ite_pos (by omega) ?_))
      have e2 : rd (x :: r) (r.length : Int) = (x :: r).getLast?.getD (-1) := by
        unfold rd
        rw [Int.toNat_natCast, List.getLast?_eq_getElem?, List.length_cons, Nat.add_sub_cancel, List.getD_eq_getElem?_getD, List.getElem?_eq_getElem (by simp)]; rfl
      rw [e2]; exact Ev.now _
  have hspan : ∃ s, Ev (fun k => burst_Span.f k l) s ∧ Ev (fun k => parapetref03_Span.f k l) s := by
    unfold burst_Span.f parapetref03_Span.f
    cases h : PL 0 l with
    | nil =>
      rw [h] at hf hrf
      exact ⟨0, Ev.bind hf (Ev_ite_neg (by simp) (Ev.now _)), Ev.bind hrf (Ev_ite_pos (by simp) (Ev.now _))⟩
    | cons x r =>
      rw [h] at hf hrf hl hrl hrng
      have hx := hrng x (List.mem_cons_self ..)
      refine ⟨_, Ev.bind hf (Ev_ite_pos (by simp only [List.head?_cons, Option.getD_some]; omega) (Ev.bind hl (Ev.now _))), Ev.bind hrf (Ev_ite_neg (by simp only [List.head?_cons, Option.getD_some]; omega) (Ev.bind hrl (Ev.bind hrf (Ev.now _))))⟩
  obtain ⟨s, hs1, hs2⟩ := hspan
  refine Ev.bind hp (Ev.bind hr (Ev.bind (equal_ev (by omega)) (Ev_ite_pos rfl (Ev.bind hf (Ev.bind hrf (Ev_ite_pos rfl (Ev.bind hl (Ev.bind hrl (Ev_ite_pos rfl (Ev.bind hs1 (Ev.bind hs2 (Ev_ite_pos rfl (Ev.bind hwt ?_)))))))))))))
  simp only [beq_self_eq_true]
  exact Ev.now _

end Go.Proofs.Ytcnlomknmhgpbab.Pure
