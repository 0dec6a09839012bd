/- Lemmas on the printed functions: what each comes to, over plain numbers and lists. -/
import Derived.Test.YtcnlomknmhgpbabPSx1
import Derived.Test.YtcnlomknmhgpbabPSx2
import Derived.Test.YtcnlomknmhgpbabPSx3
import Derived.Test.YtcnlomknmhgpbabBt
namespace Go.Proofs.Ytcnlomknmhgpbab.Pure
open Go Go.RowKit Go.Proofs.Ytcnlomknmhgpbab.PS Go.Proofs.YtcnlomknmhgpbabW.PrintWords Go.Proofs.YtcnlomknmhgpbabW.PrintLast Go.Proofs.YtcnlomknmhgpbabW.PrintMore
open Go.Proofs.Ytcnlomknmhgpbab.Gf Go.Proofs.Ytcnlomknmhgpbab.Bt
def xb (x y : Int) : Int := bits .xor .u8 x y
theorem xb_nat {x y : Int} (hx : 0 ≤ x ∧ x < 256) (hy : 0 ≤ y ∧ y < 256) : xb x y = ((x.toNat ^^^ y.toNat : Nat) : Int) := by
  obtain ⟨a, rfl⟩ := Int.eq_ofNat_of_zero_le hx.1
  obtain ⟨b, rfl⟩ := Int.eq_ofNat_of_zero_le hy.1
  exact u8_xor_nat a b (by omega) (by omega)
theorem xb_byte {x y : Int} (hx : 0 ≤ x ∧ x < 256) (hy : 0 ≤ y ∧ y < 256) : 0 ≤ xb x y ∧ xb x y < 256 := by
  rw [xb_nat hx hy]
  have : x.toNat ^^^ y.toNat < 2 ^ 8 := Nat.xor_lt_two_pow (by omega) (by omega)
  omega
theorem xb_comm {x y : Int} (hx : 0 ≤ x ∧ x < 256) (hy : 0 ≤ y ∧ y < 256) : xb x y = xb y x := by rw [xb_nat hx hy, xb_nat hy hx, Nat.xor_comm]
theorem xb_assoc {x y z : Int} (hx : 0 ≤ x ∧ x < 256) (hy : 0 ≤ y ∧ y < 256) (hz : 0 ≤ z ∧ z < 256) : xb (xb x y) z = xb x (xb y z) := by
  rw [xb_nat (xb_byte hx hy) hz, xb_nat hx (xb_byte hy hz), xb_nat hx hy, xb_nat hy hz, Int.toNat_natCast, Int.toNat_natCast, Nat.xor_assoc]
theorem xb_self {x : Int} (hx : 0 ≤ x ∧ x < 256) : xb x x = 0 := by rw [xb_nat hx hx, Nat.xor_self]; rfl
theorem xb_zero {x : Int} (hx : 0 ≤ x ∧ x < 256) : xb x 0 = x := by rw [xb_nat hx (by omega)]; simp; omega
/-- the bytes' sums -/
def xl (a b : List Int) : List Int := List.zipWith xb a b
theorem xl_length (a b : List Int) (h : a.length = b.length) : (xl a b).length = a.length := by simp [xl, h]
theorem xl_by : ∀ {a b : List Int}, By a → By b → By (xl a b) := by
  intro a
  induction a with
  | nil => intro b _ _ x hx; simp [xl] at hx
  | cons c a ih =>
    intro b ha hb
    cases b with
    | nil => intro x hx; simp [xl] at hx
    | cons d b =>
      intro x hx
      rcases List.mem_cons.1 hx with rfl | hx
      · exact xb_byte ha.head hb.head
      · exact ih ha.tail hb.tail x hx
theorem xl_comm : ∀ {a b : List Int}, By a → By b → xl a b = xl b a := by
  intro a
  induction a with
  | nil => intro b _ _; cases b <;> rfl
  | cons c a ih =>
    intro b ha hb
    cases b with
    | nil => rfl
    | cons d b =>
      show xb c d :: xl a b = xb d c :: xl b a
      rw [xb_comm ha.head hb.head, ih ha.tail hb.tail]
theorem xl_assoc : ∀ {a b c : List Int}, By a → By b → By c → xl (xl a b) c = xl a (xl b c) := by
  intro a
  induction a with
  | nil => intro b c _ _ _; rfl
  | cons x a ih =>
    intro b c ha hb hc
    cases b with
    | nil => rfl
    | cons y b =>
      cases c with
      | nil => rfl
      | cons z c =>
        show xb (xb x y) z :: xl (xl a b) c = xb x (xb y z) :: xl a (xl b c)
        rw [xb_assoc ha.head hb.head hc.head, ih ha.tail hb.tail hc.tail]
theorem xl_self : ∀ {a : List Int}, By a → xl a a = List.replicate a.length 0 := by
  intro a
  induction a with
  | nil => intro _; rfl
  | cons x a ih =>
    intro ha
    show xb x x :: xl a a = _
    rw [xb_self ha.head, ih ha.tail]; rfl
theorem xl_zero : ∀ {a : List Int}, By a → xl a (List.replicate a.length 0) = a := by
  intro a
  induction a with
  | nil => intro _; rfl
  | cons x a ih =>
    intro ha
    show xb x 0 :: xl a (List.replicate a.length 0) = _
    rw [xb_zero ha.head, ih ha.tail]
theorem xl_back {a b : List Int} (ha : By a) (hb : By b) (h : a.length = b.length) : xl (xl a b) b = a := by
  rw [xl_assoc ha hb hb, xl_self hb, ← h, xl_zero ha]
theorem by_take {l : List Int} (h : By l) (n : Nat) : By (l.take n) := fun x hx => h x (List.mem_of_mem_take hx)
theorem by_zeros (n : Nat) : By (List.replicate n 0) := by intro x hx; have := List.eq_of_mem_replicate hx; omega
theorem xl_snoc {a1 b1 : List Int} (h : a1.length = b1.length) (c d : Int) : xl (a1 ++ [c]) (b1 ++ [d]) = xl a1 b1 ++ [xb c d] := by
  unfold xl
  rw [List.zipWith_append h]; rfl
theorem set_mid (L : List Int) (x v : Int) (R : List Int) : (L ++ x :: R).set L.length v = L ++ v :: R := by
  rw [List.set_append_right _ _ (Nat.le_refl _), Nat.sub_self]; rfl

theorem turn_loop : ∀ (a2 b2 a1 b1 : List Int), a1.length = b1.length → a2.length = b2.length → (a1 ++ a2).length ≤ 140737488355328 →
    Ev (fun k => burst_Turn.l0 k (a1 ++ a2) (b1 ++ b2) (xl a1 b1 ++ List.replicate a2.length 0) ((a1 ++ a2).length : Int) (a1.length : Int)) (xl (a1 ++ a2) (b1 ++ b2), 0) := by
  intro a2
  induction a2 with
  | nil =>
    intro b2 a1 b1 h1 h2 _
    have : b2 = [] := List.length_eq_zero_iff.1 (by simpa using h2.symm)
    subst this
    refine Ev.step (fun k => burst_Turn.l0.eq_2 ..) (Ev_ite_neg (by simp) ?_)
    simp only [List.append_nil, List.length_nil, List.replicate_zero]
    exact Ev.now _
  | cons c a2 ih =>
    intro b2 a1 b1 h1 h2 hl
    cases b2 with
    | nil => simp at h2
    | cons d b2 =>
      have h2' : a2.length = b2.length := by simpa using h2
      have g := ih b2 (a1 ++ [c]) (b1 ++ [d]) (by simp [h1]) h2' (by simpa using hl)
      have hlt : ((a1.length : Nat) : Int) < ((a1 ++ c :: a2).length : Int) := by simp; omega
      have hlt2 : ((a1.length : Nat) : Int) < ((b1 ++ d :: b2).length : Int) := by simp; omega
      have hxl := xl_length a1 b1 h1
      refine Ev.step (fun k => burst_Turn.l0.eq_2 ..) (Ev_ite_pos hlt (Ev_ite_pos (by omega) (Ev_ite_pos hlt (Ev_ite_pos hlt2 (Ev_ite_pos (by simp [hxl]; omega) ?_)))))
      have e1 : rd (b1 ++ d :: b2) (a1.length : Int) = d := by rw [h1]; exact rd_at b1 d b2
      have e2 : (xl a1 b1 ++ List.replicate (c :: a2).length 0).set ((a1.length : Nat) : Int).toNat (Go.bits .xor .u8 c d) = xl (a1 ++ [c]) (b1 ++ [d]) ++ List.replicate a2.length 0 := by
        rw [Int.toNat_natCast, ← hxl, List.length_cons, List.replicate_succ, set_mid, xl_snoc h1, List.append_assoc]; rfl
      rw [rd_at, e1, e2, w_succ (by simp at hl; omega)]
      have e3 : ((a1 ++ [c]).length : Int) = ((a1.length + 1 : Nat) : Int) := by simp
      rw [List.append_assoc, List.append_assoc, List.singleton_append, List.singleton_append, e3] at g
      exact g
theorem turn_ev {a b : List Int} (h : a.length = b.length) (hl : a.length ≤ 140737488355328) : Ev (fun k => burst_Turn.f k a b) (xl a b, 0) := by
  unfold burst_Turn.f
  refine Ev_ite_pos (by omega) (Ev_ite_pos (by omega) (Ev_ite_pos (by omega) ?_))
  exact turn_loop a b [] [] rfl h hl

theorem awake_ev : Ev (fun k => parapetlaw03_Awake.f k) true := Ev.of parapetlaw03_Awake.mono (k := 60) (by decide +kernel)

end Go.Proofs.Ytcnlomknmhgpbab.Pure
