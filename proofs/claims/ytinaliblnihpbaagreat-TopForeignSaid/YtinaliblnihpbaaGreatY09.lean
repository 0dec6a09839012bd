/- The walks and the plain laws of HostU, HostV, HostW, DevA. -/
import Derived.Test.YtinaliblnihpbaaGreatY08
import Derived.Test.YtinaliblnihpbaaGreatY06
import Derived.Test.YtinaliblnihpbaaGreatY03
set_option linter.unusedVariables false
set_option linter.unusedSimpArgs false
open Go.Lib (hid)
namespace Go.Proofs.YtinaliblnihpbaaGreat
namespace HostC
open Go Go.RowKit Gf SlC CrcW SlM Hp Sl Ow DiagC ValveC DogC Kx TM EncW ParW UnW UEnc NumW UDecW
variable {G : Nat → Prop} {w w' w'' : World} {b d v g o lg k : Nat} {s : Value} {x y : H}
def eval' (e : TM.End) (s : Value) : Value := .agg #[.int .i64 e.state, .int .u32 e.ses, .int .u32 e.num, .int .u32 e.sent, .int .i64 e.since, .int .i64 e.latched, .bool e.request, .bool e.on, s]
set_option maxRecDepth 100000 in
set_option maxHeartbeats 6400000 in
theorem see_call (hn : 1 ≤ x.v.n) (hn8 : x.v.n ≤ 8) (h : HAt G w b d v g o lg k s x) :
    Calls Tryz.prog 43 #[.pointer (some ⟨b, 0, none⟩)] w fun e w' => ∃ s', e = .returned (eval' x.see s') ∧ Kept [] w w' ∧ Outs w w' s' x.v.out := by
  have HH := hid h
  have c6 := h.top.cell 6 (v := .pointer (some ⟨v, 0, none⟩)) rfl
  have hlt := h.top.lt
  have HN := hid hn
  have HN8 := hid hn8
  have K0 := hid ((Kept.refl [] w).alloc (.cells #[.int .i64 0, .int .u32 0, .int .u32 0, .int .u32 0, .int .i64 0, .int .i64 0, .bool false, .bool false, .slice none 0 0] 42))
  have E0 := hid (Has.new w 42 [.int .i64 0, .int .u32 0, .int .u32 0, .int .u32 0, .int .i64 0, .int .i64 0, .bool false, .bool false, .slice none 0 0])
  clear h hn hn8
  go_enter Tryz.func43, Tryz.ntmps43
  go_wp2_with fail
  have H0 := hid (HH.out.nil K0.out)
  clear hlt c6
  generalize w.alloc (.cells #[.int .i64 0, .int .u32 0, .int .u32 0, .int .u32 0, .int .i64 0, .int .i64 0, .bool false, .bool false, .slice none 0 0] 42) = w0 at K0 E0 H0 ⊢
  obtain ⟨R, hR⟩ : ∃ R, R = w.heap.size := ⟨_, rfl⟩
  rw [← hR] at E0 ⊢
  have RR := hid (Nat.le_of_eq hR.symm)
  clear hR
  refine (output_call v g o x.v w0 H0.out.val HN.out HN8.out).mono ?_
  rintro e w1 ⟨s1, rfl, k1, h1⟩
  have H1 := hid (H0.out.nil k1)
  have E1 := hid (k1.has E0.out (by simp))
  have K1 := hid (K0.out.trans k1)
  obtain ⟨kk, hkk, ho⟩ := h1
  obtain ⟨cap, cur, rfl, _⟩ := id ho
  have HO := hid ho
  have HK := hid hkk
  clear k1 ho hkk
  have H2 := hid (H1.out.nil ((Kept.refl [] w1).drew))
  have E2 := hid (E1.out.drew)
  have T1 := hid (since_call d _ _ w1.drew H2.out.dog)
  have T2 := hid ((latched_call v g o x.v w1.drew H2.out.val).mono (R' := fun e w' => e = .returned (.int .i64 x.v.latched) ∧ w' = w1.drew) (fun e w' q => ⟨q.1, q.2.symm⟩))
  have T3 := hid ((request_call v g o x.v w1.drew H2.out.val).mono (R' := fun e w' => e = .returned (.bool x.v.request) ∧ w' = w1.drew) (fun e w' q => ⟨q.1, q.2.symm⟩))
  go_wp2_with fail
  have SK := H2.out.top
  have dd := And.intro (SK.cell 5 (v := .pointer (some ⟨d, 0, none⟩)) rfl) (And.intro (SK.cell 6 (v := .pointer (some ⟨v, 0, none⟩)) rfl) (And.intro (SK.cell 8 (v := .int .i64 x.state) rfl) (And.intro (SK.cell 9 (v := .int .u32 x.ses) rfl) (And.intro (SK.cell 10 (v := .int .u32 x.num) rfl) (SK.cell 11 (v := .int .u32 x.sent) rfl)))))
  clear SK
  have KS := hid ((((((((((Kept.refl [R] w1).set ⟨R, 0, none⟩ (.int .i64 x.state) (by simp)).set ⟨R, 1, none⟩ (.int .u32 x.ses) (by simp)).set ⟨R, 2, none⟩ (.int .u32 x.num) (by simp)).set ⟨R, 3, none⟩ (.int .u32 x.sent) (by simp)).set ⟨R, 4, none⟩ (.int .i64 x.since) (by simp)).set ⟨R, 5, none⟩ (.int .i64 x.v.latched) (by simp)).set ⟨R, 6, none⟩ (.bool x.v.request) (by simp)).set ⟨R, 7, none⟩ (.bool x.v.on) (by simp)).set ⟨R, 8, none⟩ (.slice (some ⟨kk, 0, none⟩) x.v.out.length cap) (by simp)).drew
  have ES := hid (((((((((E1.out.set 0 (.int .i64 x.state)).set 1 (.int .u32 x.ses)).set 2 (.int .u32 x.num)).set 3 (.int .u32 x.sent)).set 4 (.int .i64 x.since)).set 5 (.int .i64 x.v.latched)).set 6 (.bool x.v.request)).set 7 (.bool x.v.on)).set 8 (.slice (some ⟨kk, 0, none⟩) x.v.out.length cap))
  have nRb : b ∉ [R] := by simpa using Ow.Has.ne H2.out.top E2.out (by decide)
  have SK := hid (show ∀ w', Kept [R] w1 w' → (w'.cell? ⟨b, 5, none⟩ = some (.pointer (some ⟨d, 0, none⟩)) ∧ w'.cell? ⟨b, 6, none⟩ = some (.pointer (some ⟨v, 0, none⟩)) ∧ w'.cell? ⟨b, 8, none⟩ = some (.int .i64 x.state) ∧ w'.cell? ⟨b, 9, none⟩ = some (.int .u32 x.ses) ∧ w'.cell? ⟨b, 10, none⟩ = some (.int .u32 x.num) ∧ w'.cell? ⟨b, 11, none⟩ = some (.int .u32 x.sent)) from fun w' q => ⟨(q.has H1.out.top nRb).cell 5 rfl, (q.has H1.out.top nRb).cell 6 rfl, (q.has H1.out.top nRb).cell 8 rfl, (q.has H1.out.top nRb).cell 9 rfl, (q.has H1.out.top nRb).cell 10 rfl, (q.has H1.out.top nRb).cell 11 rfl⟩)
  clear nRb
  have t0 := E2.out.cell 0 rfl
  have f0 := E2.out.free 0
  have u0 := E1.out.cell 0 rfl
  have g0 := E1.out.free 0
  have t1 := E2.out.cell 1 rfl
  have f1 := E2.out.free 1
  have u1 := E1.out.cell 1 rfl
  have g1 := E1.out.free 1
  have t2 := E2.out.cell 2 rfl
  have f2 := E2.out.free 2
  have u2 := E1.out.cell 2 rfl
  have g2 := E1.out.free 2
  have t3 := E2.out.cell 3 rfl
  have f3 := E2.out.free 3
  have u3 := E1.out.cell 3 rfl
  have g3 := E1.out.free 3
  have t4 := E2.out.cell 4 rfl
  have f4 := E2.out.free 4
  have u4 := E1.out.cell 4 rfl
  have g4 := E1.out.free 4
  have t5 := E2.out.cell 5 rfl
  have f5 := E2.out.free 5
  have u5 := E1.out.cell 5 rfl
  have g5 := E1.out.free 5
  have t6 := E2.out.cell 6 rfl
  have f6 := E2.out.free 6
  have u6 := E1.out.cell 6 rfl
  have g6 := E1.out.free 6
  have t7 := E2.out.cell 7 rfl
  have f7 := E2.out.free 7
  have u7 := E1.out.cell 7 rfl
  have g7 := E1.out.free 7
  have t8 := E2.out.cell 8 rfl
  have f8 := E2.out.free 8
  have u8 := E1.out.cell 8 rfl
  have g8 := E1.out.free 8
  go_region_held3 (fun w' => w'.cell? ⟨b, 5, none⟩ = some (.pointer (some ⟨d, 0, none⟩)) ∧ w'.cell? ⟨b, 6, none⟩ = some (.pointer (some ⟨v, 0, none⟩)) ∧ w'.cell? ⟨b, 8, none⟩ = some (.int .i64 x.state) ∧ w'.cell? ⟨b, 9, none⟩ = some (.int .u32 x.ses) ∧ w'.cell? ⟨b, 10, none⟩ = some (.int .u32 x.num) ∧ w'.cell? ⟨b, 11, none⟩ = some (.int .u32 x.sent)) (first | with_reducible assumption | with_reducible exact SK.out _ KS.out) (first | (go_at_call 81; with_reducible refine T1.out.mono ?_; rintro e w2 ⟨rfl, rfl⟩) | (go_at_call 82; with_reducible refine T2.out.mono ?_; rintro e w2 ⟨rfl, rfl⟩) | (go_at_call 83; with_reducible refine T3.out.mono ?_; rintro e w2 ⟨rfl, rfl⟩))
  clear dd t0 t1 t2 t3 t4 t5 t6 t7 t8 f0 f1 f2 f3 f4 f5 f6 f7 f8 u0 u1 u2 u3 u4 u5 u6 u7 u8 g0 g1 g2 g3 g4 g5 g6 g7 g8
  have KF := hid (K1.out.fresh KS.out (by intro i hi hl; simp at hi; subst hi; exact absurd hl (Nat.not_lt.2 RR.out)))
  have ES : Hid (Has (((((((((w1.setCell ⟨R, 0, none⟩ (.int .i64 x.state)).setCell ⟨R, 1, none⟩ (.int .u32 x.ses)).setCell ⟨R, 2, none⟩ (.int .u32 x.num)).setCell ⟨R, 3, none⟩ (.int .u32 x.sent)).setCell ⟨R, 4, none⟩ (.int .i64 x.since)).setCell ⟨R, 5, none⟩ (.int .i64 x.v.latched)).setCell ⟨R, 6, none⟩ (.bool x.v.request)).setCell ⟨R, 7, none⟩ (.bool x.v.on)).setCell ⟨R, 8, none⟩ (.slice (some ⟨kk, 0, none⟩) x.v.out.length cap)).drew R 42 [.int .i64 x.state, .int .u32 x.ses, .int .u32 x.num, .int .u32 x.sent, .int .i64 x.since, .int .i64 x.v.latched, .bool x.v.request, .bool x.v.on, .slice (some ⟨kk, 0, none⟩) x.v.out.length cap]) := hid ES.out.drew
  have HO5 := hid (HO.out.kept KS.out (by have := HK.out; have := E0.out.lt; simp; omega))
  obtain ⟨w5, hw5⟩ : ∃ w5, w5 = (((((((((w1.setCell ⟨R, 0, none⟩ (.int .i64 x.state)).setCell ⟨R, 1, none⟩ (.int .u32 x.ses)).setCell ⟨R, 2, none⟩ (.int .u32 x.num)).setCell ⟨R, 3, none⟩ (.int .u32 x.sent)).setCell ⟨R, 4, none⟩ (.int .i64 x.since)).setCell ⟨R, 5, none⟩ (.int .i64 x.v.latched)).setCell ⟨R, 6, none⟩ (.bool x.v.request)).setCell ⟨R, 7, none⟩ (.bool x.v.on)).setCell ⟨R, 8, none⟩ (.slice (some ⟨kk, 0, none⟩) x.v.out.length cap)).drew := ⟨_, rfl⟩
  rw [← hw5] at KF ES HO5 ⊢
  clear hw5 KS
  have u0 := ES.out.cell 0 rfl
  have u1 := ES.out.cell 1 rfl
  have u2 := ES.out.cell 2 rfl
  have u3 := ES.out.cell 3 rfl
  have u4 := ES.out.cell 4 rfl
  have u5 := ES.out.cell 5 rfl
  have u6 := ES.out.cell 6 rfl
  have u7 := ES.out.cell 7 rfl
  have u8 := ES.out.cell 8 rfl
  go_wp2_with fail
  refine bodyPost_ret (v := eval' x.see (.slice (some ⟨kk, 0, none⟩) x.v.out.length cap)) (by simp [results, Tryz.results43, go_sem, eval', H.see, *]) rfl ?_
  exact ⟨_, rfl, KF.out, kk, Nat.le_trans K0.out.size HK.out, HO5.out⟩
end HostC
namespace HostC
open Go Go.RowKit Gf SlC CrcW SlM Hp Sl Ow DiagC ValveC DogC Kx TM EncW ParW UnW UEnc NumW UDecW
variable {G : Nat → Prop} {w w' w'' : World} {b d v g o lg k : Nat} {s : Value} {x y : H}
theorem fkV {R : Nat} {u : U} {dp : Option Addr} {dc : Nat} (HA : Hid (HAt G w b d v g o lg k s x)) (UA : Hid (Has w R 63 [.int .i64 u.kind, .int .u32 u.code, .int .u32 u.ses, .int .u32 u.num, .int .i64 u.flags, .slice dp u.data.length dc])) : ∀ w', Kept [] w w' → (w'.cell? ⟨b, 0, none⟩ = some (.int .u32 x.p.code) ∧ w'.cell? ⟨b, 8, none⟩ = some (.int .i64 x.state) ∧ w'.cell? ⟨b, 9, none⟩ = some (.int .u32 x.ses) ∧ w'.cell? ⟨R, 0, none⟩ = some (.int .i64 u.kind) ∧ w'.cell? ⟨R, 1, none⟩ = some (.int .u32 u.code) ∧ w'.cell? ⟨R, 2, none⟩ = some (.int .u32 u.ses) ∧ w'.cell? ⟨R, 3, none⟩ = some (.int .u32 u.num) ∧ w'.cell? ⟨R, 4, none⟩ = some (.int .i64 u.flags) ∧ w'.cell? ⟨R, 5, none⟩ = some (.slice dp u.data.length dc)) := fun w' q => ⟨(q.has HA.out.top (by simp)).cell 0 rfl, (q.has HA.out.top (by simp)).cell 8 rfl, (q.has HA.out.top (by simp)).cell 9 rfl, (q.has UA.out (by simp)).cell 0 rfl, (q.has UA.out (by simp)).cell 1 rfl, (q.has UA.out (by simp)).cell 2 rfl, (q.has UA.out (by simp)).cell 3 rfl, (q.has UA.out (by simp)).cell 4 rfl, (q.has UA.out (by simp)).cell 5 rfl⟩
set_option maxRecDepth 100000 in
theorem fromDevice_call (n : Int) (w : World) : Calls Tryz.prog 128 #[.int .i64 n] w fun e w' => e = .returned (.bool (decide (17 ≤ n) && decide (n ≤ 22))) ∧ w' = w := by
  go_enter Tryz.func128, Tryz.ntmps128
  go_wp2_with fail
  · go_ret
    simp [*]
  · go_ret
    simp [*]
    omega
set_option maxRecDepth 100000 in
theorem read_bad (hx : HOk x) (hG : Opn G w) (h : HAt G w b d v g o lg k s x) (vb : Value) (L : List Int) (hs : Bytes w vb L) (hb : By L) (l1 : 19 ≤ L.length) (l2 : L.length ≤ 27) (hc : crc L ≠ 0) :
    Calls Tryz.prog 99 #[.pointer (some ⟨b, 0, none⟩), vb] w fun e w' => e = .returned (.int .i64 42) ∧ Kept [] w w' := by
  have DB := hid (decode_bad vb L w hs hb l1 l2 hc)
  clear hx hG h hs hb l1 l2 hc
  go_enter Tryz.func99, Tryz.ntmps99
  go_wp2_with fail
  refine DB.out.mono ?_
  rintro e w1 ⟨rfl, k1⟩
  have K1 := hid k1
  clear k1
  unfold uval
  go_wp2_with fail
  go_ret
  exact ⟨rfl, K1.out.alloc _⟩
theorem _root_.Go.Proofs.YtinaliblnihpbaaGreat.UnW.Law.flags {u : U} (h : Law u) : 0 ≤ u.flags ∧ u.flags ≤ 15 := by
  rcases h with ⟨_, h⟩ | ⟨_, h⟩ | ⟨_, h⟩ | ⟨_, h⟩ | ⟨_, h⟩ | ⟨_, h⟩ | ⟨_, h⟩ | ⟨_, h⟩ | ⟨_, h⟩ | ⟨_, h⟩ | ⟨_, h⟩ <;> exact ⟨h.lo, h.hi⟩
-- LEAVES
set_option maxRecDepth 100000 in
theorem read43 (hx : HOk x) (hG : Opn G w) (h : HAt G w b d v g o lg k s x) (u : U) (hr : URange u) (hl : Law u) (vb : Value) (hs : Bytes w vb (frame u)) (h1 : ¬ (17 ≤ u.kind ∧ u.kind ≤ 22)) :
    Calls Tryz.prog 99 #[.pointer (some ⟨b, 0, none⟩), vb] w fun e w' => e = .returned (.int .i64 ((x, (43 : Int))).2) ∧ KG G w w' ∧ HAt G w' b d v g o lg k s ((x, (43 : Int))).1 := by
  have DB := hid (decode_ok u hr hl vb w hs)
  have HH := hid h
  have HX := hid hx
  have HG := hid hG
  have DA := hid hr.data
  have HFL := hid (hl.flags)
  have SM := hid (h.mono (G' := fun i => G i ∧ i < w.heap.size) (fun i hi hg => ⟨hg, hi⟩))
  have Xh1 := hid h1
  clear hx hG h hs hl hr h1
  go_enter Tryz.func99, Tryz.ntmps99
  go_wp2_with fail
  refine DB.out.mono ?_
  rintro e w1 ⟨vd, rfl, k1, m1⟩
  have K1 := hid k1
  have M1 := hid m1
  obtain ⟨dp, dc, rfl⟩ := m1.shape
  clear k1 m1
  unfold uval
  go_wp2_with fail
  have K2 := hid (K1.out.alloc (.cells #[.int .i64 u.kind, .int .u32 u.code, .int .u32 u.ses, .int .u32 u.num, .int .i64 u.flags, .slice dp u.data.length dc] 63))
  have U2 := hid (Has.new w1 63 [.int .i64 u.kind, .int .u32 u.code, .int .u32 u.ses, .int .u32 u.num, .int .i64 u.flags, .slice dp u.data.length dc])
  have H2 := hid (HH.out.nil K2.out)
  have M2 := hid (M1.out.kept ((Kept.refl [] w1).alloc (.cells #[.int .i64 u.kind, .int .u32 u.code, .int .u32 u.ses, .int .u32 u.num, .int .i64 u.flags, .slice dp u.data.length dc] 63)) (by simp))
  generalize w1.alloc (.cells #[.int .i64 u.kind, .int .u32 u.code, .int .u32 u.ses, .int .u32 u.num, .int .i64 u.flags, .slice dp u.data.length dc] 63) = w2 at K2 U2 H2 M2 ⊢
  have RR := hid K1.out.size
  generalize w1.heap.size = R at U2 RR ⊢
  refine (fromDevice_call u.kind w2).mono ?_
  rintro e w3 ⟨rfl, rfl⟩
  have FK := hid (fkV H2 U2)
  have q3 := Kept.refl [] w3
  have e0 : (decide (17 ≤ u.kind) && decide (u.kind ≤ 22)) = false := by have := Xh1.out; simp; omega
  rw [e0]
  clear e0
  go_wp2_with fail
  have K3 := hid (K2.out.trans q3)
  have H3 := hid (H2.out.nil q3)
  have U3 := hid (q3.has U2.out (by simp))
  have M3 := hid (M2.out.kept q3 (by simp))
  go_ret
  exact ⟨rfl, .nil K3.out, H3.out⟩
set_option maxRecDepth 100000 in
theorem read44 (hx : HOk x) (hG : Opn G w) (h : HAt G w b d v g o lg k s x) (u : U) (hr : URange u) (hl : Law u) (vb : Value) (hs : Bytes w vb (frame u)) (h1 : 17 ≤ u.kind ∧ u.kind ≤ 22) (h2 : ¬ u.code = x.p.code) :
    Calls Tryz.prog 99 #[.pointer (some ⟨b, 0, none⟩), vb] w fun e w' => e = .returned (.int .i64 ((x, (44 : Int))).2) ∧ KG G w w' ∧ HAt G w' b d v g o lg k s ((x, (44 : Int))).1 := by
  have DB := hid (decode_ok u hr hl vb w hs)
  have HH := hid h
  have HX := hid hx
  have HG := hid hG
  have DA := hid hr.data
  have HFL := hid (hl.flags)
  have SM := hid (h.mono (G' := fun i => G i ∧ i < w.heap.size) (fun i hi hg => ⟨hg, hi⟩))
  have Xh1 := hid h1
  have Xh2 := hid h2
  clear hx hG h hs hl hr h1 h2
  go_enter Tryz.func99, Tryz.ntmps99
  go_wp2_with fail
  refine DB.out.mono ?_
  rintro e w1 ⟨vd, rfl, k1, m1⟩
  have K1 := hid k1
  have M1 := hid m1
  obtain ⟨dp, dc, rfl⟩ := m1.shape
  clear k1 m1
  unfold uval
  go_wp2_with fail
  have K2 := hid (K1.out.alloc (.cells #[.int .i64 u.kind, .int .u32 u.code, .int .u32 u.ses, .int .u32 u.num, .int .i64 u.flags, .slice dp u.data.length dc] 63))
  have U2 := hid (Has.new w1 63 [.int .i64 u.kind, .int .u32 u.code, .int .u32 u.ses, .int .u32 u.num, .int .i64 u.flags, .slice dp u.data.length dc])
  have H2 := hid (HH.out.nil K2.out)
  have M2 := hid (M1.out.kept ((Kept.refl [] w1).alloc (.cells #[.int .i64 u.kind, .int .u32 u.code, .int .u32 u.ses, .int .u32 u.num, .int .i64 u.flags, .slice dp u.data.length dc] 63)) (by simp))
  generalize w1.alloc (.cells #[.int .i64 u.kind, .int .u32 u.code, .int .u32 u.ses, .int .u32 u.num, .int .i64 u.flags, .slice dp u.data.length dc] 63) = w2 at K2 U2 H2 M2 ⊢
  have RR := hid K1.out.size
  generalize w1.heap.size = R at U2 RR ⊢
  refine (fromDevice_call u.kind w2).mono ?_
  rintro e w3 ⟨rfl, rfl⟩
  have FK := hid (fkV H2 U2)
  have q3 := Kept.refl [] w3
  have e0 : (decide (17 ≤ u.kind) && decide (u.kind ≤ 22)) = true := by have := Xh1.out; simp; omega
  have e1 : (u.code != x.p.code) = true := by simp [Xh2.out]
  rw [e0]
  clear e0
  go_wp2_with fail
  obtain ⟨f0, f8, f9, y0, y1, y2, y3, y4, y5⟩ := FK.out _ q3
  go_quiet (fail)
  have q4 := q3.drewN nq
  clear f0 f8 f9 y0 y1 y2 y3 y4 y5 q3
  generalize w3.drewN nq = w4 at q4 ⊢
  obtain ⟨f0, f8, f9, y0, y1, y2, y3, y4, y5⟩ := FK.out _ q4
  go_wp2_with fail
  clear f0 f8 f9 y0 y1 y2 y3 y4 y5
  have K3 := hid (K2.out.trans q4)
  have H3 := hid (H2.out.nil q4)
  have U3 := hid (q4.has U2.out (by simp))
  have M3 := hid (M2.out.kept q4 (by simp))
  go_ret
  exact ⟨rfl, .nil K3.out, H3.out⟩
set_option maxRecDepth 100000 in
theorem readI (hx : HOk x) (hG : Opn G w) (h : HAt G w b d v g o lg k s x) (u : U) (hr : URange u) (hl : Law u) (vb : Value) (hs : Bytes w vb (frame u)) (h1 : 17 ≤ u.kind ∧ u.kind ≤ 22) (h2 : u.code = x.p.code) (h3 : x.state = 1) :
    Calls Tryz.prog 99 #[.pointer (some ⟨b, 0, none⟩), vb] w fun e w' => e = .returned (.int .i64 (x.offered (sigB x.p) u).2) ∧ KG G w w' ∧ HAt G w' b d v g o lg k s (x.offered (sigB x.p) u).1 := by
  have DB := hid (decode_ok u hr hl vb w hs)
  have HH := hid h
  have HX := hid hx
  have HG := hid hG
  have DA := hid hr.data
  have HFL := hid (hl.flags)
  have SM := hid (h.mono (G' := fun i => G i ∧ i < w.heap.size) (fun i hi hg => ⟨hg, hi⟩))
  have Xh1 := hid h1
  have Xh2 := hid h2
  have Xh3 := hid h3
  clear hx hG h hs hl hr h1 h2 h3
  go_enter Tryz.func99, Tryz.ntmps99
  go_wp2_with fail
  refine DB.out.mono ?_
  rintro e w1 ⟨vd, rfl, k1, m1⟩
  have K1 := hid k1
  have M1 := hid m1
  obtain ⟨dp, dc, rfl⟩ := m1.shape
  clear k1 m1
  unfold uval
  go_wp2_with fail
  have K2 := hid (K1.out.alloc (.cells #[.int .i64 u.kind, .int .u32 u.code, .int .u32 u.ses, .int .u32 u.num, .int .i64 u.flags, .slice dp u.data.length dc] 63))
  have U2 := hid (Has.new w1 63 [.int .i64 u.kind, .int .u32 u.code, .int .u32 u.ses, .int .u32 u.num, .int .i64 u.flags, .slice dp u.data.length dc])
  have H2 := hid (HH.out.nil K2.out)
  have M2 := hid (M1.out.kept ((Kept.refl [] w1).alloc (.cells #[.int .i64 u.kind, .int .u32 u.code, .int .u32 u.ses, .int .u32 u.num, .int .i64 u.flags, .slice dp u.data.length dc] 63)) (by simp))
  generalize w1.alloc (.cells #[.int .i64 u.kind, .int .u32 u.code, .int .u32 u.ses, .int .u32 u.num, .int .i64 u.flags, .slice dp u.data.length dc] 63) = w2 at K2 U2 H2 M2 ⊢
  have RR := hid K1.out.size
  generalize w1.heap.size = R at U2 RR ⊢
  refine (fromDevice_call u.kind w2).mono ?_
  rintro e w3 ⟨rfl, rfl⟩
  have FK := hid (fkV H2 U2)
  have q3 := Kept.refl [] w3
  have e0 : (decide (17 ≤ u.kind) && decide (u.kind ≤ 22)) = true := by have := Xh1.out; simp; omega
  have e1 : (u.code != x.p.code) = false := by simp [Xh2.out]
  have e2 : (x.state == 1) = true := by simp [Xh3.out]
  rw [e0]
  clear e0
  go_wp2_with fail
  obtain ⟨f0, f8, f9, y0, y1, y2, y3, y4, y5⟩ := FK.out _ q3
  go_quiet (fail)
  have q4 := q3.drewN nq
  clear f0 f8 f9 y0 y1 y2 y3 y4 y5 q3
  generalize w3.drewN nq = w4 at q4 ⊢
  obtain ⟨f0, f8, f9, y0, y1, y2, y3, y4, y5⟩ := FK.out _ q4
  go_wp2_with fail
  clear f0 f8 f9 y0 y1 y2 y3 y4 y5
  have K3 := hid (K2.out.trans q4)
  have H3 := hid (H2.out.nil q4)
  have U3 := hid (q4.has U2.out (by simp))
  have M3 := hid (M2.out.kept q4 (by simp))
  have HGM := hid (HG.out.kg (KG.nil (G := G) K3.out))
  refine (offered_call HX.out HGM.out H3.out u _ M3.out.bytes DA.out).mono ?_
  rintro e w9 ⟨rfl, k9, h9⟩
  have K9 := hid k9
  have H9 := hid h9
  clear k9 h9
  go_wp2_with fail
  go_ret
  exact ⟨rfl, (KG.nil K3.out).trans K9.out, H9.out⟩
set_option maxRecDepth 100000 in
theorem readS (hx : HOk x) (hG : Opn G w) (h : HAt G w b d v g o lg k s x) (u : U) (hr : URange u) (hl : Law u) (vb : Value) (hs : Bytes w vb (frame u)) (h1 : 17 ≤ u.kind ∧ u.kind ≤ 22) (h2 : u.code = x.p.code) (h3 : ¬ x.state = 1) (h4 : ¬ u.ses = x.ses) :
    Calls Tryz.prog 99 #[.pointer (some ⟨b, 0, none⟩), vb] w fun e w' => e = .returned (.int .i64 ((x, (130 : Int))).2) ∧ KG G w w' ∧ HAt G w' b d v g o lg k s ((x, (130 : Int))).1 := by
  have DB := hid (decode_ok u hr hl vb w hs)
  have HH := hid h
  have HX := hid hx
  have HG := hid hG
  have DA := hid hr.data
  have HFL := hid (hl.flags)
  have SM := hid (h.mono (G' := fun i => G i ∧ i < w.heap.size) (fun i hi hg => ⟨hg, hi⟩))
  have Xh1 := hid h1
  have Xh2 := hid h2
  have Xh3 := hid h3
  have Xh4 := hid h4
  clear hx hG h hs hl hr h1 h2 h3 h4
  go_enter Tryz.func99, Tryz.ntmps99
  go_wp2_with fail
  refine DB.out.mono ?_
  rintro e w1 ⟨vd, rfl, k1, m1⟩
  have K1 := hid k1
  have M1 := hid m1
  obtain ⟨dp, dc, rfl⟩ := m1.shape
  clear k1 m1
  unfold uval
  go_wp2_with fail
  have K2 := hid (K1.out.alloc (.cells #[.int .i64 u.kind, .int .u32 u.code, .int .u32 u.ses, .int .u32 u.num, .int .i64 u.flags, .slice dp u.data.length dc] 63))
  have U2 := hid (Has.new w1 63 [.int .i64 u.kind, .int .u32 u.code, .int .u32 u.ses, .int .u32 u.num, .int .i64 u.flags, .slice dp u.data.length dc])
  have H2 := hid (HH.out.nil K2.out)
  have M2 := hid (M1.out.kept ((Kept.refl [] w1).alloc (.cells #[.int .i64 u.kind, .int .u32 u.code, .int .u32 u.ses, .int .u32 u.num, .int .i64 u.flags, .slice dp u.data.length dc] 63)) (by simp))
  generalize w1.alloc (.cells #[.int .i64 u.kind, .int .u32 u.code, .int .u32 u.ses, .int .u32 u.num, .int .i64 u.flags, .slice dp u.data.length dc] 63) = w2 at K2 U2 H2 M2 ⊢
  have RR := hid K1.out.size
  generalize w1.heap.size = R at U2 RR ⊢
  refine (fromDevice_call u.kind w2).mono ?_
  rintro e w3 ⟨rfl, rfl⟩
  have FK := hid (fkV H2 U2)
  have q3 := Kept.refl [] w3
  have e0 : (decide (17 ≤ u.kind) && decide (u.kind ≤ 22)) = true := by have := Xh1.out; simp; omega
  have e1 : (u.code != x.p.code) = false := by simp [Xh2.out]
  have e2 : (x.state == 1) = false := by simp [Xh3.out]
  have e3 : (u.ses != x.ses) = true := by simp [Xh4.out]
  rw [e0]
  clear e0
  go_wp2_with fail
  obtain ⟨f0, f8, f9, y0, y1, y2, y3, y4, y5⟩ := FK.out _ q3
  go_quiet (fail)
  have q4 := q3.drewN nq
  clear f0 f8 f9 y0 y1 y2 y3 y4 y5 q3
  generalize w3.drewN nq = w4 at q4 ⊢
  obtain ⟨f0, f8, f9, y0, y1, y2, y3, y4, y5⟩ := FK.out _ q4
  go_wp2_with fail
  clear f0 f8 f9 y0 y1 y2 y3 y4 y5
  obtain ⟨f0, f8, f9, y0, y1, y2, y3, y4, y5⟩ := FK.out _ q4
  go_quiet (fail)
  have q5 := q4.drewN nq
  clear f0 f8 f9 y0 y1 y2 y3 y4 y5 q4
  generalize w4.drewN nq = w5 at q5 ⊢
  obtain ⟨f0, f8, f9, y0, y1, y2, y3, y4, y5⟩ := FK.out _ q5
  go_wp2_with fail
  clear f0 f8 f9 y0 y1 y2 y3 y4 y5
  have K3 := hid (K2.out.trans q5)
  have H3 := hid (H2.out.nil q5)
  have U3 := hid (q5.has U2.out (by simp))
  have M3 := hid (M2.out.kept q5 (by simp))
  go_ret
  exact ⟨rfl, .nil K3.out, H3.out⟩
set_option maxRecDepth 100000 in
theorem readD (hx : HOk x) (hG : Opn G w) (h : HAt G w b d v g o lg k s x) (u : U) (hr : URange u) (hl : Law u) (vb : Value) (hs : Bytes w vb (frame u)) (h1 : 17 ≤ u.kind ∧ u.kind ≤ 22) (h2 : u.code = x.p.code) (h3 : ¬ x.state = 1) (h4 : u.ses = x.ses) (h5 : x.state = 5) :
    Calls Tryz.prog 99 #[.pointer (some ⟨b, 0, none⟩), vb] w fun e w' => e = .returned (.int .i64 ((x, (130 : Int))).2) ∧ KG G w w' ∧ HAt G w' b d v g o lg k s ((x, (130 : Int))).1 := by
  have DB := hid (decode_ok u hr hl vb w hs)
  have HH := hid h
  have HX := hid hx
  have HG := hid hG
  have DA := hid hr.data
  have HFL := hid (hl.flags)
  have SM := hid (h.mono (G' := fun i => G i ∧ i < w.heap.size) (fun i hi hg => ⟨hg, hi⟩))
  have Xh1 := hid h1
  have Xh2 := hid h2
  have Xh3 := hid h3
  have Xh4 := hid h4
  have Xh5 := hid h5
  clear hx hG h hs hl hr h1 h2 h3 h4 h5
  go_enter Tryz.func99, Tryz.ntmps99
  go_wp2_with fail
  refine DB.out.mono ?_
  rintro e w1 ⟨vd, rfl, k1, m1⟩
  have K1 := hid k1
  have M1 := hid m1
  obtain ⟨dp, dc, rfl⟩ := m1.shape
  clear k1 m1
  unfold uval
  go_wp2_with fail
  have K2 := hid (K1.out.alloc (.cells #[.int .i64 u.kind, .int .u32 u.code, .int .u32 u.ses, .int .u32 u.num, .int .i64 u.flags, .slice dp u.data.length dc] 63))
  have U2 := hid (Has.new w1 63 [.int .i64 u.kind, .int .u32 u.code, .int .u32 u.ses, .int .u32 u.num, .int .i64 u.flags, .slice dp u.data.length dc])
  have H2 := hid (HH.out.nil K2.out)
  have M2 := hid (M1.out.kept ((Kept.refl [] w1).alloc (.cells #[.int .i64 u.kind, .int .u32 u.code, .int .u32 u.ses, .int .u32 u.num, .int .i64 u.flags, .slice dp u.data.length dc] 63)) (by simp))
  generalize w1.alloc (.cells #[.int .i64 u.kind, .int .u32 u.code, .int .u32 u.ses, .int .u32 u.num, .int .i64 u.flags, .slice dp u.data.length dc] 63) = w2 at K2 U2 H2 M2 ⊢
  have RR := hid K1.out.size
  generalize w1.heap.size = R at U2 RR ⊢
  refine (fromDevice_call u.kind w2).mono ?_
  rintro e w3 ⟨rfl, rfl⟩
  have FK := hid (fkV H2 U2)
  have q3 := Kept.refl [] w3
  have e0 : (decide (17 ≤ u.kind) && decide (u.kind ≤ 22)) = true := by have := Xh1.out; simp; omega
  have e1 : (u.code != x.p.code) = false := by simp [Xh2.out]
  have e2 : (x.state == 1) = false := by simp [Xh3.out]
  have e3 : (u.ses != x.ses) = false := by simp [Xh4.out]
  have e4 : (x.state == 5) = true := by simp [Xh5.out]
  rw [e0]
  clear e0
  go_wp2_with fail
  obtain ⟨f0, f8, f9, y0, y1, y2, y3, y4, y5⟩ := FK.out _ q3
  go_quiet (fail)
  have q4 := q3.drewN nq
  clear f0 f8 f9 y0 y1 y2 y3 y4 y5 q3
  generalize w3.drewN nq = w4 at q4 ⊢
  obtain ⟨f0, f8, f9, y0, y1, y2, y3, y4, y5⟩ := FK.out _ q4
  go_wp2_with fail
  clear f0 f8 f9 y0 y1 y2 y3 y4 y5
  obtain ⟨f0, f8, f9, y0, y1, y2, y3, y4, y5⟩ := FK.out _ q4
  go_quiet (fail)
  have q5 := q4.drewN nq
  clear f0 f8 f9 y0 y1 y2 y3 y4 y5 q4
  generalize w4.drewN nq = w5 at q5 ⊢
  obtain ⟨f0, f8, f9, y0, y1, y2, y3, y4, y5⟩ := FK.out _ q5
  go_wp2_with fail
  clear f0 f8 f9 y0 y1 y2 y3 y4 y5
  have K3 := hid (K2.out.trans q5)
  have H3 := hid (H2.out.nil q5)
  have U3 := hid (q5.has U2.out (by simp))
  have M3 := hid (M2.out.kept q5 (by simp))
  go_ret
  exact ⟨rfl, .nil K3.out, H3.out⟩
set_option maxRecDepth 100000 in
theorem readT (hx : HOk x) (hG : Opn G w) (h : HAt G w b d v g o lg k s x) (u : U) (hr : URange u) (hl : Law u) (vb : Value) (hs : Bytes w vb (frame u)) (h1 : 17 ≤ u.kind ∧ u.kind ≤ 22) (h2 : u.code = x.p.code) (h3 : ¬ x.state = 1) (h4 : u.ses = x.ses) (h5 : ¬ x.state = 5) :
    Calls Tryz.prog 99 #[.pointer (some ⟨b, 0, none⟩), vb] w fun e w' => e = .returned (.int .i64 (x.take u).2) ∧ KG G w w' ∧ HAt G w' b d v g o lg k s (x.take u).1 := by
  have DB := hid (decode_ok u hr hl vb w hs)
  have HH := hid h
  have HX := hid hx
  have HG := hid hG
  have DA := hid hr.data
  have HFL := hid (hl.flags)
  have SM := hid (h.mono (G' := fun i => G i ∧ i < w.heap.size) (fun i hi hg => ⟨hg, hi⟩))
  have Xh1 := hid h1
  have Xh2 := hid h2
  have Xh3 := hid h3
  have Xh4 := hid h4
  have Xh5 := hid h5
  clear hx hG h hs hl hr h1 h2 h3 h4 h5
  go_enter Tryz.func99, Tryz.ntmps99
  go_wp2_with fail
  refine DB.out.mono ?_
  rintro e w1 ⟨vd, rfl, k1, m1⟩
  have K1 := hid k1
  have M1 := hid m1
  obtain ⟨dp, dc, rfl⟩ := m1.shape
  clear k1 m1
  unfold uval
  go_wp2_with fail
  have K2 := hid (K1.out.alloc (.cells #[.int .i64 u.kind, .int .u32 u.code, .int .u32 u.ses, .int .u32 u.num, .int .i64 u.flags, .slice dp u.data.length dc] 63))
  have U2 := hid (Has.new w1 63 [.int .i64 u.kind, .int .u32 u.code, .int .u32 u.ses, .int .u32 u.num, .int .i64 u.flags, .slice dp u.data.length dc])
  have H2 := hid (HH.out.nil K2.out)
  have M2 := hid (M1.out.kept ((Kept.refl [] w1).alloc (.cells #[.int .i64 u.kind, .int .u32 u.code, .int .u32 u.ses, .int .u32 u.num, .int .i64 u.flags, .slice dp u.data.length dc] 63)) (by simp))
  generalize w1.alloc (.cells #[.int .i64 u.kind, .int .u32 u.code, .int .u32 u.ses, .int .u32 u.num, .int .i64 u.flags, .slice dp u.data.length dc] 63) = w2 at K2 U2 H2 M2 ⊢
  have RR := hid K1.out.size
  generalize w1.heap.size = R at U2 RR ⊢
  refine (fromDevice_call u.kind w2).mono ?_
  rintro e w3 ⟨rfl, rfl⟩
  have FK := hid (fkV H2 U2)
  have q3 := Kept.refl [] w3
  have e0 : (decide (17 ≤ u.kind) && decide (u.kind ≤ 22)) = true := by have := Xh1.out; simp; omega
  have e1 : (u.code != x.p.code) = false := by simp [Xh2.out]
  have e2 : (x.state == 1) = false := by simp [Xh3.out]
  have e3 : (u.ses != x.ses) = false := by simp [Xh4.out]
  have e4 : (x.state == 5) = false := by simp [Xh5.out]
  rw [e0]
  clear e0
  go_wp2_with fail
  obtain ⟨f0, f8, f9, y0, y1, y2, y3, y4, y5⟩ := FK.out _ q3
  go_quiet (fail)
  have q4 := q3.drewN nq
  clear f0 f8 f9 y0 y1 y2 y3 y4 y5 q3
  generalize w3.drewN nq = w4 at q4 ⊢
  obtain ⟨f0, f8, f9, y0, y1, y2, y3, y4, y5⟩ := FK.out _ q4
  go_wp2_with fail
  clear f0 f8 f9 y0 y1 y2 y3 y4 y5
  obtain ⟨f0, f8, f9, y0, y1, y2, y3, y4, y5⟩ := FK.out _ q4
  go_quiet (fail)
  have q5 := q4.drewN nq
  clear f0 f8 f9 y0 y1 y2 y3 y4 y5 q4
  generalize w4.drewN nq = w5 at q5 ⊢
  obtain ⟨f0, f8, f9, y0, y1, y2, y3, y4, y5⟩ := FK.out _ q5
  go_wp2_with fail
  clear f0 f8 f9 y0 y1 y2 y3 y4 y5
  have K3 := hid (K2.out.trans q5)
  have H3 := hid (H2.out.nil q5)
  have U3 := hid (q5.has U2.out (by simp))
  have M3 := hid (M2.out.kept q5 (by simp))
  have HM := hid ((SM.out.nil K3.out).mono (G' := fun i => (G i ∧ i < w.heap.size) ∨ w5.heap.size ≤ i) (fun i hi hg => .inl hg))
  have OM := hid (show Opn (fun i => (G i ∧ i < w.heap.size) ∨ w5.heap.size ≤ i) w5 from fun i hi => .inr hi)
  have ND := hid (show ∀ b' off n c, (Value.slice dp u.data.length dc) = .slice (some ⟨b', off, none⟩) n c → u.data ≠ [] → ¬ ((G b' ∧ b' < w.heap.size) ∨ w5.heap.size ≤ b') by
    intro b' off n c e hne hh
    have q := M3.out.2
    have lt := fun k => M3.out.1.lt (k := k)
    rw [e] at q lt
    have hb := M3.out.1
    rw [e] at hb
    rcases hb with ⟨e1, _⟩ | ⟨g1, cap1, cur1, e1, _⟩
    · cases e1
    · cases e1
      have a1 := q b' rfl
      have a2 := lt b' rfl
      rcases hh with hh | hh <;> omega)
  refine (take_call HX.out OM.out HM.out u HFL.out _ M3.out.bytes ND.out (by have := HX.out.st; have := Xh3.out; have := Xh5.out; omega)).mono ?_
  rintro e w9 ⟨rfl, k9, h9⟩
  have K9 := hid (k9.shed (G' := G) (fun i hi hg => hg.elim (fun q => q.1) (fun q => absurd hi (Nat.not_lt.2 q))))
  have H9 := hid (h9.mono (G' := G) (fun i hi hg => hg.elim (fun q => q.1) (fun q => HG.out _ (Nat.le_trans K3.out.size q))))
  clear k9 h9
  go_wp2_with fail
  go_ret
  exact ⟨rfl, (KG.nil K3.out).trans K9.out, H9.out⟩
end HostC
namespace HostC
open Go Go.RowKit Gf SlC CrcW SlM Hp Sl Ow DiagC ValveC DogC Kx TM EncW ParW UnW UEnc NumW UDecW
variable {G : Nat → Prop} {w w' w'' : World} {b d v g o lg k : Nat} {s : Value} {x y : H}
theorem read_ok (hx : HOk x) (hG : Opn G w) (h : HAt G w b d v g o lg k s x) (u : U) (hr : URange u) (hl : Law u) (vb : Value) (hs : Bytes w vb (frame u)) :
    Calls Tryz.prog 99 #[.pointer (some ⟨b, 0, none⟩), vb] w fun e w' => e = .returned (.int .i64 (x.receive (sigB x.p) u 0).2) ∧ KG G w w' ∧ HAt G w' b d v g o lg k s (x.receive (sigB x.p) u 0).1 := by
  by_cases h1 : 17 ≤ u.kind ∧ u.kind ≤ 22
  case neg =>
    have e : x.receive (sigB x.p) u 0 = (x, 43) := by unfold H.receive; rw [if_neg (by simp), if_pos h1]
    rw [e]; exact read43 hx hG h u hr hl vb hs h1
  by_cases h2 : u.code = x.p.code
  case neg =>
    have e : x.receive (sigB x.p) u 0 = (x, 44) := by unfold H.receive; rw [if_neg (by simp), if_neg (by simp [h1]), if_pos h2]
    rw [e]; exact read44 hx hG h u hr hl vb hs h1 h2
  by_cases h3 : x.state = 1
  case pos =>
    have e : x.receive (sigB x.p) u 0 = x.offered (sigB x.p) u := by unfold H.receive; rw [if_neg (by simp), if_neg (by simp [h1]), if_neg (by simp [h2]), if_pos h3]
    rw [e]; exact readI hx hG h u hr hl vb hs h1 h2 h3
  by_cases h4 : u.ses = x.ses
  case neg =>
    have e : x.receive (sigB x.p) u 0 = (x, 130) := by unfold H.receive; rw [if_neg (by simp), if_neg (by simp [h1]), if_neg (by simp [h2]), if_neg h3, if_pos (.inl h4)]
    rw [e]; exact readS hx hG h u hr hl vb hs h1 h2 h3 h4
  by_cases h5 : x.state = 5
  case pos =>
    have e : x.receive (sigB x.p) u 0 = (x, 130) := by unfold H.receive; rw [if_neg (by simp), if_neg (by simp [h1]), if_neg (by simp [h2]), if_neg h3, if_pos (.inr h5)]
    rw [e]; exact readD hx hG h u hr hl vb hs h1 h2 h3 h4 h5
  have e : x.receive (sigB x.p) u 0 = x.take u := by unfold H.receive; rw [if_neg (by simp), if_neg (by simp [h1]), if_neg (by simp [h2]), if_neg h3, if_neg (by simp [h4, h5])]
  rw [e]; exact readT hx hG h u hr hl vb hs h1 h2 h3 h4 h5
theorem take_code (x : H) (u : U) : (x.take u).2 = 0 ∨ (x.take u).2 = 130 := by
  unfold H.take
  split
  · exact .inl rfl
  split
  · exact .inl rfl
  split
  · exact .inl rfl
  split
  · exact .inl rfl
  · exact .inr rfl
theorem offered_code (x : H) (sig : List Int) (u : U) : (x.offered sig u).2 = 0 ∨ (x.offered sig u).2 = 130 ∨ (x.offered sig u).2 = 91 := by
  unfold H.offered
  split
  · exact .inr (.inl rfl)
  split
  · exact .inl rfl
  · exact .inr (.inr rfl)
theorem receive_code (x : H) (sig : List Int) (u : U) : (x.receive sig u 0).2 = 0 ∨ ∃ n : Nat, (x.receive sig u 0).2 = n ∧ 1 ≤ n ∧ n < 1000 := by
  unfold H.receive
  rw [if_neg (by simp)]
  split
  · exact .inr ⟨43, rfl, by decide, by decide⟩
  split
  · exact .inr ⟨44, rfl, by decide, by decide⟩
  split
  · rcases offered_code x sig u with h | h | h
    · exact .inl h
    · exact .inr ⟨130, h, by decide, by decide⟩
    · exact .inr ⟨91, h, by decide, by decide⟩
  split
  · exact .inr ⟨130, rfl, by decide, by decide⟩
  · rcases take_code x u with h | h
    · exact .inl h
    · exact .inr ⟨130, h, by decide, by decide⟩
set_option maxRecDepth 100000 in
/-- Receive, whatever its read comes to. -/
theorem receive_from (y : H) (r : Int) (hr : r = 0 ∨ ∃ n : Nat, r = n ∧ 1 ≤ n ∧ n < 1000) (hG : Opn G w) (vb : Value)
    (hC : Calls Tryz.prog 99 #[.pointer (some ⟨b, 0, none⟩), vb] w fun e w' => e = .returned (.int .i64 r) ∧ KG G w w' ∧ HAt G w' b d v g o lg k s y) :
    Calls Tryz.prog 68 #[.pointer (some ⟨b, 0, none⟩), vb] w fun e w' => e = .returned (.int .i64 r) ∧ KG G w w' ∧ HAt G w' b d v g o lg k s y := by
  have HC := hid hC
  have HG := hid hG
  clear hC hG
  rcases hr with rfl | ⟨n, rfl, h1, h2⟩
  · go_enter Tryz.func68, Tryz.ntmps68
    go_wp2_with fail
    refine HC.out.mono ?_
    rintro e w1 ⟨rfl, k1, h1⟩
    have K1 := hid k1
    have H1 := hid h1
    clear k1 h1
    go_wp2_with fail
    go_ret
    exact ⟨rfl, K1.out, H1.out⟩
  · have N1 := hid h1
    have N2 := hid h2
    have e1 : ((n : Int) != 0) = true := by simp; omega
    clear h1 h2
    go_enter Tryz.func68, Tryz.ntmps68
    go_wp2_with fail
    refine HC.out.mono ?_
    rintro e w1 ⟨rfl, k1, h1⟩
    have K1 := hid k1
    have H1 := hid h1
    have HG1 := hid (HG.out.kg k1)
    have c7 := h1.top.cell 7 (v := .pointer (some ⟨lg, 0, none⟩)) rfl
    have c9 := h1.top.cell 9 (v := .int .u32 y.ses) rfl
    have c10 := h1.top.cell 10 (v := .int .u32 y.num) rfl
    clear k1 h1
    go_wp2_with fail
    have c7' : w1.drew.cell? ⟨b, 7, none⟩ = some (.pointer (some ⟨lg, 0, none⟩)) := c7
    have c9' : w1.drew.cell? ⟨b, 9, none⟩ = some (.int .u32 y.ses) := c9
    have c10' : w1.drew.cell? ⟨b, 10, none⟩ = some (.int .u32 y.num) := c10
    (refine wp_region_still_tail 15 (by kernel_rfl) (by kernel_rfl) ?_; simp only [List.take_succ_cons, List.take_zero, List.drop_succ_cons, List.drop_zero]; (repeat still_step); refine wpStill_nil ?_)
    change wpList _ _ _ _ _ w1.drew
    go_wp2_with fail
    have H2 := hid (H1.out.nil ((Kept.refl [] w1).drew))
    refine (noted lg n N1.out N2.out y.ses y.num w1.drew HG1.out H2.out.log).mono ?_
    rintro e w2 ⟨⟨r, rfl⟩, k2, h2⟩
    go_wp2_with fail
    go_ret
    exact ⟨rfl, K1.out.drew.trans (k2.kg HG1.out), H2.out.logs k2 h2⟩
theorem receive_call (hx : HOk x) (hG : Opn G w) (h : HAt G w b d v g o lg k s x) (u : U) (hr : URange u) (hl : Law u) (vb : Value) (hs : Bytes w vb (frame u)) :
    Calls Tryz.prog 68 #[.pointer (some ⟨b, 0, none⟩), vb] w fun e w' => e = .returned (.int .i64 (x.receive (sigB x.p) u 0).2) ∧ KG G w w' ∧ HAt G w' b d v g o lg k s (x.receive (sigB x.p) u 0).1 :=
  receive_from _ _ (receive_code _ _ _) hG vb (read_ok hx hG h u hr hl vb hs)
theorem receive_bad (hx : HOk x) (hG : Opn G w) (h : HAt G w b d v g o lg k s x) (vb : Value) (L : List Int) (hs : Bytes w vb L) (hb : By L) (l1 : 19 ≤ L.length) (l2 : L.length ≤ 27) (hc : crc L ≠ 0) :
    Calls Tryz.prog 68 #[.pointer (some ⟨b, 0, none⟩), vb] w fun e w' => e = .returned (.int .i64 42) ∧ KG G w w' ∧ HAt G w' b d v g o lg k s x :=
  receive_from x 42 (.inr ⟨42, rfl, by decide, by decide⟩) hG vb ((read_bad hx hG h vb L hs hb l1 l2 hc).mono (fun e w' q => ⟨q.1, .nil q.2, h.nil q.2⟩))
def rcells (p : P) (u5 u6 : Value) (lg : Nat) (u8 u9 u10 u11 u12 u13 u14 u15 : Value) : List Value := [.int .u32 p.code, .int .i64 p.out, .int .i64 p.inn, .int .i64 p.watch, .int .u32 p.count, u5, u6, .pointer (some ⟨lg, 0, none⟩), u8, u9, u10, u11, u12, u13, u14, u15]
set_option maxRecDepth 100000 in
set_option maxHeartbeats 1600000 in
/-- Reset makes a host as at the beginning, whatever it was. -/
theorem reset_raw (p : P) (hp : POk p) (u5 u6 u8 u9 u10 u11 u12 u13 u14 u15 : Value) (hG : Opn G w) (ht : Has w b 134 (rcells p u5 u6 lg u8 u9 u10 u11 u12 u13 u14 u15)) (hl : IsLog G w lg) (gb : G b) :
    Calls Tryz.prog 60 #[.pointer (some ⟨b, 0, none⟩)] w fun e w' => e = .returned (.int .i64 0) ∧ KG G w w' ∧ hostOf G w' b (H.new p) := by
  have HP := hid hp
  have HG := hid hG
  have HT := hid ht
  have HL := hid hl
  have c3 := ht.cell 3 (v := .int .i64 p.watch) rfl
  clear ht hl hp hG
  go_enter Tryz.func60, Tryz.ntmps60
  go_wp2_with fail
  refine (DogC.new_call p.watch HP.out.watch.1 HP.out.watch.2 w).mono ?_
  rintro e w1 ⟨rfl, k1, h1⟩
  have GD := hid (HG.out _ (Nat.le_refl _))
  generalize w.heap.size = d' at h1 GD ⊢
  have T1 := hid (k1.has HT.out (by simp))
  have L1 := HL.out.kept k1 (by simp)
  have c5 := T1.out.cell 5 (v := u5) rfl
  have z5 := T1.out.free 5
  have c2 := T1.out.cell 2 (v := .int .i64 p.inn) rfl
  have q1 := (Kept.refl [b] w1).set ⟨b, 5, none⟩ (.pointer (some ⟨d', 0, none⟩)) (by simp)
  have D2 := hid (h1.kept q1 (by simpa using Ow.Has.ne h1.has T1.out (by decide)))
  have L2 := hid (Kx.IsLog.kept2 L1 q1 (fun i hi hl => .inr (by simp at hi; subst hi; exact ⟨_, _, T1.out, by decide⟩)))
  have T2 := hid (T1.out.set 5 (.pointer (some ⟨d', 0, none⟩)))
  have K2 := hid ((KG.nil (G := G) k1).set (i := 5) (v := .pointer (some ⟨d', 0, none⟩)) gb)
  clear k1 h1 L1 q1
  go_wp2_with fail
  have T2 : Hid (Has _ b 134 (rcells p (.pointer (some ⟨d', 0, none⟩)) u6 lg u8 u9 u10 u11 u12 u13 u14 u15)) := T2
  generalize w1.setCell ⟨b, 5, none⟩ (.pointer (some ⟨d', 0, none⟩)) = w2 at D2 L2 T2 K2 ⊢
  clear c5 z5 c2 c3 T1
  refine (ValveC.new_call (GG := G) p.inn HP.out.inn.1 HP.out.inn.2 w2).mono ?_
  rintro e w3 ⟨v', g', o', rfl, k3, h3, l1, l2, l3⟩
  have HG2 := HG.out.kg K2.out
  have GV := hid (And.intro (HG2 _ l1) (And.intro (HG2 _ l2) (HG2 _ l3)))
  have K3 := hid (K2.out.trans (.nil k3))
  have V3 := hid h3
  have T3 := hid (k3.has T2.out (by simp))
  have D3 := hid (D2.out.kept k3 (by simp))
  have L3 := hid (L2.out.kept k3 (by simp))
  clear k3 h3 l1 l2 l3 HG2
  have GK := hid (HG.out.kg K3.out w3.heap.size (Nat.le_refl _))
  have EN := hid (Int.toNat_of_nonneg (show 0 ≤ p.out by have := HP.out.out; omega))
  have MK : ∀ W, (Instr.makeSlice 36 (.int .i64 p.out) (.int .i64 p.out)).run Tryz.prog W = .ok (.slice (some ⟨W.heap.size, 0, none⟩) p.out.toNat p.out.toNat) (W.alloc (.cells (U8 (List.replicate p.out.toNat 0)).toArray 5)) := fun W => by
    have := SlC.run_makeN p.out.toNat (by have := HP.out.out; omega) W
    rw [EN.out] at this; exact this
  have hb := T3.out.lt
  have c6 := T3.out.cell 6 (v := u6) rfl
  have z6 := T3.out.free 6
  have c1 := T3.out.cell 1 (v := .int .i64 p.out) rfl
  have b8 := T3.out.cell 8 (v := u8) rfl
  have z8 := T3.out.free 8
  have b9 := T3.out.cell 9 (v := u9) rfl
  have z9 := T3.out.free 9
  have b10 := T3.out.cell 10 (v := u10) rfl
  have z10 := T3.out.free 10
  have b11 := T3.out.cell 11 (v := u11) rfl
  have z11 := T3.out.free 11
  have b12 := T3.out.cell 12 (v := u12) rfl
  have z12 := T3.out.free 12
  have b13 := T3.out.cell 13 (v := u13) rfl
  have z13 := T3.out.free 13
  have b14 := T3.out.cell 14 (v := u14) rfl
  have z14 := T3.out.free 14
  have b15 := T3.out.cell 15 (v := u15) rfl
  have z15 := T3.out.free 15
  go_wp2_with fail
  go_ret
  have k4 := ((((((((((Kept.refl [b] w3).set ⟨b, 6, none⟩ (.pointer (some ⟨v', 0, none⟩)) (by simp)).set ⟨b, 8, none⟩ (.int .i64 1) (by simp)).set ⟨b, 9, none⟩ (.int .u32 0) (by simp)).set ⟨b, 10, none⟩ (.int .u32 0) (by simp)).set ⟨b, 11, none⟩ (.int .u32 0) (by simp)).set ⟨b, 12, none⟩ (.bool false) (by simp)).set ⟨b, 13, none⟩ (.int .i64 0) (by simp)).set ⟨b, 14, none⟩ (.slice (some ⟨w3.heap.size, 0, none⟩) p.out.toNat p.out.toNat) (by simp)).set ⟨b, 15, none⟩ (.bool false) (by simp)).alloc (.cells (U8 (List.replicate p.out.toNat 0)).toArray 5)
  have t4 : Has ((((((((((w3.setCell ⟨b, 6, none⟩ (.pointer (some ⟨v', 0, none⟩))).setCell ⟨b, 8, none⟩ (.int .i64 1)).setCell ⟨b, 9, none⟩ (.int .u32 0)).setCell ⟨b, 10, none⟩ (.int .u32 0)).setCell ⟨b, 11, none⟩ (.int .u32 0)).setCell ⟨b, 12, none⟩ (.bool false)).setCell ⟨b, 13, none⟩ (.int .i64 0)).setCell ⟨b, 14, none⟩ (.slice (some ⟨w3.heap.size, 0, none⟩) p.out.toNat p.out.toNat)).setCell ⟨b, 15, none⟩ (.bool false)).alloc (.cells (U8 (List.replicate p.out.toNat 0)).toArray 5)) b 134 (hcells d' v' lg (.slice (some ⟨w3.heap.size, 0, none⟩) p.out.toNat p.out.toNat) (H.new p)) := (((((((((T3.out.set 6 (.pointer (some ⟨v', 0, none⟩))).set 8 (.int .i64 1)).set 9 (.int .u32 0)).set 10 (.int .u32 0)).set 11 (.int .u32 0)).set 12 (.bool false)).set 13 (.int .i64 0)).set 14 (.slice (some ⟨w3.heap.size, 0, none⟩) p.out.toNat p.out.toNat)).set 15 (.bool false)).alloc (.cells (U8 (List.replicate p.out.toNat 0)).toArray 5)
  have e9 : (((((((((w3.setCell ⟨b, 6, none⟩ (.pointer (some ⟨v', 0, none⟩))).setCell ⟨b, 8, none⟩ (.int .i64 1)).setCell ⟨b, 9, none⟩ (.int .u32 0)).setCell ⟨b, 10, none⟩ (.int .u32 0)).setCell ⟨b, 11, none⟩ (.int .u32 0)).setCell ⟨b, 12, none⟩ (.bool false)).setCell ⟨b, 13, none⟩ (.int .i64 0)).setCell ⟨b, 14, none⟩ (.slice (some ⟨w3.heap.size, 0, none⟩) p.out.toNat p.out.toNat)).setCell ⟨b, 15, none⟩ (.bool false)).heap.size = w3.heap.size := by simp
  have o4 := Has.new (((((((((w3.setCell ⟨b, 6, none⟩ (.pointer (some ⟨v', 0, none⟩))).setCell ⟨b, 8, none⟩ (.int .i64 1)).setCell ⟨b, 9, none⟩ (.int .u32 0)).setCell ⟨b, 10, none⟩ (.int .u32 0)).setCell ⟨b, 11, none⟩ (.int .u32 0)).setCell ⟨b, 12, none⟩ (.bool false)).setCell ⟨b, 13, none⟩ (.int .i64 0)).setCell ⟨b, 14, none⟩ (.slice (some ⟨w3.heap.size, 0, none⟩) p.out.toNat p.out.toNat)).setCell ⟨b, 15, none⟩ (.bool false)) 5 (U8 (List.replicate p.out.toNat 0))
  rw [e9] at o4
  refine ⟨rfl, K3.out.trans (.one k4 gb), d', v', g', o', lg, w3.heap.size, _, t4, D3.out.kept k4 (by simpa using Ow.Has.ne D3.out.has T3.out (by decide)), V3.out.kept2 k4 (fun i hi hl => by simp at hi; subst hi; exact ⟨_, _, T3.out, by decide, by decide, by decide, by decide⟩), Kx.IsLog.kept2 L3.out k4 (fun i hi hl => .inr (by simp at hi; subst hi; exact ⟨_, _, T3.out, by decide⟩)), ⟨p.out.toNat, _, ?_, o4, ?_, ?_, ?_, ?_⟩, gb, GD.out, GV.out.1, GV.out.2.1, GV.out.2.2, GK.out⟩
  · simp [H.new]
  · simp [H.new]
  · have := HP.out.out; unfold maxLen; omega
  · simp [U8]
  · simp [H.new, U8]
theorem reset_call (hx : HOk x) (hG : Opn G w) (h : HAt G w b d v g o lg k s x) :
    Calls Tryz.prog 60 #[.pointer (some ⟨b, 0, none⟩)] w fun e w' => e = .returned (.int .i64 0) ∧ KG G w w' ∧ hostOf G w' b (H.new x.p) :=
  reset_raw x.p hx.p _ _ _ _ _ _ _ _ _ _ hG h.top h.log h.gb
set_option maxRecDepth 100000 in
theorem new_call (p : P) (hp : POk p) (G : Nat → Prop) (w : World) (hG : Opn G w) :
    Calls Tryz.prog 30 #[pval p] w fun e w' => ∃ b, e = .returned (.tuple #[.pointer (some ⟨b, 0, none⟩), .int .i64 0]) ∧ KG G w w' ∧ hostOf G w' b (H.new p) ∧ w.heap.size ≤ b := by
  have HP := hid hp
  have HG := hid hG
  have CK := hid (fun w => check_call p HP.out w)
  clear hp hG
  unfold pval at CK ⊢
  go_enter Tryz.func30, Tryz.ntmps30
  go_wp2_with fail
  have K0 := hid ((Kept.refl [] w).alloc (.cells #[.int .u32 p.code, .int .i64 p.out, .int .i64 p.inn, .int .i64 p.watch, .int .u32 p.count] 50))
  have P0 := hid (Has.new w 50 [.int .u32 p.code, .int .i64 p.out, .int .i64 p.inn, .int .i64 p.watch, .int .u32 p.count])
  generalize w.alloc (.cells #[.int .u32 p.code, .int .i64 p.out, .int .i64 p.inn, .int .i64 p.watch, .int .u32 p.count] 50) = w0 at K0 P0 ⊢
  obtain ⟨R, hR⟩ : ∃ R, R = w.heap.size := ⟨_, rfl⟩
  rw [← hR] at P0 ⊢
  clear hR
  refine (CK.out w0).mono ?_
  rintro e w1 ⟨rfl, k1⟩
  have K1 := hid (K0.out.trans k1)
  have P1 := hid (k1.has P0.out (by simp))
  have p0 := P1.out.cell 0 rfl
  have p1 := P1.out.cell 1 rfl
  have p2 := P1.out.cell 2 rfl
  have p3 := P1.out.cell 3 rfl
  have p4 := P1.out.cell 4 rfl
  clear k1
  go_wp2_with fail
  have SK := hid (show ∀ w', Kept [] w1 w' → (w'.cell? ⟨R, 0, none⟩ = some (.int .u32 p.code) ∧ w'.cell? ⟨R, 1, none⟩ = some (.int .i64 p.out) ∧ w'.cell? ⟨R, 2, none⟩ = some (.int .i64 p.inn) ∧ w'.cell? ⟨R, 3, none⟩ = some (.int .i64 p.watch) ∧ w'.cell? ⟨R, 4, none⟩ = some (.int .u32 p.count)) from fun w' q => ⟨(q.has P1.out (by simp)).cell 0 rfl, (q.has P1.out (by simp)).cell 1 rfl, (q.has P1.out (by simp)).cell 2 rfl, (q.has P1.out (by simp)).cell 3 rfl, (q.has P1.out (by simp)).cell 4 rfl⟩)
  have dd := SK.out _ ((Kept.refl [] w1).drew)
  have HG1 := hid (HG.out.kg (KG.nil (G := G) (K1.out.drew)))
  have DN := hid (DiagC.new_call G w1.drew HG1.out)
  clear p0 p1 p2 p3 p4
  go_region_held3 (fun w' => w'.cell? ⟨R, 0, none⟩ = some (.int .u32 p.code) ∧ w'.cell? ⟨R, 1, none⟩ = some (.int .i64 p.out) ∧ w'.cell? ⟨R, 2, none⟩ = some (.int .i64 p.inn) ∧ w'.cell? ⟨R, 3, none⟩ = some (.int .i64 p.watch) ∧ w'.cell? ⟨R, 4, none⟩ = some (.int .u32 p.count)) (first | with_reducible assumption | with_reducible exact SK.out _ (KW.out.alloc _)) ((go_at_call 59; with_reducible refine DN.out.mono ?_; rintro e w2 ⟨lg, rfl, k2, h2, l2⟩; have KW := hid (((Kept.refl [] w1).drew).trans k2); have dd2 := SK.out _ (((Kept.refl [] w1).drew).trans k2); have K2 := hid (K1.out.drew.trans k2); have L2 := hid h2; clear k2 h2 l2))
  clear dd dd2
  have K3 := hid (K2.out.alloc (.cells #[.int .u32 p.code, .int .i64 p.out, .int .i64 p.inn, .int .i64 p.watch, .int .u32 p.count, .pointer none, .pointer none, .pointer (some ⟨lg, 0, none⟩), .int .i64 0, .int .u32 0, .int .u32 0, .int .u32 0, .bool false, .int .i64 0, .slice none 0 0, .bool false] 134))
  have T3 := hid (show Has _ _ 134 (rcells p (.pointer none) (.pointer none) lg (.int .i64 0) (.int .u32 0) (.int .u32 0) (.int .u32 0) (.bool false) (.int .i64 0) (.slice none 0 0) (.bool false)) from Has.new w2 134 [.int .u32 p.code, .int .i64 p.out, .int .i64 p.inn, .int .i64 p.watch, .int .u32 p.count, .pointer none, .pointer none, .pointer (some ⟨lg, 0, none⟩), .int .i64 0, .int .u32 0, .int .u32 0, .int .u32 0, .bool false, .int .i64 0, .slice none 0 0, .bool false])
  have L3 := hid (L2.out.kept ((Kept.refl [] w2).alloc (.cells #[.int .u32 p.code, .int .i64 p.out, .int .i64 p.inn, .int .i64 p.watch, .int .u32 p.count, .pointer none, .pointer none, .pointer (some ⟨lg, 0, none⟩), .int .i64 0, .int .u32 0, .int .u32 0, .int .u32 0, .bool false, .int .i64 0, .slice none 0 0, .bool false] 134)) (by simp))
  generalize w2.alloc (.cells #[.int .u32 p.code, .int .i64 p.out, .int .i64 p.inn, .int .i64 p.watch, .int .u32 p.count, .pointer none, .pointer none, .pointer (some ⟨lg, 0, none⟩), .int .i64 0, .int .u32 0, .int .u32 0, .int .u32 0, .bool false, .int .i64 0, .slice none 0 0, .bool false] 134) = w3 at K3 T3 L3 ⊢
  have BB := hid K2.out.size
  generalize w2.heap.size = b at T3 BB ⊢
  have HG3 := hid (HG.out.kg (KG.nil (G := G) K3.out))
  go_wp2_with fail
  refine (reset_raw p HP.out _ _ _ _ _ _ _ _ _ _ HG3.out T3.out L3.out (HG.out _ BB.out)).mono ?_
  rintro e w4 ⟨rfl, k4, h4⟩
  have K4 := hid k4
  have H4 := hid h4
  clear k4 h4
  go_wp2_with fail
  go_ret2
  exact ⟨b, rfl, (KG.nil K3.out).trans K4.out, H4.out, BB.out⟩
end HostC
namespace DevC
open Go Go.RowKit Hp Sl Ow DiagC ValveC DogC Kx TM MemC CellC HostC
def dcells (m c d v lg : Nat) (s : Value) (x : D) : List Value := [.int .u32 x.p.code, .int .i64 x.p.out, .int .i64 x.p.inn, .int .i64 x.p.watch, .int .u32 x.p.count, .pointer (some ⟨m, 0, none⟩), .int .u32 x.c.max, .pointer (some ⟨c, 0, none⟩), .pointer (some ⟨d, 0, none⟩), .pointer (some ⟨v, 0, none⟩), .pointer (some ⟨lg, 0, none⟩), .int .i64 x.state, .int .u32 x.ses, .int .u32 x.num, .int .u32 x.sent, .int .i64 x.odd, s, .bool x.hold]
structure DAt (G : Nat → Prop) (w : World) (b d v g o lg k c m mb : Nat) (s : Value) (x : D) : Prop where
  top : Has w b 142 (dcells m c d v lg s x)
  dog : IsDog w d x.p.watch x.since
  val : IsV G w v g o x.v
  log : IsLog G w lg
  own : Own w k s x.value
  cel : IsCell w c m x.c
  mem : IsMem w m mb x.m
  gb : G b
  gd : G d
  gv : G v
  gg : G g
  go : G o
  gk : G k
  gc : G c
  nm : ¬ G m
  nmb : ¬ G mb
variable {G : Nat → Prop} {w w' w'' : World} {b d v g o lg k c m mb : Nat} {s : Value} {x y : D}
theorem DAt.nil (h : DAt G w b d v g o lg k c m mb s x) (q : Kept [] w w') : DAt G w' b d v g o lg k c m mb s x :=
  ⟨q.has h.top (by simp), h.dog.kept q (by simp), h.val.kept q (by simp), h.log.kept q (by simp), h.own.kept q (by simp), q.has h.cel (by simp), h.mem.kept q (by simp) (by simp), h.gb, h.gd, h.gv, h.gg, h.go, h.gk, h.gc, h.nm, h.nmb⟩
theorem memH (h : IsMem w m mb x.m) : (∃ cs, Has w m 126 cs) ∧ ∃ cs, Has w mb 5 cs := by obtain ⟨wr, a, b, _⟩ := h; exact ⟨⟨_, a⟩, ⟨_, b⟩⟩
theorem DAt.dogs {n : Int} (h : DAt G w b d v g o lg k c m mb s x) (q : Kept [d] w w') (hd : IsDog w' d x.p.watch n) : DAt G w' b d v g o lg k c m mb s { x with since := n } := by
  have e1 : b ≠ d := Ow.Has.ne h.top h.dog.has (by decide)
  obtain ⟨⟨c1, m1⟩, ⟨c2, m2⟩⟩ := memH h.mem
  refine ⟨q.has h.top (by simpa using e1), hd, h.val.kept2 q (fun i hi hl => ?_), Kx.IsLog.kept2 h.log q (fun i hi hl => .inr ?_), h.own.kept q ?_, q.has h.cel (by simpa using Ow.Has.ne h.cel h.dog.has (by decide)), h.mem.kept q (by simpa using Ow.Has.ne m1 h.dog.has (by decide)) (by simpa using Ow.Has.ne m2 h.dog.has (by decide)), h.gb, h.gd, h.gv, h.gg, h.go, h.gk, h.gc, h.nm, h.nmb⟩
  · simp at hi; subst hi; exact ⟨_, _, h.dog.has, by decide, by decide, by decide, by decide⟩
  · simp at hi; subst hi; exact ⟨_, _, h.dog.has, by decide⟩
  · simpa using ValveC.Own.ne h.own h.dog.has (by decide)
theorem DAt.valo {z : V} {o' : Nat} (h : DAt G w b d v g o lg k c m mb s x) (q : Kept [v, g, o] w w') (hz : IsV G w' v g o' z) (ho : G o') : DAt G w' b d v g o' lg k c m mb s { x with v := z } := by
  obtain ⟨⟨c1, h1⟩, ⟨c2, h2⟩, ⟨c3, h3⟩⟩ := hasV h.val
  obtain ⟨⟨c4, m1⟩, ⟨c5, m2⟩⟩ := memH h.mem
  refine ⟨q.has h.top ?_, h.dog.kept q ?_, hz, Kx.IsLog.kept2 h.log q (fun i hi hl => .inr ?_), h.own.kept q ?_, q.has h.cel ?_, h.mem.kept q ?_ ?_, h.gb, h.gd, h.gv, h.gg, ho, h.gk, h.gc, h.nm, h.nmb⟩
  · have a1 := Ow.Has.ne h.top h1 (by decide); have a2 := Ow.Has.ne h.top h2 (by decide); have a3 := Ow.Has.ne h.top h3 (by decide)
    simp; exact ⟨a1, a2, a3⟩
  · have a1 := Ow.Has.ne h.dog.has h1 (by decide); have a2 := Ow.Has.ne h.dog.has h2 (by decide); have a3 := Ow.Has.ne h.dog.has h3 (by decide)
    simp; exact ⟨a1, a2, a3⟩
  · simp at hi
    rcases hi with rfl | rfl | rfl
    · exact ⟨_, _, h1, by decide⟩
    · exact ⟨_, _, h2, by decide⟩
    · exact ⟨_, _, h3, by decide⟩
  · have a1 := ValveC.Own.ne h.own h1 (by decide); have a2 := ValveC.Own.ne h.own h2 (by decide); have a3 := ValveC.Own.ne h.own h3 (by decide)
    simp; exact ⟨a1, a2, a3⟩
  · have a1 := Ow.Has.ne h.cel h1 (by decide); have a2 := Ow.Has.ne h.cel h2 (by decide); have a3 := Ow.Has.ne h.cel h3 (by decide)
    simp; exact ⟨a1, a2, a3⟩
  · have a1 := Ow.Has.ne m1 h1 (by decide); have a2 := Ow.Has.ne m1 h2 (by decide); have a3 := Ow.Has.ne m1 h3 (by decide)
    simp; exact ⟨a1, a2, a3⟩
  · have a1 := Ow.Has.ne m2 h1 (by decide); have a2 := Ow.Has.ne m2 h2 (by decide); have a3 := Ow.Has.ne m2 h3 (by decide)
    simp; exact ⟨a1, a2, a3⟩
theorem DAt.vals {z : V} (h : DAt G w b d v g o lg k c m mb s x) (q : Kept [v, g, o] w w') (hz : IsV G w' v g o z) : DAt G w' b d v g o lg k c m mb s { x with v := z } := h.valo q hz h.go
theorem DAt.one {z : V} (h : DAt G w b d v g o lg k c m mb s x) (q : Kept [v] w w') (hz : IsV G w' v g o z) : DAt G w' b d v g o lg k c m mb s { x with v := z } := h.vals (q.mono (by simp)) hz
theorem DAt.logs (h : DAt G w b d v g o lg k c m mb s x) (q : KL G w w') (hl : IsLog G w' lg) : DAt G w' b d v g o lg k c m mb s x := by
  have hm : IsMem w' m mb x.m := by obtain ⟨wr, a, b, e⟩ := h.mem; exact ⟨wr, q.has a (by decide), q.has b (by decide), e⟩
  refine ⟨q.has h.top (by decide), ⟨q.has h.dog.has (by decide), h.dog.low, h.dog.le, h.dog.top⟩, ?_, hl, q.own h.own, q.has h.cel (by decide), hm, h.gb, h.gd, h.gv, h.gg, h.go, h.gk, h.gc, h.nm, h.nmb⟩
  obtain ⟨S, h1, h2⟩ := q
  refine h.val.kept3 h2 (fun i hi hl T cs hh => ?_)
  have := (h1 i hi hl).2 T cs hh
  refine ⟨?_, ?_, ?_, ?_⟩ <;> (rintro rfl; exact absurd this (by decide))
theorem DAt.tops (h : DAt G w b d v g o lg k c m mb s x) (q : Kept [b] w w') (ht : Has w' b 142 (dcells m c d v lg s y)) (ep : y.p = x.p) (es : y.since = x.since) (ev : y.v = x.v) (el : y.value = x.value) (ec : y.c = x.c) (em : y.m = x.m) : DAt G w' b d v g o lg k c m mb s y := by
  obtain ⟨⟨c4, m1⟩, ⟨c5, m2⟩⟩ := memH h.mem
  refine ⟨ht, ?_, ?_, Kx.IsLog.kept2 h.log q (fun i hi hl => .inr ?_), ?_, ?_, ?_, h.gb, h.gd, h.gv, h.gg, h.go, h.gk, h.gc, h.nm, h.nmb⟩
  · rw [ep, es]; exact h.dog.kept q (by simpa using Ow.Has.ne h.dog.has h.top (by decide))
  · rw [ev]; exact h.val.kept2 q (fun i hi hl => by simp at hi; subst hi; exact ⟨_, _, h.top, by decide, by decide, by decide, by decide⟩)
  · simp at hi; subst hi; exact ⟨_, _, h.top, by decide⟩
  · rw [el]; exact h.own.kept q (by simpa using ValveC.Own.ne h.own h.top (by decide))
  · rw [ec]; exact q.has h.cel (by simpa using Ow.Has.ne h.cel h.top (by decide))
  · rw [em]; exact h.mem.kept q (by simpa using Ow.Has.ne m1 h.top (by decide)) (by simpa using Ow.Has.ne m2 h.top (by decide))
theorem DAt.frame {S : List Nat} (h : DAt G w b d v g o lg k c m mb s x) (q : Kept S w w') (hS : ∀ i, i ∈ S → i < w.heap.size → ¬ G i) (hm : m ∉ S) (hmb : mb ∉ S) : DAt G w' b d v g o lg k c m mb s x :=
  ⟨q.has h.top (fun hi => hS _ hi h.top.lt h.gb), h.dog.kept q (fun hi => hS _ hi h.dog.has.lt h.gd), h.val.frame q h.gv h.gg h.go hS, h.log.kept q hS, h.own.kept q (fun hi => hS _ hi h.own.lt h.gk), q.has h.cel (fun hi => hS _ hi (Has.lt h.cel) h.gc), h.mem.kept q hm hmb, h.gb, h.gd, h.gv, h.gg, h.go, h.gk, h.gc, h.nm, h.nmb⟩
theorem DAt.mono {G' : Nat → Prop} (h : DAt G w b d v g o lg k c m mb s x) (hG : ∀ i, i < w.heap.size → G i → G' i) (hm : ¬ G' m) (hmb : ¬ G' mb) : DAt G' w b d v g o lg k c m mb s x :=
  ⟨h.top, h.dog, h.val.mono hG, h.log.mono hG, h.own, h.cel, h.mem, hG _ h.top.lt h.gb, hG _ h.dog.has.lt h.gd, hG _ h.val.lt.1 h.gv, hG _ h.val.lt.2.1 h.gg, hG _ h.val.lt.2.2 h.go, hG _ h.own.lt h.gk, hG _ (Has.lt h.cel) h.gc, hm, hmb⟩
theorem DAt.bare {R : Nat} {cs : List Value} (h : DAt G w b d v g o lg k c m mb s x) (hR : Has w R 63 cs) : DAt (fun i => G i ∧ i ≠ R) w b d v g o lg k c m mb s x := by
  obtain ⟨⟨c1, h1⟩, ⟨c2, h2⟩, ⟨c3, h3⟩⟩ := hasV h.val
  refine ⟨h.top, h.dog, ?_, (Kx.IsLog.typed h.log).mono (fun i _ hi => ⟨hi.1, fun e => ?_⟩), h.own, h.cel, h.mem, ⟨h.gb, Ow.Has.ne h.top hR (by decide)⟩, ⟨h.gd, Ow.Has.ne h.dog.has hR (by decide)⟩, ⟨h.gv, Ow.Has.ne h1 hR (by decide)⟩, ⟨h.gg, Ow.Has.ne h2 hR (by decide)⟩, ⟨h.go, Ow.Has.ne h3 hR (by decide)⟩, ⟨h.gk, ValveC.Own.ne h.own hR (by decide)⟩, ⟨h.gc, Ow.Has.ne h.cel hR (by decide)⟩, fun e => h.nm e.1, fun e => h.nmb e.1⟩
  · obtain ⟨s', t, q1, q2, q3⟩ := h.val
    refine ⟨s', t, q1, q2, ?_⟩
    revert q3
    cases x.v.value with
    | none => exact id
    | some l =>
      rintro ⟨h8, k', ho, hg⟩
      exact ⟨h8, k', ho, hg, ValveC.Own.ne ho hR (by decide)⟩
  · subst e; exact absurd (hi.2 _ _ hR) (by decide)
theorem DAt.mems {z : M} {q : C} (h : DAt G w b d v g o lg k c m mb s x) (q1 : Kept [c, m, mb] w w') (hm : IsMem w' m mb z) (hc : IsCell w' c m q) (eq : q.max = x.c.max) : DAt G w' b d v g o lg k c m mb s { x with m := z, c := q } := by
  obtain ⟨⟨c4, m1⟩, ⟨c5, m2⟩⟩ := memH h.mem
  have hn : ∀ i, i < w.heap.size → G i → i ≠ c → i ∉ [c, m, mb] := fun i _ hi hc => by
    simp; exact ⟨hc, fun e => h.nm (e ▸ hi), fun e => h.nmb (e ▸ hi)⟩
  have ht : Has w' b 142 (dcells m c d v lg s { x with m := z, c := q }) := by
    have := q1.has h.top (hn _ h.top.lt h.gb (Ow.Has.ne h.top h.cel (by decide)))
    unfold dcells at this ⊢; simp only [eq]; exact this
  obtain ⟨⟨c1, h1⟩, ⟨c2, h2⟩, ⟨c3, h3⟩⟩ := hasV h.val
  refine ⟨ht, h.dog.kept q1 (hn _ h.dog.has.lt h.gd (Ow.Has.ne h.dog.has h.cel (by decide))), ?_, Kx.IsLog.kept2 h.log q1 (fun i hi hl => .inr ?_), h.own.kept q1 (hn _ h.own.lt h.gk (ValveC.Own.ne h.own h.cel (by decide))), hc, hm, h.gb, h.gd, h.gv, h.gg, h.go, h.gk, h.gc, h.nm, h.nmb⟩
  · obtain ⟨s', t, a1, a2, a3⟩ := h.val
    refine ⟨s', t, q1.has a1 (hn _ a1.lt h.gv (Ow.Has.ne a1 h.cel (by decide))), a2.kept q1 (hn _ a2.1.lt h.gg (Ow.Has.ne a2.1 h.cel (by decide))) (hn _ a2.2.lt h.go (Ow.Has.ne a2.2 h.cel (by decide))), ?_⟩
    revert a3
    cases x.v.value with
    | none => exact id
    | some l =>
      rintro ⟨h8, k', ho, hg⟩
      exact ⟨h8, k', ho.kept q1 (hn _ ho.lt hg (ValveC.Own.ne ho h.cel (by decide))), hg⟩
  · simp at hi
    rcases hi with rfl | rfl | rfl
    · exact ⟨_, _, h.cel, by decide⟩
    · exact ⟨_, _, m1, by decide⟩
    · exact ⟨_, _, m2, by decide⟩
theorem DAt.set (h : DAt G w b d v g o lg k c m mb s x) (i : Nat) (u : Value) (hu : (dcells m c d v lg s x).set i u = dcells m c d v lg s y) (ep : y.p = x.p) (es : y.since = x.since) (ev : y.v = x.v) (el : y.value = x.value) (ec : y.c = x.c) (em : y.m = x.m) : DAt G (w.setCell ⟨b, i, none⟩ u) b d v g o lg k c m mb s y :=
  h.tops ((Kept.refl [b] w).set ⟨b, i, none⟩ u (by simp)) (hu ▸ h.top.set i u) ep es ev el ec em
theorem DAt.newrow {k' : Nat} {s' : Value} {l : List Int} {hb : Bool} (h : DAt G w b d v g o lg k c m mb s x) (ho : Own w k' s' l) (hk : G k') : DAt G ((w.setCell ⟨b, 16, none⟩ s').setCell ⟨b, 17, none⟩ (.bool hb)) b d v g o lg k' c m mb s' { x with value := l, hold := hb } := by
  have q := ((Kept.refl [b] w).set ⟨b, 16, none⟩ s' (by simp)).set ⟨b, 17, none⟩ (.bool hb) (by simp)
  obtain ⟨⟨c4, m1⟩, ⟨c5, m2⟩⟩ := memH h.mem
  refine ⟨(h.top.set 16 s').set 17 (.bool hb), h.dog.kept q (by simpa using Ow.Has.ne h.dog.has h.top (by decide)), h.val.kept2 q (fun i hi hl => by simp at hi; subst hi; exact ⟨_, _, h.top, by decide, by decide, by decide, by decide⟩), Kx.IsLog.kept2 h.log q (fun i hi hl => .inr (by simp at hi; subst hi; exact ⟨_, _, h.top, by decide⟩)), ho.kept q (by simpa using ValveC.Own.ne ho h.top (by decide)), q.has h.cel (by simpa using Ow.Has.ne h.cel h.top (by decide)), h.mem.kept q (by simpa using Ow.Has.ne m1 h.top (by decide)) (by simpa using Ow.Has.ne m2 h.top (by decide)), h.gb, h.gd, h.gv, h.gg, h.go, hk, h.gc, h.nm, h.nmb⟩
def devOf (G : Nat → Prop) (w : World) (b m mb : Nat) (x : D) : Prop := ∃ d v g o lg k c s, DAt G w b d v g o lg k c m mb s x
theorem DAt.dev (h : DAt G w b d v g o lg k c m mb s x) : devOf G w b m mb x := ⟨d, v, g, o, lg, k, c, s, h⟩
def GM (G : Nat → Prop) (m mb i : Nat) : Prop := G i ∨ i = m ∨ i = mb
theorem kgM (h : KG G w w') : KG (GM G m mb) w w' := h.shed (fun i _ hi => .inl hi)
end DevC
end Go.Proofs.YtinaliblnihpbaaGreat
