/- The walks and the plain laws of DevN, HostX, Bu. -/
import Derived.Test.YtinaliblnihpbaaGreatV14
import Derived.Test.YtinaliblnihpbaaGreatV10
import Derived.Test.YtinaliblnihpbaaGreatV11
import Derived.Test.YtinaliblnihpbaaGreatV05
import Derived.Laws.BitsAllLaws
set_option linter.unusedVariables false
set_option linter.unusedSimpArgs false
open Go.Lib (hid)
namespace Go.Proofs.YtinaliblnihpbaaGreat
namespace DevC
open Go Go.RowKit Gf SlC CrcW SlM Hp Sl Ow DiagC ValveC DogC Kx TM MemC CellC HostC EncW ParW UnW UEnc NumW UDecW
variable {G : Nat → Prop} {w w' w'' : World} {b d v g o lg k c m mb : Nat} {s : Value} {x y : D}
theorem take_call (hx : DOk x) (hG : Opn G w) (h : DAt G w b d v g o lg k c m mb s x) (u : U) (vd : Value) (hd : Bytes w vd u.data) (hb : By u.data) (hk : 1 ≤ u.kind ∧ u.kind ≤ 5) (hfl : 0 ≤ u.flags ∧ u.flags ≤ 15) (hnd : ∀ b' off n c, vd = .slice (some ⟨b', off, none⟩) n c → u.data ≠ [] → ¬ G b') :
    Calls Tryz.prog 134 #[.pointer (some ⟨b, 0, none⟩), uval u vd] w fun e w' => Rep G w w' b m mb e (x.take (sigB x.p) u) := by
  have hk' : u.kind = 1 ∨ u.kind = 2 ∨ u.kind = 3 ∨ u.kind = 4 ∨ u.kind = 5 := by omega
  rcases hk' with h1 | h1 | h1 | h1 | h1
  · have e : x.take (sigB x.p) u = x.asked (sigB x.p) u := by unfold D.take; rw [if_pos h1]
    rw [e]; exact take1 hx hG h u vd hd hb h1
  · have n1 : ¬ u.kind = 1 := by omega
    have n3 : ¬ (u.kind = 3 ∧ x.ses = u.ses ∧ (x.state = 3 ∨ x.state = 4 ∧ x.num = 0)) := by omega
    have n4 : ¬ (u.kind = 4 ∧ x.next u ∧ (u.data.length : Int) = x.p.out ∧ u.num < x.p.count) := by omega
    have n5 : ¬ (u.kind = 5 ∧ x.next u ∧ u.num = x.p.count) := by omega
    by_cases h2 : x.ses = u.ses
    · by_cases h3 : x.state = 2
      · have e : x.take (sigB x.p) u = x.echoed (sigB x.p) u := by unfold D.take; rw [if_neg n1, if_pos ⟨h1, h2, .inl h3⟩]
        rw [e]
        by_cases h4 : u.data = sigB x.p
        · have e : x.echoed (sigB x.p) u = (({ x with state := 3 } : D).alive, some (({ x with state := 3 } : D).alive.reply 18 0 []), 0) := by
            have : x.agree = ({ x with state := 3 } : D).alive := by unfold D.agree; rw [if_pos h3]
            unfold D.echoed; rw [if_pos h4, this]
          rw [e]; exact take2a hx hG h u vd hd hb h1 h2 h3 h4
        · have e : x.echoed (sigB x.p) u = x.odds 91 := by unfold D.echoed; rw [if_neg h4]
          rw [e]; exact take2c hx hG h u vd hd hb h1 h2 h3 h4
      · by_cases h3' : x.state = 3
        · have e : x.take (sigB x.p) u = x.echoed (sigB x.p) u := by unfold D.take; rw [if_neg n1, if_pos ⟨h1, h2, .inr h3'⟩]
          rw [e]
          by_cases h4 : u.data = sigB x.p
          · have e : x.echoed (sigB x.p) u = (x, some (x.reply 18 0 []), 0) := by
              have : x.agree = x := by unfold D.agree; rw [if_neg h3]
              unfold D.echoed; rw [if_pos h4, this]
            rw [e]; exact take2b hx hG h u vd hd hb h1 h2 h3' h4
          · have e : x.echoed (sigB x.p) u = x.odds 91 := by unfold D.echoed; rw [if_neg h4]
            rw [e]; exact take2d hx hG h u vd hd hb h1 h2 h3' h4
        · have e : x.take (sigB x.p) u = x.odds 130 := by unfold D.take; rw [if_neg n1, if_neg (fun q => q.2.2.elim h3 h3'), if_neg n3, if_neg n4, if_neg n5]
          rw [e]; exact take2f hx hG h u vd hd hb h1 h2 h3 h3'
    · have e : x.take (sigB x.p) u = x.odds 130 := by unfold D.take; rw [if_neg n1, if_neg (fun q => h2 q.2.1), if_neg n3, if_neg n4, if_neg n5]
      rw [e]; exact take2e hx hG h u vd hd hb h1 h2
  · have n1 : ¬ u.kind = 1 := by omega
    have n2 : ¬ (u.kind = 2 ∧ x.ses = u.ses ∧ (x.state = 2 ∨ x.state = 3)) := by omega
    have n4 : ¬ (u.kind = 4 ∧ x.next u ∧ (u.data.length : Int) = x.p.out ∧ u.num < x.p.count) := by omega
    have n5 : ¬ (u.kind = 5 ∧ x.next u ∧ u.num = x.p.count) := by omega
    by_cases h2 : x.ses = u.ses
    · by_cases h3 : x.state = 3
      · have e : x.take (sigB x.p) u = (({ x with state := 4, v := x.v.run true } : D).alive, some (({ x with state := 4, v := x.v.run true } : D).alive.reply 19 0 []), 0) := by
          have : x.go = ({ x with state := 4, v := x.v.run true } : D).alive := by unfold D.go; rw [if_pos h3]
          unfold D.take; rw [if_neg n1, if_neg n2, if_pos ⟨h1, h2, .inl h3⟩]; unfold D.started; rw [this]
        rw [e]; exact take3a hx hG h u vd hd hb h1 h2 h3
      · by_cases h4 : x.state = 4
        · by_cases h5 : x.num = 0
          · have e : x.take (sigB x.p) u = (x, some (x.reply 19 0 []), 0) := by
              have : x.go = x := by unfold D.go; rw [if_neg h3]
              unfold D.take; rw [if_neg n1, if_neg n2, if_pos ⟨h1, h2, .inr ⟨h4, h5⟩⟩]; unfold D.started; rw [this]
            rw [e]; exact take3b hx hG h u vd hd hb h1 h2 h4 h5
          · have e : x.take (sigB x.p) u = x.odds 130 := by unfold D.take; rw [if_neg n1, if_neg n2, if_neg (fun q => q.2.2.elim h3 (fun r => h5 r.2)), if_neg n4, if_neg n5]
            rw [e]; exact take3g hx hG h u vd hd hb h1 h2 h4 h5
        · have e : x.take (sigB x.p) u = x.odds 130 := by unfold D.take; rw [if_neg n1, if_neg n2, if_neg (fun q => q.2.2.elim h3 (fun r => h4 r.1)), if_neg n4, if_neg n5]
          rw [e]; exact take3f hx hG h u vd hd hb h1 h2 h3 h4
    · have e : x.take (sigB x.p) u = x.odds 130 := by unfold D.take; rw [if_neg n1, if_neg n2, if_neg (fun q => h2 q.2.1), if_neg n4, if_neg n5]
      rw [e]; exact take3e hx hG h u vd hd hb h1 h2
  · have n1 : ¬ u.kind = 1 := by omega
    have n2 : ¬ (u.kind = 2 ∧ x.ses = u.ses ∧ (x.state = 2 ∨ x.state = 3)) := by omega
    have n3 : ¬ (u.kind = 3 ∧ x.ses = u.ses ∧ (x.state = 3 ∨ x.state = 4 ∧ x.num = 0)) := by omega
    have n5 : ¬ (u.kind = 5 ∧ x.next u ∧ u.num = x.p.count) := by omega
    by_cases h2 : x.next u
    · by_cases h3 : (u.data.length : Int) = x.p.out
      · by_cases h4 : u.num < x.p.count
        · have e : x.take (sigB x.p) u = x.fed u := by unfold D.take; rw [if_neg n1, if_neg n2, if_neg n3, if_pos ⟨h1, h2, h3, h4⟩]
          rw [e]; exact take4y hx hG h u vd hd hb h1 h2 h3 h4 hfl hnd
        · have e : x.take (sigB x.p) u = x.odds 130 := by unfold D.take; rw [if_neg n1, if_neg n2, if_neg n3, if_neg (fun q => h4 q.2.2.2), if_neg n5]
          rw [e]; exact take4c hx hG h u vd hd hb h1 h2 h3 h4
      · have e : x.take (sigB x.p) u = x.odds 130 := by unfold D.take; rw [if_neg n1, if_neg n2, if_neg n3, if_neg (fun q => h3 q.2.2.1), if_neg n5]
        rw [e]; exact take4l hx hG h u vd hd hb h1 h2 h3
    · have e : x.take (sigB x.p) u = x.odds 130 := by unfold D.take; rw [if_neg n1, if_neg n2, if_neg n3, if_neg (fun q => h2 q.2.1), if_neg n5]
      rw [e]; exact take4n hx hG h u vd hd hb h1 h2
  · have n1 : ¬ u.kind = 1 := by omega
    have n2 : ¬ (u.kind = 2 ∧ x.ses = u.ses ∧ (x.state = 2 ∨ x.state = 3)) := by omega
    have n3 : ¬ (u.kind = 3 ∧ x.ses = u.ses ∧ (x.state = 3 ∨ x.state = 4 ∧ x.num = 0)) := by omega
    have n4 : ¬ (u.kind = 4 ∧ x.next u ∧ (u.data.length : Int) = x.p.out ∧ u.num < x.p.count) := by omega
    by_cases h2 : x.next u
    · by_cases h3 : u.num = x.p.count
      · have e : x.take (sigB x.p) u = x.ended u := by unfold D.take; rw [if_neg n1, if_neg n2, if_neg n3, if_neg n4, if_pos ⟨h1, h2, h3⟩]
        rw [e]; exact take5y hx hG h u vd hd hb h1 h2 h3
      · have e : x.take (sigB x.p) u = x.odds 130 := by unfold D.take; rw [if_neg n1, if_neg n2, if_neg n3, if_neg n4, if_neg (fun q => h3 q.2.2)]
        rw [e]; exact take5c hx hG h u vd hd hb h1 h2 h3
    · have e : x.take (sigB x.p) u = x.odds 130 := by unfold D.take; rw [if_neg n1, if_neg n2, if_neg n3, if_neg n4, if_neg (fun q => h2 q.2.1)]
      rw [e]; exact take5n hx hG h u vd hd hb h1 h2
set_option maxRecDepth 100000 in
theorem fromHost_call (n : Int) (w : World) : Calls Tryz.prog 133 #[.int .i64 n] w fun e w' => e = .returned (.bool (decide (1 ≤ n) && decide (n ≤ 5))) ∧ w' = w := by
  go_enter Tryz.func133, Tryz.ntmps133
  go_wp2_with fail
  · go_ret
    simp [*]
  · go_ret
    simp [*]
    omega
set_option maxRecDepth 100000 in
theorem read_bad (vb : Value) (L : List Int) (hs : Bytes w vb L) (hb : By L) (l1 : 19 ≤ L.length) (l2 : L.length ≤ 27) (hc : crc L ≠ 0) :
    Calls Tryz.prog 101 #[.pointer (some ⟨b, 0, none⟩), vb] w fun e w' => e = .returned (.tuple #[.slice none 0 0, .int .i64 42]) ∧ Kept [] w w' := by
  have DB := hid (decode_bad vb L w hs hb l1 l2 hc)
  clear hs hb l1 l2 hc
  go_enter Tryz.func101, Tryz.ntmps101
  go_wp2_with fail
  refine DB.out.mono ?_
  rintro e w1 ⟨rfl, k1⟩
  have K1 := hid k1
  clear k1
  unfold uval
  go_wp2_with fail
  go_ret2
  exact ⟨rfl, K1.out.alloc _⟩
set_option maxRecDepth 100000 in
theorem read43 (hx : DOk x) (hG : Opn G w) (h : DAt G w b d v g o lg k c m mb s x) (u : U) (hr : URange u) (hl : Law u) (vb : Value) (hs : Bytes w vb (frame u)) (h1 : ¬ (1 ≤ u.kind ∧ u.kind ≤ 5)) :
    Calls Tryz.prog 101 #[.pointer (some ⟨b, 0, none⟩), vb] w fun e w' => Rep G w w' b m mb e (x, none, (43 : Int)) := by
  have DB := hid (decode_ok u hr hl vb w hs)
  have HH := hid h
  have HX := hid hx
  have HG := hid hG
  have DA := hid hr.data
  have HFL := hid (hl.flags)
  have SM := hid (h.mono (G' := fun i => G i ∧ i < w.heap.size) (fun i hi hg => ⟨hg, hi⟩) (fun q => h.nm q.1) (fun q => h.nmb q.1))
  have ML := hid h.mem.lt
  have Xh1 := hid h1
  clear hx hG h hs hl hr h1
  go_enter Tryz.func101, Tryz.ntmps101
  go_wp2_with fail
  refine DB.out.mono ?_
  rintro e w1 ⟨vd, rfl, k1, m1⟩
  have K1 := hid k1
  have M1 := hid m1
  obtain ⟨dp, dc, rfl⟩ := m1.shape
  clear k1 m1
  unfold uval
  go_wp2_with fail
  have K2 := hid (K1.out.alloc (.cells #[.int .i64 u.kind, .int .u32 u.code, .int .u32 u.ses, .int .u32 u.num, .int .i64 u.flags, .slice dp u.data.length dc] 63))
  have U2 := hid (Has.new w1 63 [.int .i64 u.kind, .int .u32 u.code, .int .u32 u.ses, .int .u32 u.num, .int .i64 u.flags, .slice dp u.data.length dc])
  have H2 := hid (HH.out.nil K2.out)
  have M2 := hid (M1.out.kept ((Kept.refl [] w1).alloc (.cells #[.int .i64 u.kind, .int .u32 u.code, .int .u32 u.ses, .int .u32 u.num, .int .i64 u.flags, .slice dp u.data.length dc] 63)) (by simp))
  generalize w1.alloc (.cells #[.int .i64 u.kind, .int .u32 u.code, .int .u32 u.ses, .int .u32 u.num, .int .i64 u.flags, .slice dp u.data.length dc] 63) = w2 at K2 U2 H2 M2 ⊢
  have RR := hid K1.out.size
  generalize w1.heap.size = R at U2 RR ⊢
  refine (fromHost_call u.kind w2).mono ?_
  rintro e w3 ⟨rfl, rfl⟩
  have FK := hid (show ∀ w', Kept [] w3 w' → (w'.cell? ⟨b, 0, none⟩ = some (.int .u32 x.p.code) ∧ w'.cell? ⟨R, 0, none⟩ = some (.int .i64 u.kind) ∧ w'.cell? ⟨R, 1, none⟩ = some (.int .u32 u.code) ∧ w'.cell? ⟨R, 2, none⟩ = some (.int .u32 u.ses) ∧ w'.cell? ⟨R, 3, none⟩ = some (.int .u32 u.num) ∧ w'.cell? ⟨R, 4, none⟩ = some (.int .i64 u.flags) ∧ w'.cell? ⟨R, 5, none⟩ = some (.slice dp u.data.length dc)) from fun w' q => ⟨(q.has H2.out.top (by simp)).cell 0 rfl, (q.has U2.out (by simp)).cell 0 rfl, (q.has U2.out (by simp)).cell 1 rfl, (q.has U2.out (by simp)).cell 2 rfl, (q.has U2.out (by simp)).cell 3 rfl, (q.has U2.out (by simp)).cell 4 rfl, (q.has U2.out (by simp)).cell 5 rfl⟩)
  have q3 := Kept.refl [] w3
  have e0 : (decide (1 ≤ u.kind) && decide (u.kind ≤ 5)) = false := by have := Xh1.out; simp; omega
  rw [e0]
  clear e0
  go_wp2_with fail
  have K3 := hid (K2.out.trans q3)
  have H3 := hid (H2.out.nil q3)
  have U3 := hid (q3.has U2.out (by simp))
  have M3 := hid (M2.out.kept q3 (by simp))
  go_ret2
  exact ⟨_, rfl, .nil K3.out, H3.out.dev, rfl⟩
set_option maxRecDepth 100000 in
theorem read44 (hx : DOk x) (hG : Opn G w) (h : DAt G w b d v g o lg k c m mb s x) (u : U) (hr : URange u) (hl : Law u) (vb : Value) (hs : Bytes w vb (frame u)) (h1 : 1 ≤ u.kind ∧ u.kind ≤ 5) (h2 : ¬ u.code = x.p.code) :
    Calls Tryz.prog 101 #[.pointer (some ⟨b, 0, none⟩), vb] w fun e w' => Rep G w w' b m mb e (x, none, (44 : Int)) := by
  have DB := hid (decode_ok u hr hl vb w hs)
  have HH := hid h
  have HX := hid hx
  have HG := hid hG
  have DA := hid hr.data
  have HFL := hid (hl.flags)
  have SM := hid (h.mono (G' := fun i => G i ∧ i < w.heap.size) (fun i hi hg => ⟨hg, hi⟩) (fun q => h.nm q.1) (fun q => h.nmb q.1))
  have ML := hid h.mem.lt
  have Xh1 := hid h1
  have Xh2 := hid h2
  clear hx hG h hs hl hr h1 h2
  go_enter Tryz.func101, Tryz.ntmps101
  go_wp2_with fail
  refine DB.out.mono ?_
  rintro e w1 ⟨vd, rfl, k1, m1⟩
  have K1 := hid k1
  have M1 := hid m1
  obtain ⟨dp, dc, rfl⟩ := m1.shape
  clear k1 m1
  unfold uval
  go_wp2_with fail
  have K2 := hid (K1.out.alloc (.cells #[.int .i64 u.kind, .int .u32 u.code, .int .u32 u.ses, .int .u32 u.num, .int .i64 u.flags, .slice dp u.data.length dc] 63))
  have U2 := hid (Has.new w1 63 [.int .i64 u.kind, .int .u32 u.code, .int .u32 u.ses, .int .u32 u.num, .int .i64 u.flags, .slice dp u.data.length dc])
  have H2 := hid (HH.out.nil K2.out)
  have M2 := hid (M1.out.kept ((Kept.refl [] w1).alloc (.cells #[.int .i64 u.kind, .int .u32 u.code, .int .u32 u.ses, .int .u32 u.num, .int .i64 u.flags, .slice dp u.data.length dc] 63)) (by simp))
  generalize w1.alloc (.cells #[.int .i64 u.kind, .int .u32 u.code, .int .u32 u.ses, .int .u32 u.num, .int .i64 u.flags, .slice dp u.data.length dc] 63) = w2 at K2 U2 H2 M2 ⊢
  have RR := hid K1.out.size
  generalize w1.heap.size = R at U2 RR ⊢
  refine (fromHost_call u.kind w2).mono ?_
  rintro e w3 ⟨rfl, rfl⟩
  have FK := hid (show ∀ w', Kept [] w3 w' → (w'.cell? ⟨b, 0, none⟩ = some (.int .u32 x.p.code) ∧ w'.cell? ⟨R, 0, none⟩ = some (.int .i64 u.kind) ∧ w'.cell? ⟨R, 1, none⟩ = some (.int .u32 u.code) ∧ w'.cell? ⟨R, 2, none⟩ = some (.int .u32 u.ses) ∧ w'.cell? ⟨R, 3, none⟩ = some (.int .u32 u.num) ∧ w'.cell? ⟨R, 4, none⟩ = some (.int .i64 u.flags) ∧ w'.cell? ⟨R, 5, none⟩ = some (.slice dp u.data.length dc)) from fun w' q => ⟨(q.has H2.out.top (by simp)).cell 0 rfl, (q.has U2.out (by simp)).cell 0 rfl, (q.has U2.out (by simp)).cell 1 rfl, (q.has U2.out (by simp)).cell 2 rfl, (q.has U2.out (by simp)).cell 3 rfl, (q.has U2.out (by simp)).cell 4 rfl, (q.has U2.out (by simp)).cell 5 rfl⟩)
  have q3 := Kept.refl [] w3
  have e0 : (decide (1 ≤ u.kind) && decide (u.kind ≤ 5)) = true := by have := Xh1.out; simp; omega
  have e1 : (u.code != x.p.code) = true := by simp [Xh2.out]
  rw [e0]
  clear e0
  go_wp2_with fail
  obtain ⟨f0, y0, y1, y2, y3, y4, y5⟩ := FK.out _ q3
  go_quiet (fail)
  have q4 := q3.drewN nq
  clear f0 y0 y1 y2 y3 y4 y5 q3
  generalize w3.drewN nq = w4 at q4 ⊢
  obtain ⟨f0, y0, y1, y2, y3, y4, y5⟩ := FK.out _ q4
  go_wp2_with fail
  clear f0 y0 y1 y2 y3 y4 y5
  have K3 := hid (K2.out.trans q4)
  have H3 := hid (H2.out.nil q4)
  have U3 := hid (q4.has U2.out (by simp))
  have M3 := hid (M2.out.kept q4 (by simp))
  go_ret2
  exact ⟨_, rfl, .nil K3.out, H3.out.dev, rfl⟩
set_option maxRecDepth 100000 in
theorem readT (hx : DOk x) (hG : Opn G w) (h : DAt G w b d v g o lg k c m mb s x) (u : U) (hr : URange u) (hl : Law u) (vb : Value) (hs : Bytes w vb (frame u)) (h1 : 1 ≤ u.kind ∧ u.kind ≤ 5) (h2 : u.code = x.p.code) :
    Calls Tryz.prog 101 #[.pointer (some ⟨b, 0, none⟩), vb] w fun e w' => Rep G w w' b m mb e (x.take (sigB x.p) u) := by
  have DB := hid (decode_ok u hr hl vb w hs)
  have HH := hid h
  have HX := hid hx
  have HG := hid hG
  have DA := hid hr.data
  have HFL := hid (hl.flags)
  have SM := hid (h.mono (G' := fun i => G i ∧ i < w.heap.size) (fun i hi hg => ⟨hg, hi⟩) (fun q => h.nm q.1) (fun q => h.nmb q.1))
  have ML := hid h.mem.lt
  have Xh1 := hid h1
  have Xh2 := hid h2
  clear hx hG h hs hl hr h1 h2
  go_enter Tryz.func101, Tryz.ntmps101
  go_wp2_with fail
  refine DB.out.mono ?_
  rintro e w1 ⟨vd, rfl, k1, m1⟩
  have K1 := hid k1
  have M1 := hid m1
  obtain ⟨dp, dc, rfl⟩ := m1.shape
  clear k1 m1
  unfold uval
  go_wp2_with fail
  have K2 := hid (K1.out.alloc (.cells #[.int .i64 u.kind, .int .u32 u.code, .int .u32 u.ses, .int .u32 u.num, .int .i64 u.flags, .slice dp u.data.length dc] 63))
  have U2 := hid (Has.new w1 63 [.int .i64 u.kind, .int .u32 u.code, .int .u32 u.ses, .int .u32 u.num, .int .i64 u.flags, .slice dp u.data.length dc])
  have H2 := hid (HH.out.nil K2.out)
  have M2 := hid (M1.out.kept ((Kept.refl [] w1).alloc (.cells #[.int .i64 u.kind, .int .u32 u.code, .int .u32 u.ses, .int .u32 u.num, .int .i64 u.flags, .slice dp u.data.length dc] 63)) (by simp))
  generalize w1.alloc (.cells #[.int .i64 u.kind, .int .u32 u.code, .int .u32 u.ses, .int .u32 u.num, .int .i64 u.flags, .slice dp u.data.length dc] 63) = w2 at K2 U2 H2 M2 ⊢
  have RR := hid K1.out.size
  generalize w1.heap.size = R at U2 RR ⊢
  refine (fromHost_call u.kind w2).mono ?_
  rintro e w3 ⟨rfl, rfl⟩
  have FK := hid (show ∀ w', Kept [] w3 w' → (w'.cell? ⟨b, 0, none⟩ = some (.int .u32 x.p.code) ∧ w'.cell? ⟨R, 0, none⟩ = some (.int .i64 u.kind) ∧ w'.cell? ⟨R, 1, none⟩ = some (.int .u32 u.code) ∧ w'.cell? ⟨R, 2, none⟩ = some (.int .u32 u.ses) ∧ w'.cell? ⟨R, 3, none⟩ = some (.int .u32 u.num) ∧ w'.cell? ⟨R, 4, none⟩ = some (.int .i64 u.flags) ∧ w'.cell? ⟨R, 5, none⟩ = some (.slice dp u.data.length dc)) from fun w' q => ⟨(q.has H2.out.top (by simp)).cell 0 rfl, (q.has U2.out (by simp)).cell 0 rfl, (q.has U2.out (by simp)).cell 1 rfl, (q.has U2.out (by simp)).cell 2 rfl, (q.has U2.out (by simp)).cell 3 rfl, (q.has U2.out (by simp)).cell 4 rfl, (q.has U2.out (by simp)).cell 5 rfl⟩)
  have q3 := Kept.refl [] w3
  have e0 : (decide (1 ≤ u.kind) && decide (u.kind ≤ 5)) = true := by have := Xh1.out; simp; omega
  have e1 : (u.code != x.p.code) = false := by simp [Xh2.out]
  rw [e0]
  clear e0
  go_wp2_with fail
  obtain ⟨f0, y0, y1, y2, y3, y4, y5⟩ := FK.out _ q3
  go_quiet (fail)
  have q4 := q3.drewN nq
  clear f0 y0 y1 y2 y3 y4 y5 q3
  generalize w3.drewN nq = w4 at q4 ⊢
  obtain ⟨f0, y0, y1, y2, y3, y4, y5⟩ := FK.out _ q4
  go_wp2_with fail
  clear f0 y0 y1 y2 y3 y4 y5
  have K3 := hid (K2.out.trans q4)
  have H3 := hid (H2.out.nil q4)
  have U3 := hid (q4.has U2.out (by simp))
  have M3 := hid (M2.out.kept q4 (by simp))
  have HM := hid ((SM.out.nil K3.out).mono (G' := fun i => (G i ∧ i < w.heap.size) ∨ w4.heap.size ≤ i) (fun i hi hg => .inl hg) (by have := ML.out.1; have := K3.out.size; have := HH.out.nm; rintro (⟨h, _⟩ | h); exact this h; omega) (by have := ML.out.2; have := K3.out.size; have := HH.out.nmb; rintro (⟨h, _⟩ | h); exact this h; omega))
  have OM := hid (show Opn (fun i => (G i ∧ i < w.heap.size) ∨ w4.heap.size ≤ i) w4 from fun i hi => .inr hi)
  have ND := hid (show ∀ b' off n c, (Value.slice dp u.data.length dc) = .slice (some ⟨b', off, none⟩) n c → u.data ≠ [] → ¬ ((G b' ∧ b' < w.heap.size) ∨ w4.heap.size ≤ b') by
    intro b' off n c e hne hh
    have q := M3.out.2
    have lt := fun k => M3.out.1.lt (k := k)
    rw [e] at q lt
    have hb := M3.out.1
    rw [e] at hb
    rcases hb with ⟨e1, _⟩ | ⟨g1, cap1, cur1, e1, _⟩
    · cases e1
    · cases e1
      have a1 := q b' rfl
      have a2 := lt b' rfl
      rcases hh with hh | hh <;> omega)
  refine (take_call HX.out OM.out HM.out u _ M3.out.bytes DA.out Xh1.out HFL.out ND.out).mono ?_
  rintro e w9 ⟨f, rfl, k9, h9, f9⟩
  have K9 := hid (k9.shed (G' := GM G m mb) (fun i hi hg => hg.elim (fun r => r.elim (fun q => .inl q.1) (fun q => absurd hi (Nat.not_lt.2 q))) .inr))
  have H9 := hid (show devOf G w9 b m mb _ by
    obtain ⟨d, v, g, o, lg, k, c, s, h⟩ := h9
    exact ⟨d, v, g, o, lg, k, c, s, h.mono (G' := G) (fun i hi hg => hg.elim (fun q => q.1) (fun q => HG.out _ (Nat.le_trans K3.out.size q))) HH.out.nm HH.out.nmb⟩)
  have F9 := hid (FrameOf.after K3.out.size f9)
  clear k9 h9 f9
  obtain ⟨p9, l9, n9, rfl⟩ := DevC.FrameOf.shape F9.out
  go_wp2_with fail
  go_ret2
  exact ⟨_, rfl, (KG.nil K3.out).trans K9.out, H9.out, F9.out⟩
theorem read_ok (hx : DOk x) (hG : Opn G w) (h : DAt G w b d v g o lg k c m mb s x) (h6 : x.state ≠ 6) (u : U) (hr : URange u) (hl : Law u) (vb : Value) (hs : Bytes w vb (frame u)) :
    Calls Tryz.prog 101 #[.pointer (some ⟨b, 0, none⟩), vb] w fun e w' => Rep G w w' b m mb e (x.receive (sigB x.p) u 0) := by
  by_cases h1 : 1 ≤ u.kind ∧ u.kind ≤ 5
  · by_cases h2 : u.code = x.p.code
    · have e : x.receive (sigB x.p) u 0 = x.take (sigB x.p) u := by unfold D.receive; rw [if_neg h6, if_neg (by simp), if_neg (by simp [h1]), if_neg (by simp [h2])]
      rw [e]; exact readT hx hG h u hr hl vb hs h1 h2
    · have e : x.receive (sigB x.p) u 0 = (x, none, 44) := by unfold D.receive; rw [if_neg h6, if_neg (by simp), if_neg (by simp [h1]), if_pos h2]
      rw [e]; exact read44 hx hG h u hr hl vb hs h1 h2
  · have e : x.receive (sigB x.p) u 0 = (x, none, 43) := by unfold D.receive; rw [if_neg h6, if_neg (by simp), if_pos h1]
    rw [e]; exact read43 hx hG h u hr hl vb hs h1
theorem begin_code (x : D) (sig : List Int) : (x.begin sig).2.2 = 0 ∨ (x.begin sig).2.2 = 70 ∨ (x.begin sig).2.2 = 80 := by
  unfold D.begin
  split
  · exact .inr (.inr rfl)
  split
  · exact .inl rfl
  · exact .inr (.inl rfl)
theorem take_code (x : D) (sig : List Int) (u : U) : (x.take sig u).2.2 = 0 ∨ (x.take sig u).2.2 = 70 ∨ (x.take sig u).2.2 = 80 ∨ (x.take sig u).2.2 = 91 ∨ (x.take sig u).2.2 = 130 := by
  have bc : ∀ z : D, (z.begin sig).2.2 = 0 ∨ (z.begin sig).2.2 = 70 ∨ (z.begin sig).2.2 = 80 ∨ (z.begin sig).2.2 = 91 ∨ (z.begin sig).2.2 = 130 := fun z => by
    rcases begin_code z sig with h | h | h <;> simp [h]
  unfold D.take
  split
  · unfold D.asked
    split
    · split
      · split
        · exact bc _
        · split
          · exact .inr (.inr (.inr (.inr rfl)))
          · exact .inr (.inr (.inr (.inr rfl)))
      · exact bc _
    · exact .inr (.inr (.inr (.inl rfl)))
  split
  · unfold D.echoed
    split
    · exact .inl rfl
    · exact .inr (.inr (.inr (.inl rfl)))
  split
  · exact .inl rfl
  split
  · exact .inl rfl
  split
  · exact .inl rfl
  · exact .inr (.inr (.inr (.inr rfl)))
theorem receive_code (x : D) (sig : List Int) (u : U) : (x.receive sig u 0).2.2 = 0 ∨ (x.receive sig u 0).2.2 = 70 ∨ ∃ n : Nat, (x.receive sig u 0).2.2 = n ∧ n ≠ 70 ∧ 1 ≤ n ∧ n < 1000 := by
  unfold D.receive
  split
  · exact .inr (.inl rfl)
  rw [if_neg (by simp)]
  split
  · exact .inr (.inr ⟨43, rfl, by decide, by decide, by decide⟩)
  split
  · exact .inr (.inr ⟨44, rfl, by decide, by decide, by decide⟩)
  · rcases take_code x sig u with h | h | h | h | h
    · exact .inl h
    · exact .inr (.inl h)
    · exact .inr (.inr ⟨80, h, by decide, by decide, by decide⟩)
    · exact .inr (.inr ⟨91, h, by decide, by decide, by decide⟩)
    · exact .inr (.inr ⟨130, h, by decide, by decide, by decide⟩)
theorem FrameOf.nil {w w1 w2 : World} {f : Value} {o : Option U} (k : Kept [] w1 w2) (h : FrameOf w w1 f o) : FrameOf w w2 f o := by
  cases o with
  | none => exact h
  | some u => exact Made.kept h k (by simp)
theorem FrameOf.kl {w w1 w2 : World} {f : Value} {o : Option U} (k : KL G w1 w2) (h : FrameOf w w1 f o) : FrameOf w w2 f o := by
  cases o with
  | none => exact h
  | some u => exact ⟨h.1.imp id (fun ⟨g, hg⟩ => ⟨g, k.own hg⟩), h.2⟩
set_option maxRecDepth 100000 in
/-- Receive, whatever its read comes to. -/
theorem receive_from (h : DAt G w b d v g o lg k c m mb s x) (h6 : x.state ≠ 6) (r : D × Option U × Int) (hr : r.2.2 = 0 ∨ r.2.2 = 70 ∨ ∃ n : Nat, r.2.2 = n ∧ n ≠ 70 ∧ 1 ≤ n ∧ n < 1000) (hG : Opn G w) (vb : Value)
    (hC : Calls Tryz.prog 101 #[.pointer (some ⟨b, 0, none⟩), vb] w fun e w' => Rep G w w' b m mb e r) :
    Calls Tryz.prog 70 #[.pointer (some ⟨b, 0, none⟩), vb] w fun e w' => Rep G w w' b m mb e r := by
  have HC := hid hC
  have HG := hid hG
  have c11 := h.top.cell 11 (v := .int .i64 x.state) rfl
  have e6 : (x.state == 6) = false := by simp [h6]
  obtain ⟨y, fr, n⟩ := r
  clear hC hG h h6
  rcases hr with hr | hr | ⟨n, hr, h7, h1, h2⟩
  case inr.inr =>
    simp only at hr
    subst hr
    have N1 := hid h1
    have N2 := hid h2
    have e1 : ((n : Int) != 0) = true := by simp; omega
    have e2 : ((n : Int) != 70) = true := by simp; omega
    clear h1 h2 h7
    go_enter Tryz.func70, Tryz.ntmps70
    go_wp2_with fail
    refine HC.out.mono ?_
    rintro e w1 ⟨f, rfl, k1, ⟨d1, v1, g1, o1, lg1, kk1, c1, s1, h1⟩, f1⟩
    have K1 := hid k1
    have H1 := hid h1
    have F1 := hid f1
    have HG1 := hid (HG.out.kg k1)
    have c10 := h1.top.cell 10 (v := .pointer (some ⟨lg1, 0, none⟩)) rfl
    have c12 := h1.top.cell 12 (v := .int .u32 y.ses) rfl
    have c13 := h1.top.cell 13 (v := .int .u32 y.num) rfl
    obtain ⟨p9, l9, n9, rfl⟩ := DevC.FrameOf.shape f1
    clear k1 h1 f1 c11
    go_wp2_with fail
    have c10' : w1.drew.cell? ⟨b, 10, none⟩ = some (.pointer (some ⟨lg1, 0, none⟩)) := c10
    have c12' : w1.drew.cell? ⟨b, 12, none⟩ = some (.int .u32 y.ses) := c12
    have c13' : w1.drew.cell? ⟨b, 13, none⟩ = some (.int .u32 y.num) := c13
    (refine wp_region_still_tail 15 (by kernel_rfl) (by kernel_rfl) ?_; simp only [List.take_succ_cons, List.take_zero, List.drop_succ_cons, List.drop_zero]; (repeat still_step); refine wpStill_nil ?_)
    change wpList _ _ _ _ _ w1.drew
    go_wp2_with fail
    have H2 := hid (H1.out.nil ((Kept.refl [] w1).drew))
    have F2 := hid (DevC.FrameOf.nil ((Kept.refl [] w1).drew) F1.out)
    refine (noted lg1 n N1.out N2.out y.ses y.num w1.drew HG1.out H2.out.log).mono ?_
    rintro e w2 ⟨⟨r, rfl⟩, k2, h2⟩
    go_wp2_with fail
    go_ret2
    exact ⟨_, rfl, K1.out.drew.trans (kgM (k2.kg HG1.out)), (H2.out.logs k2 h2).dev, DevC.FrameOf.kl k2 F2.out⟩
  all_goals (
    simp only at hr
    subst hr
    go_enter Tryz.func70, Tryz.ntmps70
    go_wp2_with fail
    refine HC.out.mono ?_
    rintro e w1 ⟨f, rfl, k1, h1, f1⟩
    have K1 := hid k1
    have H1 := hid h1
    have F1 := hid f1
    obtain ⟨p9, l9, n9, rfl⟩ := DevC.FrameOf.shape f1
    clear k1 h1 f1
    go_wp2_with fail
    go_ret2
    exact ⟨_, rfl, K1.out, H1.out, F1.out⟩)
theorem receive_call (hx : DOk x) (hG : Opn G w) (h : DAt G w b d v g o lg k c m mb s x) (u : U) (hr : URange u) (hl : Law u) (vb : Value) (hs : Bytes w vb (frame u)) :
    Calls Tryz.prog 70 #[.pointer (some ⟨b, 0, none⟩), vb] w fun e w' => Rep G w w' b m mb e (x.receive (sigB x.p) u 0) := by
  by_cases h6 : x.state = 6
  · have e : x.receive (sigB x.p) u 0 = (x, none, 70) := by unfold D.receive; rw [if_pos h6]
    rw [e]
    exact (receive_down h6 h vb).mono (fun e w' q => ⟨_, q.1, kgM q.2.1, q.2.2.dev, rfl⟩)
  · exact receive_from h h6 _ (receive_code _ _ _) hG vb (read_ok hx hG h h6 u hr hl vb hs)
theorem receive_bad (hx : DOk x) (hG : Opn G w) (h : DAt G w b d v g o lg k c m mb s x) (vb : Value) (L : List Int) (hs : Bytes w vb L) (hb : By L) (l1 : 19 ≤ L.length) (l2 : L.length ≤ 27) (hc : crc L ≠ 0) :
    Calls Tryz.prog 70 #[.pointer (some ⟨b, 0, none⟩), vb] w fun e w' => Rep G w w' b m mb e (x.receive (sigB x.p) U.zero 42) := by
  by_cases h6 : x.state = 6
  · have e : x.receive (sigB x.p) U.zero 42 = (x, none, 70) := by unfold D.receive; rw [if_pos h6]
    rw [e]
    exact (receive_down h6 h vb).mono (fun e w' q => ⟨_, q.1, kgM q.2.1, q.2.2.dev, rfl⟩)
  · have e : x.receive (sigB x.p) U.zero 42 = (x, none, 42) := by unfold D.receive; rw [if_neg h6, if_pos (by decide)]
    rw [e]
    exact receive_from h h6 _ (.inr (.inr ⟨42, rfl, by decide, by decide, by decide⟩)) hG vb ((read_bad vb L hs hb l1 l2 hc).mono (fun e w' q => ⟨_, q.1, .nil q.2, (h.nil q.2).dev, rfl⟩))
end DevC
namespace HostC
open Go Go.RowKit Gf SlC CrcW SlM Hp Sl Ow DiagC ValveC DogC Kx TM EncW ParW UnW UEnc NumW UDecW
variable {x y : H}
theorem HOk.new (p : P) (hp : POk p) : HOk (H.new p) :=
  ⟨hp, .inl rfl, DevC.z0, fun e => absurd rfl e, DevC.z0, ⟨Int.le_refl _, by have := hp.count; show (0 : Int) ≤ p.count; omega⟩, fun _ => by have := hp.count; show (0 : Int) < p.count; omega, DevC.z4, rfl, by have := hp.out; show ((List.replicate p.out.toNat (0 : Int)).length : Int) = p.out; simp; omega, fun z hz => by (change z ∈ List.replicate p.out.toNat (0 : Int) at hz); obtain ⟨_, rfl⟩ := List.mem_replicate.1 hz; omega⟩
theorem HOk.since (h : HOk x) (n : Int) : HOk { x with since := n } := ⟨h.p, h.st, h.ses, h.live, h.num, h.sent, h.more, h.missed, h.vn, h.len, h.byt⟩
theorem HOk.tick (h : HOk x) (n : Int) : HOk (x.tick n) := by
  unfold H.tick
  split
  · exact (h.since _).trip 100
  · exact h.since _
theorem HOk.ack (h : HOk x) : HOk x.ack.1 := ⟨h.p, h.st, h.ses, h.live, h.num, h.sent, h.more, h.missed, (DevC.ack_n _).trans h.vn, h.len, h.byt⟩
theorem HOk.write (h : HOk x) (l : List Int) (hb : Bool) (hl : By l) : HOk (x.write l hb).1 := by
  unfold H.write
  split
  · exact h
  · rename_i hh; exact ⟨h.p, h.st, h.ses, h.live, h.num, h.sent, h.more, h.missed, h.vn, by simpa using hh, hl⟩
theorem HOk.compose (h : HOk x) (h5 : x.state ≠ 5) : HOk (x.compose (sigB x.p)).1 := by
  unfold H.compose
  split
  · exact h
  split
  · exact h
  split
  · exact h
  rename_i n1 n2 n3
  have hm := h.more h5
  have ew : IntKind.u32.wrap (x.sent + 1) = x.sent + 1 := by have h1 := h.sent; have h2 := h.p.count; rw [IntKind.wrap_u32]; omega
  have hs := h.sent
  split
  · rename_i he
    rw [ew] at he
    refine ⟨h.p, .inr (.inr (.inr (.inr rfl))), h.ses, fun _ => h.live n1, h.num, ⟨?_, ?_⟩, fun e => absurd rfl e, h.missed, ((run_n _ _).trans (trip_n _ _)).trans h.vn, h.len, h.byt⟩
    · show 0 ≤ IntKind.u32.wrap (x.sent + 1); omega
    · show IntKind.u32.wrap (x.sent + 1) ≤ x.p.count; omega
  · rename_i he
    rw [ew] at he
    refine ⟨h.p, h.st, h.ses, h.live, h.num, ⟨?_, ?_⟩, fun _ => ?_, h.missed, h.vn, h.len, h.byt⟩
    · show 0 ≤ IntKind.u32.wrap (x.sent + 1); omega
    · show IntKind.u32.wrap (x.sent + 1) ≤ x.p.count; omega
    · show IntKind.u32.wrap (x.sent + 1) < x.p.count; omega
theorem HOk.waits (h : HOk x) (q : Bool) : HOk { x with waits := q } := ⟨h.p, h.st, h.ses, h.live, h.num, h.sent, h.more, h.missed, h.vn, h.len, h.byt⟩
theorem HOk.send (h : HOk x) : HOk (x.send (sigB x.p)).1 := by
  unfold H.send
  split
  · exact h
  · rename_i h5
    have := h.lost.compose (lost_state h5)
    rw [lost_p] at this
    exact this.waits true
theorem HOk.offered (h : HOk x) (h1 : x.state = 1) (sig : List Int) (u : U) (hu : 0 ≤ u.ses ∧ u.ses < 4294967296) : HOk (x.offered sig u).1 := by
  unfold H.offered
  split
  · exact h
  · rename_i hh
    have hs := h.ses
    have hm := h.more (by omega)
    split
    · exact ⟨h.p, .inr (.inl rfl), hu, fun _ => by show 0 < u.ses; omega, h.num, h.sent, fun _ => hm, DevC.z4, h.vn, h.len, h.byt⟩
    · exact h
theorem HOk.take (h : HOk x) (h1 : x.state ≠ 1) (h5 : x.state ≠ 5) (u : U) (hu : 0 ≤ u.num ∧ u.num < 4294967296) : HOk (x.take u).1 := by
  have hl := h.live h1
  have hm := h.more h5
  unfold H.take
  split
  · exact HOk.alive ⟨h.p, .inr (.inr (.inl rfl)), h.ses, fun _ => hl, h.num, h.sent, fun _ => hm, h.missed, h.vn, h.len, h.byt⟩
  split
  · exact HOk.alive ⟨h.p, .inr (.inr (.inr (.inl rfl))), h.ses, fun _ => hl, h.num, h.sent, fun _ => hm, h.missed, (run_n _ _).trans h.vn, h.len, h.byt⟩
  split
  · exact ⟨h.p, h.st, h.ses, fun _ => hl, hu, h.sent, fun _ => hm, DevC.z4, ((DevC.take_n _ _).trans (DevC.holds_n _ _)).trans h.vn, h.len, h.byt⟩
  split
  · exact ⟨h.p, .inr (.inr (.inr (.inr rfl))), h.ses, fun _ => hl, hu, h.sent, fun e => absurd rfl e, DevC.z4, ((run_n _ _).trans (trip_n _ _)).trans h.vn, h.len, h.byt⟩
  · exact h
theorem HOk.receive (h : HOk x) (sig : List Int) (u : U) (e : Int) (hu : URange u) : HOk (x.receive sig u e).1 := by
  unfold H.receive
  split
  · exact h
  split
  · exact h
  split
  · exact h
  split
  · rename_i h1; exact h.offered h1 sig u hu.ses
  split
  · exact h
  · rename_i h1 h5
    exact h.take h1 (fun e => h5 (.inr e)) u hu.num
end HostC
namespace Bu
open Go Gf
def shr (_ : IntKind) (x : Int) (n : Int) : Int := x / 2 ^ n.toNat
def rd (l : List Int) (i : Int) : Int := l.getD i.toNat 0
def len (a : Nat) : Nat := if a = 0 then 0 else a.log2 + 1
theorem len_iff {a n : Nat} : len a = n + 1 ↔ 2 ^ n ≤ a ∧ a < 2 ^ (n + 1) := by
  unfold len
  by_cases h : a = 0
  · subst h
    have := Nat.two_pow_pos n
    simp
  · rw [if_neg h]
    have h1 := Nat.log2_self_le h
    have h2 := Nat.lt_log2_self (n := a)
    constructor
    · intro e
      have : a.log2 = n := by omega
      subst this; exact ⟨h1, h2⟩
    · intro ⟨u, v⟩
      have e1 : a.log2 < n + 1 := (Nat.log2_lt h).2 v
      have e2 : n ≤ a.log2 := (Nat.le_log2 h).2 u
      omega
theorem len_pos {a : Nat} (h : a ≠ 0) : ∃ n, len a = n + 1 := ⟨a.log2, by simp [len, h]⟩
theorem len_le {a n : Nat} (h : a < 2 ^ n) : len a ≤ n := by
  by_cases z : a = 0
  · subst z; simp [len]
  · obtain ⟨m, hm⟩ := len_pos z
    rw [hm]
    have := (len_iff.1 hm).1
    apply Nat.lt_of_not_le
    intro c
    have := Nat.pow_le_pow_right (n := 2) (by omega) c
    have := Nat.pow_le_pow_right (n := 2) (by omega) (show n ≤ m + 1 - 1 from by omega)
    rw [Nat.add_sub_cancel] at this
    omega
theorem len_shift {a s : Nat} (h : a / 2 ^ s ≠ 0) : len a = s + len (a / 2 ^ s) := by
  obtain ⟨n, hn⟩ := len_pos h
  rw [hn]
  obtain ⟨u, v⟩ := len_iff.1 hn
  have hp := Nat.two_pow_pos s
  show len a = (s + n) + 1
  rw [len_iff, Nat.pow_add, show s + n + 1 = s + (n + 1) from rfl, Nat.pow_add 2 s]
  constructor
  · calc 2 ^ s * 2 ^ n ≤ 2 ^ s * (a / 2 ^ s) := Nat.mul_le_mul_left _ u
      _ ≤ a := Nat.mul_div_le _ _
  · rw [Nat.mul_comm]; exact (Nat.div_lt_iff_lt_mul hp).1 v
theorem halves (b i : Nat) : b / 2 ^ i % 2 = (b.testBit i).toNat ∧ b / 2 ^ i / 2 = b / 2 ^ (i + 1) := by
  constructor
  · rw [Nat.testBit_eq_decide_div_mod_eq]
    rcases Nat.mod_two_eq_zero_or_one (b / 2 ^ i) with h | h <;> simp [h]
  · rw [Nat.pow_succ, Nat.div_div_eq_div_mul]
theorem or_new {x s : Nat} (h : x % 2 ^ (s + 1) = 0) : x ||| 2 ^ s = x + 2 ^ s ∧ (x + 2 ^ s) % 2 ^ s = 0 := by
  have e : x = 2 ^ (s + 1) * (x / 2 ^ (s + 1)) := by have := Nat.div_add_mod x (2 ^ (s + 1)); omega
  have hlt : 2 ^ s < 2 ^ (s + 1) := Nat.pow_lt_pow_right (by omega) (by omega)
  constructor
  · rw [e, ← Nat.two_pow_add_eq_or_of_lt hlt]
  · rw [e, Nat.pow_succ, Nat.mul_assoc]; simp
def xb (x y : Int) : Int := bits .xor .u8 x y
theorem xb_nat {x y : Int} (hx : 0 ≤ x ∧ x < 256) (hy : 0 ≤ y ∧ y < 256) : xb x y = ((x.toNat ^^^ y.toNat : Nat) : Int) := by
  obtain ⟨a, rfl⟩ := Int.eq_ofNat_of_zero_le hx.1
  obtain ⟨b, rfl⟩ := Int.eq_ofNat_of_zero_le hy.1
  exact u8_xor_nat a b (by omega) (by omega)
theorem xb_byte {x y : Int} (hx : 0 ≤ x ∧ x < 256) (hy : 0 ≤ y ∧ y < 256) : 0 ≤ xb x y ∧ xb x y < 256 := by
  rw [xb_nat hx hy]
  have : x.toNat ^^^ y.toNat < 2 ^ 8 := Nat.xor_lt_two_pow (by omega) (by omega)
  omega
def xl (a b : List Int) : List Int := List.zipWith xb a b
theorem xl_length (a b : List Int) (h : a.length = b.length) : (xl a b).length = a.length := by simp [xl, h]
theorem xl_by : ∀ {a b : List Int}, By a → By b → By (xl a b) := by
  intro a
  induction a with
  | nil => intro b _ _ x hx; simp [xl] at hx
  | cons c a ih =>
    intro b ha hb
    cases b with
    | nil => intro x hx; simp [xl] at hx
    | cons d b =>
      intro x hx
      rcases List.mem_cons.1 hx with rfl | hx
      · exact xb_byte ha.head hb.head
      · exact ih ha.tail hb.tail x hx
def orAt (l : List Int) (k : Nat) : List Int := l.set (k / 8) (bits .or .u8 (rd l ((k / 8 : Nat) : Int)) (shr .u8 128 ((k % 8 : Nat) : Int)))
theorem orAt_length (l : List Int) (k : Nat) : (orAt l k).length = l.length := by unfold orAt; rw [List.length_set]
def mkl (w s at' : Nat) : Nat → Nat → List Int → List Int
  | 0, _, l => l
  | m + 1, i, l => mkl w s at' m (i + 1) (if w.testBit (s - 1 - i) then orAt l (at' + i) else l)
theorem mkl_length (w s at' : Nat) : ∀ m i l, (mkl w s at' m i l).length = l.length := by
  intro m
  induction m with
  | zero => intro i l; rfl
  | succ m ih => intro i l; show (mkl w s at' m (i + 1) _).length = _; rw [ih]; split <;> simp [orAt_length]
theorem shr128 {j : Nat} (h : j < 8) : shr .u8 128 (j : Int) = ((2 ^ (7 - j) : Nat) : Int) := by
  have h1 : ∀ j : Fin 8, shr .u8 128 ((j.val : Nat) : Int) = ((2 ^ (7 - j.val) : Nat) : Int) := by decide +kernel
  exact h1 ⟨j, h⟩
theorem odd_cancel {m : Nat} (hm : m % 2 = 1) : ∀ (e x : Nat), Cong m (x * 2 ^ e) 0 → Cong m x 0 := by
  intro e
  induction e with
  | zero => intro x h; simpa using h
  | succ e ih =>
    intro x h
    apply ih
    rw [Nat.pow_succ, ← Nat.mul_assoc] at h
    generalize x * 2 ^ e = y at h ⊢
    obtain ⟨a, ha⟩ := h
    rw [Nat.xor_zero] at ha
    have h2 : (cm m a) % 2 = a % 2 := by
      rw [cm_comm, cm_eq, if_pos hm, xor_mod2]; omega
    have ha2 : a = 2 * (a / 2) := by omega
    rw [ha2, cm_dbl] at ha
    exact ⟨a / 2, by rw [Nat.xor_zero]; omega⟩
theorem burst_seen {w e : Nat} (h0 : w ≠ 0) (hw : w < 2 ^ 32) : pm G 32 (w * 2 ^ e) ≠ 0 := by
  intro h
  have h1 := pm_cong G 32 (w * 2 ^ e)
  rw [h] at h1
  have h2 := odd_cancel (m := G) (by unfold G; omega) e w h1
  have h3 := pm_eq_of_cong G1 G2 h2
  rw [pm_small G1 G2 hw, pm_zero] at h3
  exact h0 h3
theorem lt_of_len {a n : Nat} (h : len a ≤ n) : a < 2 ^ n := by
  by_cases z : a = 0
  · subst z; exact Nat.two_pow_pos n
  · obtain ⟨m, hm⟩ := len_pos z
    have := (len_iff.1 hm).2
    exact Nat.lt_of_lt_of_le this (Nat.pow_le_pow_right (by omega) (by omega))
theorem by_zeros (n : Nat) : By (List.replicate n 0) := by intro x hx; have := List.eq_of_mem_replicate hx; omega
theorem or_shift (a b n : Nat) : (a ||| b) * 2 ^ n = a * 2 ^ n ||| b * 2 ^ n := by
  rw [Nat.mul_comm _ (2 ^ n), Nat.mul_comm a, Nat.mul_comm b]
  apply Nat.eq_of_testBit_eq
  intro j
  rw [Nat.testBit_or, Nat.testBit_two_pow_mul, Nat.testBit_two_pow_mul, Nat.testBit_two_pow_mul, Nat.testBit_or]
  cases decide (j ≥ n) <;> simp
theorem add_or {i a b : Nat} (h : b < 2 ^ i) : a * 2 ^ i + b = a * 2 ^ i ||| b := by
  rw [Nat.mul_comm a, Nat.two_pow_add_eq_or_of_lt h]
theorem or_both : ∀ (l : List Int) (k : Nat), By l → k < 8 * l.length → By (orAt l k) ∧ pol (orAt l k) = pol l ||| 2 ^ (8 * l.length - 1 - k) := by
  intro l
  induction l with
  | nil => intro k _ h; simp at h
  | cons c l ih =>
    intro k hb hk
    by_cases h : k < 8
    · have e0 : k / 8 = 0 := by omega
      have e1 : k % 8 = k := by omega
      have hc := hb.head
      obtain ⟨n, rfl⟩ : ∃ n : Nat, c = (n : Int) := ⟨c.toNat, by omega⟩
      have hp : 2 ^ (7 - k) < 256 := by
        have : 2 ^ (7 - k) < 2 ^ 8 := Nat.pow_lt_pow_right (by omega) (by omega)
        simpa using this
      have hn : n < 256 := by omega
      have hx : n ||| 2 ^ (7 - k) < 256 := Nat.or_lt_two_pow (n := 8) hn hp
      have er : rd ((n : Int) :: l) ((0 : Nat) : Int) = (n : Int) := by unfold rd; simp
      have hf : orAt ((n : Int) :: l) k = ((n ||| 2 ^ (7 - k) : Nat) : Int) :: l := by
        unfold orAt
        rw [e0, e1, er, shr128 h, u8_or_nat n _ (by omega) (by omega)]
        rfl
      rw [hf]
      constructor
      · intro x hx'
        rcases List.mem_cons.1 hx' with rfl | hx'
        · omega
        · exact hb.tail x hx'
      · rw [pol_cons, pol_cons, Int.toNat_natCast, Int.toNat_natCast, add_or (pol_lt hb.tail), add_or (pol_lt hb.tail), or_shift, ← Nat.pow_add, List.length_cons]
        rw [show 7 - k + 8 * l.length = 8 * (l.length + 1) - 1 - k from by omega, Nat.or_assoc, Nat.or_assoc, Nat.or_comm (2 ^ _)]
    · have e0 : k / 8 = (k - 8) / 8 + 1 := by omega
      have e1 : k % 8 = (k - 8) % 8 := by omega
      rw [List.length_cons] at hk
      obtain ⟨h1, h2⟩ := ih (k - 8) hb.tail (by omega)
      have er : rd (c :: l) ((((k - 8) / 8 + 1 : Nat)) : Int) = rd l (((k - 8) / 8 : Nat) : Int) := by
        unfold rd; rw [Int.toNat_natCast, Int.toNat_natCast, List.getD_cons_succ]
      have hf : orAt (c :: l) k = c :: orAt l (k - 8) := by
        unfold orAt
        rw [e0, e1, er]
        rfl
      rw [hf]
      have hxl : pol l ||| 2 ^ (8 * l.length - 1 - (k - 8)) < 2 ^ (8 * l.length) := Nat.or_lt_two_pow (pol_lt hb.tail) (Nat.pow_lt_pow_right (by omega) (by omega))
      constructor
      · intro x hx'
        rcases List.mem_cons.1 hx' with rfl | hx'
        · exact hb.head
        · exact h1 x hx'
      · rw [pol_cons, pol_cons, orAt_length, h2, add_or hxl, add_or (pol_lt hb.tail), List.length_cons, Nat.or_assoc]
        rw [show 8 * l.length - 1 - (k - 8) = 8 * (l.length + 1) - 1 - k from by omega]
def Reads (l : List Int) (x : Nat) : Prop := By l ∧ pol l = x
theorem mkl_pol (w s at' t : Nat) : ∀ (m i : Nat) (l : List Int), i + m = s → at' + s + t = 8 * l.length → Reads l ((w / 2 ^ (s - i)) * 2 ^ (t + (s - i))) → Reads (mkl w s at' m i l) (w * 2 ^ t) := by
  intro m
  induction m with
  | zero =>
    intro i l hi hl h
    obtain rfl : i = s := by omega
    rw [Nat.sub_self, Nat.pow_zero, Nat.div_one, Nat.add_zero] at h
    exact h
  | succ m ih =>
    intro i l hi hl h
    have q1 : s - 1 - i + 1 = s - i := by omega
    have q2 : s - (i + 1) = s - 1 - i := by omega
    have q3 : 8 * l.length - 1 - (at' + i) = t + (s - 1 - i) := by omega
    have q4 : t + (s - i) = t + (s - 1 - i) + 1 := by omega
    have q5 : at' + i < 8 * l.length := by omega
    have him : i + 1 + m = s := by omega
    clear hi
    show Reads (mkl w s at' m (i + 1) (if w.testBit (s - 1 - i) then orAt l (at' + i) else l)) (w * 2 ^ t)
    refine ih (i + 1) _ him (by split <;> simp [orAt_length, hl]) ?_
    have hh := halves w (s - 1 - i)
    rw [q1] at hh
    rw [q2]
    obtain ⟨hb, hp⟩ := h
    rw [q4] at hp
    have hdiv : pol l % 2 ^ (t + (s - 1 - i) + 1) = 0 := by rw [hp]; exact Nat.mul_mod_left _ _
    have hw : w / 2 ^ (s - 1 - i) = 2 * (w / 2 ^ (s - i)) + (w.testBit (s - 1 - i)).toNat := by
      have h3 := Nat.div_add_mod (w / 2 ^ (s - 1 - i)) 2
      rw [hh.1, hh.2] at h3
      exact h3.symm
    have key : (w / 2 ^ (s - 1 - i)) * 2 ^ (t + (s - 1 - i)) = pol l + (w.testBit (s - 1 - i)).toNat * 2 ^ (t + (s - 1 - i)) := by
      rw [hw, Nat.add_mul, hp, Nat.pow_succ, Nat.mul_comm 2, Nat.mul_assoc, Nat.mul_comm 2]
    by_cases c : w.testBit (s - 1 - i) = true
    · rw [if_pos c]
      obtain ⟨g1, g2⟩ := or_both l (at' + i) hb q5
      refine ⟨g1, ?_⟩
      rw [g2, q3, (or_new hdiv).1, key, c, Bool.toNat_true, Nat.one_mul]
    · rw [if_neg c]
      have c' : w.testBit (s - 1 - i) = false := by simpa using c
      refine ⟨hb, ?_⟩
      rw [key, c', Bool.toNat_false, Nat.zero_mul, Nat.add_zero]
theorem pol_zeros (n : Nat) : pol (List.replicate n 0) = 0 := by
  induction n with
  | zero => rfl
  | succ n ih => rw [List.replicate_succ, pol_cons, ih]; simp
theorem pol_xl : ∀ {a b : List Int}, By a → By b → a.length = b.length → pol (xl a b) = pol a ^^^ pol b := by
  intro a
  induction a with
  | nil => intro b _ _ h; cases b with
    | nil => rfl
    | cons y b => cases h
  | cons x a ih =>
    intro b ha hb h
    cases b with
    | nil => cases h
    | cons y b =>
      have hl : a.length = b.length := by simpa using h
      have hx := ha x (by simp)
      have hy := hb y (by simp)
      have g := ih ha.tail hb.tail hl
      have e : xl (x :: a) (y :: b) = xb x y :: xl a b := rfl
      have hxl : pol a ^^^ pol b < 2 ^ (8 * a.length) := Nat.xor_lt_two_pow (pol_lt ha.tail) (by rw [hl]; exact pol_lt hb.tail)
      have hq := xl_length a b hl
      have en : (xb x y).toNat = x.toNat ^^^ y.toNat := by rw [xb_nat hx hy, Int.toNat_natCast]
      rw [e, pol_cons, pol_cons, pol_cons, hq, g, en, add_eq_xor hxl, add_eq_xor (pol_lt ha.tail), ← hl, add_eq_xor (by rw [hl]; exact pol_lt hb.tail), xor_shift]
      ac_rfl
theorem mkl_burst {w N A : Nat} (hA : A + len w ≤ 8 * N) : By (mkl w (len w) A (len w) 0 (List.replicate N 0)) ∧ pol (mkl w (len w) A (len w) 0 (List.replicate N 0)) = w * 2 ^ (8 * N - (A + len w)) := by
  refine mkl_pol w (len w) A (8 * N - (A + len w)) (len w) 0 (List.replicate N 0) (by omega) (by simp; omega) ⟨by_zeros N, ?_⟩
  rw [pol_zeros, Nat.sub_zero, Nat.div_eq_of_lt (lt_of_len (Nat.le_refl _)), Nat.zero_mul]
def bst (n at' w : Nat) : List Int := mkl w (len w) at' (len w) 0 (List.replicate n 0)
theorem bst_length (n at' w : Nat) : (bst n at' w).length = n := by unfold bst; rw [mkl_length]; simp
theorem crc_burst {f : List Int} (hf : By f) (h0 : crc f = 0) {at' w : Nat} (hw0 : w ≠ 0) (hw : w < 2 ^ 32) (h : at' + len w ≤ 8 * f.length) : crc (xl f (bst f.length at' w)) ≠ 0 ∧ By (xl f (bst f.length at' w)) ∧ (xl f (bst f.length at' w)).length = f.length := by
  obtain ⟨r1, r2⟩ : By (bst f.length at' w) ∧ pol (bst f.length at' w) = w * 2 ^ (8 * f.length - (at' + len w)) := mkl_burst h
  have hl := bst_length f.length at' w
  refine ⟨?_, xl_by hf r1, by rw [xl_length _ _ hl.symm]⟩
  unfold crc at h0 ⊢
  rw [pol_xl hf r1 hl.symm, xor_shift, pm_xor G1 G2, h0, Nat.zero_xor, r2, Nat.mul_assoc, ← Nat.pow_add]
  exact burst_seen hw0 hw
end Bu
end Go.Proofs.YtinaliblnihpbaaGreat
