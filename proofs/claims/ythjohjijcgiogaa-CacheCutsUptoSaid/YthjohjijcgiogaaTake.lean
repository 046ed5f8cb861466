/- take: a chunk taken out. -/
import Derived.Test.YthjohjijcgiogaaPlain
import Derived.Test.YthjohjijcgiogaaCln
import Derived.Test.YthjohjijcgiogaaIdx
import Derived.Test.YthjohjijcgiogaaDel
import Derived.Test.YthjohjijcgiogaaStr
import Derived.Laws.StructEq
namespace Go.Proofs.Ythjohjijcgiogaa
open Go.RowKit

set_option maxHeartbeats 2000000 in
set_option maxRecDepth 100000 in
theorem take1_any (x : Hd) (name : ByteArray) (no : Int) (b : Nat) (w : World) (hk : Has w b #[.string name, .int .i64 no]) :
    Calls Try.prog 48 #[.agg #[.string x.name, .int .i64 x.no, .slice x.A x.n x.c], .pointer (some ⟨b, 0, none⟩)] w fun e w' => e = .returned (.bool (isK name no x.val)) ∧ Below w.heap.size w w' := by
  obtain ⟨xn, xo, xA, xN, xC, xb⟩ := x
  simp only
  have B0 := Lib.hid (below_alloc1 w (.cells #[.string xn, .int .i64 xo, .slice xA xN xC] 37))
  have hk' := (hk.alloc (.cells #[.string xn, .int .i64 xo, .slice xA xN xC] 37))
  have k0 := at_regrown (a := ⟨b, 0, none⟩) (v := .string name) (hk'.cell 0)
  have k1 := at_regrown (a := ⟨b, 1, none⟩) (v := .int .i64 no) (hk'.cell 1)
  have r0 := at_regrown (w := w.alloc (.cells #[.string xn, .int .i64 xo, .slice xA xN xC] 37)) (a := ⟨w.heap.size, 0, none⟩) (v := .string xn) (by go_simp)
  have r1 := at_regrown (w := w.alloc (.cells #[.string xn, .int .i64 xo, .slice xA xN xC] 37)) (a := ⟨w.heap.size, 1, none⟩) (v := .int .i64 xo) (by go_simp)
  have r2 := at_regrown (w := w.alloc (.cells #[.string xn, .int .i64 xo, .slice xA xN xC] 37)) (a := ⟨w.heap.size, 2, none⟩) (v := .slice xA xN xC) (by go_simp)
  clear hk hk'
  have walk : ∀ r : Bool, isK name no ⟨xn, xo, xb⟩ = r → (xn = name ∧ xo = no ∨ xn = name ∧ ¬ xo = no ∨ ¬ xn.toList = name.toList) → Calls Try.prog 48 #[.agg #[.string xn, .int .i64 xo, .slice xA xN xC], .pointer (some ⟨b, 0, none⟩)] w fun e w' => e = .returned (.bool (isK name no ⟨xn, xo, xb⟩)) ∧ Below w.heap.size w w' := by
    intro r hr hc
    rw [hr]
    rcases hc with ⟨h1, h2⟩ | ⟨h1, h2⟩ | h1
    · subst h1 h2
      have HR := Lib.hid hr
      clear hr
      go_enter Try.func48, Try.ntmps48
      go_wp2_with fail
      refine region_below (by kernel_rfl) (by kernel_rfl) ?_
      repeat (go_big_quiet_step ((go_at_call 33; exact call_regrown (fun w' _ => keyed_any _ _ _ _ _ w'))))
      refine wpQuiet_nil ?_
      intro w1 hb1
      have HB := Lib.hid hb1
      clear hb1
      go_wp2_with fail
      go_ret
      exact ⟨ret_bool (HR.out ▸ by simp [isK]), below_from HB.out B0.out (by simp)⟩
    · subst h1
      have HR := Lib.hid hr
      have H2 := Lib.hid h2
      clear hr
      go_enter Try.func48, Try.ntmps48
      go_wp2_with fail
      refine region_below (by kernel_rfl) (by kernel_rfl) ?_
      repeat (go_big_quiet_step ((go_at_call 33; exact call_regrown (fun w' _ => keyed_any _ _ _ _ _ w'))))
      refine wpQuiet_nil ?_
      intro w1 hb1
      have HB := Lib.hid hb1
      clear hb1
      go_wp2_with fail
      go_ret
      exact ⟨ret_bool (HR.out ▸ by simp [isK, H2.out]), below_from HB.out B0.out (by simp)⟩
    · have HR := Lib.hid hr
      have H1 := Lib.hid h1
      clear hr
      go_enter Try.func48, Try.ntmps48
      go_wp2_with fail
      refine region_below (by kernel_rfl) (by kernel_rfl) ?_
      repeat (go_big_quiet_step ((go_at_call 33; exact call_regrown (fun w' _ => keyed_any _ _ _ _ _ w'))))
      refine wpQuiet_nil ?_
      intro w1 hb1
      have HB := Lib.hid hb1
      clear hb1
      go_wp2_with fail
      go_ret
      exact ⟨ret_bool (HR.out ▸ by simp only [isK]; rw [eq_comm, decide_eq_false_iff_not]; rintro ⟨rfl, _⟩; exact H1.out rfl), below_from HB.out B0.out (by simp)⟩
  refine walk _ rfl ?_
  by_cases h1 : xn = name
  · by_cases h2 : xo = no
    · exact .inl ⟨h1, h2⟩
    · exact .inr (.inl ⟨h1, h2⟩)
  · exact .inr (.inr (str_ne' h1))

theorem hmf : ∀ (fn : Fn) (first cap : Array Value) (w : World), (Instr.makeFunc fn first cap).run Try.prog w = .ok (.func fn first cap) w := fun _ _ _ _ => rfl

/-- What take leaves: the chunks without the first of that key; where it stood. -/
def TakeRes (w : World) (l : List Hd) (n : Nat) (name : ByteArray) (no : Int) (e : Ending) (w' : World) : Prop :=
  ∃ A' n' c' l' r, e = .returned (.tuple #[.slice A' n' c', .int .i64 r]) ∧ Own hdK 37 w' w.heap.size A' n' c' l' ∧ Below w.heap.size w w' ∧
    ((r = -1 ∧ l' = l ∧ n' = n ∧ ∀ j (h : j < l.length), isK name no l[j].val = false) ∨
     ∃ i, ∃ hi : i < l.length, r = (i : Int) ∧ isK name no l[i].val = true ∧ (∀ j (h : j < l.length), j < i → isK name no l[j].val = false) ∧ l' = l.take i ++ l.drop (i + 1) ∧ n' = n - 1)

set_option maxHeartbeats 2000000 in
set_option maxRecDepth 100000 in
theorem take_any (cap : Int) (A : Option Addr) (n c : Nat) (l : List Hd) (name : ByteArray) (no : Int) (w : World) (hl : Hds w A n c l) (hn : n ≤ 60000) :
    Calls Try.prog 36 #[.agg #[.int .i64 cap, .slice A n c], .agg #[.string name, .int .i64 no]] w (TakeRes w l n name no) := by
  have HL := Lib.hid hl.len
  obtain ⟨W0, hW0⟩ : ∃ W0, W0 = (w.alloc (.cells #[.int .i64 cap, .slice A n c] 24)).alloc (.cells #[.string name, .int .i64 no] 57) := ⟨_, rfl⟩
  have hb0 : Below w.heap.size w W0 := by rw [hW0]; exact below_from (below_alloc1 _ _) (below_alloc1 w _) (by simp)
  have hN : Has W0 w.heap.size #[.int .i64 cap, .slice A n c] := by rw [hW0]; exact (Has.newAt w _ 24 rfl).alloc _
  have hK : Has W0 (w.heap.size + 1) #[.string name, .int .i64 no] := by rw [hW0]; exact Has.newAt _ _ 57 (by simp)
  have hIX := indexHd A n c l W0 48 #[.pointer (some ⟨w.heap.size + 1, 0, none⟩)] (fun _ W => Below W0.heap.size W0 W) (fun j => match l[j]? with | some x => isK name no x.val | none => false)
    (fun _ _ => by kernel_rfl) (Nat.le_trans hl.cap hl.max) (Below.refl _ _) (fun j W hb => (hl.below hb0).below hb) (fun j hj W hb => (take1_any l[j] name no (w.heap.size + 1) W (hK.past hb)).mono (by
      rintro e w' ⟨rfl, h2⟩
      exact ⟨by rw [List.getElem?_eq_getElem hj], below_from h2 hb hb.size⟩))
  have IX := Lib.hid hIX
  have H := Lib.hid hl
  have B0 := Lib.hid hb0
  have HN := Lib.hid hN
  clear hIX hl hb0 hN hK
  subst hW0
  have hmf := hmf
  go_enter Try.func36, Try.ntmps36
  go_wp2_with fail
  refine IX.out.mono ?_
  rintro e w1 hx
  obtain ⟨r, rfl, hF⟩ := hx
  have BB : Hid (Below ((w.alloc (.cells #[.int .i64 cap, .slice A n c] 24)).alloc (.cells #[.string name, .int .i64 no] 57)).heap.size ((w.alloc (.cells #[.int .i64 cap, .slice A n c] 24)).alloc (.cells #[.string name, .int .i64 no] 57)) w1) := by
    rcases hF with ⟨_, _, h⟩ | ⟨_, _, _, _, _, h⟩ <;> exact h
  have B1 := Lib.hid (below_from BB.out B0.out B0.out.size)
  have N1 := Lib.hid (HN.out.past BB.out)
  have c1 := N1.out.cell
  have l1 := N1.out.lt
  have FF := Lib.hid hF
  clear hF
  go_wp2_with fail
  refine (cloneHd A n c l w1 (H.out.below B1.out) (by omega)).mono ?_
  rintro e w2 hx
  obtain ⟨A', c', rfl, hO, hb2⟩ := hx
  have HO := Lib.hid hO
  have B2 := Lib.hid (below_from hb2 B1.out B1.out.size)
  have B12 := Lib.hid hb2
  have S1 := B1.out.size
  have S2 := hb2.size
  clear hO hb2 c1 l1
  rcases FF.out with ⟨rfl, hall, _⟩ | ⟨k, rfl, hkn, hpk, hbef, _⟩
  · have HA := Lib.hid hall
    clear hall FF
    go_wp2_with fail
    go_ret2
    refine ⟨A', n, c', l, -1, rfl, HO.out.base S1, B2.out, .inl ⟨rfl, rfl, rfl, fun j hj => ?_⟩⟩
    have := HA.out j (by rw [← HL.out]; exact hj)
    simpa only [List.getElem?_eq_getElem hj] using this
  · have hkl : k < l.length := by rw [HL.out]; exact hkn
    have hpk' : isK name no l[k].val = true := by simpa only [List.getElem?_eq_getElem hkl] using hpk
    have hbef' : ∀ j (h : j < l.length), j < k → isK name no l[j].val = false := fun j hj hjk => by
      have := hbef j hjk
      simpa only [List.getElem?_eq_getElem hj] using this
    have HP := Lib.hid (And.intro hpk' hbef')
    clear hpk hpk' hbef hbef' FF
    go_wp2_with fail
    refine (deleteHd w1.heap.size A' n c' k (k + 1) (l.flatMap hdK.cells) w2 HO.out.2.1 (RK.flat_one hdK l) (by omega) (by omega)).mono ?_
    rintro e w3 hx
    obtain ⟨rfl, hr, hg⟩ := hx
    have hb3 : Below w1.heap.size w2 w3 := owns_below HO.out.2.1 hg S2
    have B3 := Lib.hid (B2.out.trans (hb3.mono S1))
    have HR := Lib.hid hr
    clear hr hg hb3
    go_wp2_with fail
    go_ret2
    have e1 : k + 1 - k = 1 := by omega
    have hr := HR.out
    rw [e1, show k * 3 = k * hdK.size from rfl, show (k + 1) * 3 = (k + 1) * hdK.size from rfl, flat_take hdK.cells hdK.size hdK.len, flat_drop hdK.cells hdK.size hdK.len, ← List.flatMap_append] at hr
    refine ⟨A', n - 1, c', l.take k ++ l.drop (k + 1), k, by rw [← e1]; rfl, ⟨by rw [List.length_append, List.length_take, List.length_drop, HL.out]; omega, owns_base hr S1, fun a ha => ?_⟩, B3.out, .inr ⟨k, hkl, rfl, HP.out.1, HP.out.2, rfl, rfl⟩⟩
    refine hdK.below (H.out.each a ?_) B3.out
    rcases List.mem_append.1 ha with ha | ha
    · exact List.mem_of_mem_take ha
    · exact List.mem_of_mem_drop ha

end Go.Proofs.Ythjohjijcgiogaa
