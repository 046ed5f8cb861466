/- The contracts of layer 20, each in one sentence: what is told, and an error's number beside it. -/
import Derived.Test.YthmnojlenaddeaaErrs
import Derived.Test.YthmnojlenaddeaaSet
import Derived.Test.YthmnojlenaddeaaSetErr
import Derived.Test.YthmnojlenaddeaaRefSet
namespace Go.Proofs.Ythmnojlenaddeaa
open Go.RowKit Q

theorem newE_ne {n : Nat} {rate burst now : Int} (h : newE n rate burst now ≠ 0) : newE n rate burst now = 1 := by
  rcases newE_cases n rate burst now with h' | h' <;> omega

theorem new_any (who : ByteArray) (rate burst now : Int) (w : World) :
    Calls Try.prog 12 #[.agg #[.string who, .int .i64 rate, .int .i64 burst], .int .i64 now] w fun e w' =>
      e = .returned (.tuple #[.agg #[.string (zw (newE who.size rate burst now) who), .int .i64 (z (newE who.size rate burst now) rate), .int .i64 (z (newE who.size rate burst now) burst), .int .i64 (z (newE who.size rate burst now) burst), .int .i64 (z (newE who.size rate burst now) now)], .int .i64 (newE who.size rate burst now)]) ∧ Below w.heap.size w w' := by
  by_cases h : newE who.size rate burst now = 0
  · simp only [h, z, zw, if_pos]
    exact new_ok who rate burst now w h
  · have := new_err who rate burst now w h
    rw [newE_ne h] at this ⊢
    exact this
theorem rnew_any (who : ByteArray) (rate burst now : Int) (w : World) :
    Calls Try.prog 13 #[.agg #[.string who, .int .i64 rate, .int .i64 burst], .int .i64 now] w fun e w' =>
      e = .returned (.tuple #[.agg #[.string (zw (newE who.size rate burst now) who), .int .i64 (z (newE who.size rate burst now) rate), .int .i64 (z (newE who.size rate burst now) burst), .int .i64 (z (newE who.size rate burst now) burst), .int .i64 (z (newE who.size rate burst now) now)], .int .i64 (newE who.size rate burst now)]) ∧ Below w.heap.size w w' := by
  by_cases h : newE who.size rate burst now = 0
  · simp only [h, z, zw, if_pos]
    exact rnew_ok who rate burst now w h
  · have := rnew_err who rate burst now w h
    rw [newE_ne h] at this ⊢
    exact this

theorem fill_any (who : ByteArray) (rate burst level at_ now : Int) (w : World) :
    Calls Try.prog 18 #[.agg #[.string who, .int .i64 rate, .int .i64 burst, .int .i64 level, .int .i64 at_], .int .i64 now] w fun e w' =>
      e = .returned (.tuple #[.agg #[.string (zw (fillE who.size rate burst level at_ now) who), .int .i64 (z (fillE who.size rate burst level at_ now) rate), .int .i64 (z (fillE who.size rate burst level at_ now) burst),
        .int .i64 (z (fillE who.size rate burst level at_ now) (fillL rate burst level at_ now)), .int .i64 (z (fillE who.size rate burst level at_ now) now)], .int .i64 (fillE who.size rate burst level at_ now)]) ∧ Below w.heap.size w w' := by
  by_cases h : fillE who.size rate burst level at_ now = 0
  · simp only [h, z, zw, if_pos]
    exact fill_ok who rate burst level at_ now w h
  · have := fill_err who rate burst level at_ now w h
    simp only [z, zw, if_neg h]
    exact this
theorem rfill_any (who : ByteArray) (rate burst level at_ now : Int) (w : World) :
    Calls Try.prog 19 #[.agg #[.string who, .int .i64 rate, .int .i64 burst, .int .i64 level, .int .i64 at_], .int .i64 now] w fun e w' =>
      e = .returned (.tuple #[.agg #[.string (zw (fillE who.size rate burst level at_ now) who), .int .i64 (z (fillE who.size rate burst level at_ now) rate), .int .i64 (z (fillE who.size rate burst level at_ now) burst),
        .int .i64 (z (fillE who.size rate burst level at_ now) (fillL rate burst level at_ now)), .int .i64 (z (fillE who.size rate burst level at_ now) now)], .int .i64 (fillE who.size rate burst level at_ now)]) ∧ Below w.heap.size w w' := by
  by_cases h : fillE who.size rate burst level at_ now = 0
  · simp only [h, z, zw, if_pos]
    rcases fillE_cases who.size rate burst level at_ now with ⟨h', e1⟩ | ⟨h', h1, e1⟩ | ⟨h', h1, h2, e1⟩ | ⟨h', h1, h2, e1⟩
    · omega
    · omega
    · omega
    · exact rfill_ok who rate burst level at_ now w h' h1 h2
  · have := rfill_err who rate burst level at_ now w h
    simp only [z, zw, if_neg h]
    exact this

theorem take_any (who : ByteArray) (rate burst level at_ now m : Int) (w : World) :
    Calls Try.prog 20 #[.agg #[.string who, .int .i64 rate, .int .i64 burst, .int .i64 level, .int .i64 at_], .int .i64 now, .int .i64 m] w fun e w' =>
      e = .returned (.tuple #[.agg #[.string (zw (takeE who.size rate burst level at_ now m) who), .int .i64 (z (takeE who.size rate burst level at_ now m) rate), .int .i64 (z (takeE who.size rate burst level at_ now m) burst),
        .int .i64 (z (takeE who.size rate burst level at_ now m) (takeL rate burst level at_ now m)), .int .i64 (z (takeE who.size rate burst level at_ now m) now)],
        .int .i64 (z (takeE who.size rate burst level at_ now m) (waitOf rate (takeL rate burst level at_ now m))), .int .i64 (takeE who.size rate burst level at_ now m)]) ∧ Below w.heap.size w w' := by
  by_cases h : takeE who.size rate burst level at_ now m = 0
  · simp only [h, z, zw, if_pos]
    rcases takeE_cases who.size rate burst level at_ now m with ⟨h', e1⟩ | ⟨h', h1, e1⟩ | ⟨h', h1, h2, h3, e1⟩ | ⟨h', h1, h2, h3, h4, e1⟩ | ⟨h', h1, h2, h3, h4, h5, e1⟩ | ⟨h', h1, h2, h3, h4, h5, e1⟩
    · omega
    · omega
    · omega
    · omega
    · omega
    · exact take_in who rate burst level at_ now m w h' h1 h2 h3 h4 h5
  · have := take_err who rate burst level at_ now m w h
    simp only [z, zw, if_neg h]
    exact this
theorem rtake_any (who : ByteArray) (rate burst level at_ now m : Int) (w : World) :
    Calls Try.prog 21 #[.agg #[.string who, .int .i64 rate, .int .i64 burst, .int .i64 level, .int .i64 at_], .int .i64 now, .int .i64 m] w fun e w' =>
      e = .returned (.tuple #[.agg #[.string (zw (takeE who.size rate burst level at_ now m) who), .int .i64 (z (takeE who.size rate burst level at_ now m) rate), .int .i64 (z (takeE who.size rate burst level at_ now m) burst),
        .int .i64 (z (takeE who.size rate burst level at_ now m) (takeL rate burst level at_ now m)), .int .i64 (z (takeE who.size rate burst level at_ now m) now)],
        .int .i64 (z (takeE who.size rate burst level at_ now m) (waitOf rate (takeL rate burst level at_ now m))), .int .i64 (takeE who.size rate burst level at_ now m)]) ∧ Below w.heap.size w w' := by
  by_cases h : takeE who.size rate burst level at_ now m = 0
  · simp only [h, z, zw, if_pos]
    rcases takeE_cases who.size rate burst level at_ now m with ⟨h', e1⟩ | ⟨h', h1, e1⟩ | ⟨h', h1, h2, h3, e1⟩ | ⟨h', h1, h2, h3, h4, e1⟩ | ⟨h', h1, h2, h3, h4, h5, e1⟩ | ⟨h', h1, h2, h3, h4, h5, e1⟩
    · omega
    · omega
    · omega
    · omega
    · omega
    · exact rtake_ok who rate burst level at_ now m w h' h1 h2 h3 h4 h5
  · have := rtake_err who rate burst level at_ now m w h
    simp only [z, zw, if_neg h]
    exact this

/-- What Set tells an error of. -/
def setK (who who' : ByteArray) (rate burst level at_ rate' burst' now : Int) : Int := setE who.size (who'.toList == who.toList) rate burst level at_ who'.size rate' burst' now

theorem set_same {a b : ByteArray} (h : (a.toList == b.toList) = true) : a = b := by
  have h : a.toList = b.toList := by simpa using h
  rw [ByteArray.toList_eq, ByteArray.toList_eq] at h
  cases a; cases b
  simp at h
  rw [h]

theorem set_any (who who' : ByteArray) (rate burst level at_ rate' burst' now : Int) (w : World) :
    Calls Try.prog 14 #[.agg #[.string who, .int .i64 rate, .int .i64 burst, .int .i64 level, .int .i64 at_], .agg #[.string who', .int .i64 rate', .int .i64 burst'], .int .i64 now] w fun e w' =>
      e = .returned (.tuple #[.agg #[.string (zw (setK who who' rate burst level at_ rate' burst' now) who), .int .i64 (z (setK who who' rate burst level at_ rate' burst' now) rate'), .int .i64 (z (setK who who' rate burst level at_ rate' burst' now) burst'),
        .int .i64 (z (setK who who' rate burst level at_ rate' burst' now) (setL rate burst level at_ burst' now)), .int .i64 (z (setK who who' rate burst level at_ rate' burst' now) now)], .int .i64 (setK who who' rate burst level at_ rate' burst' now)]) ∧ Below w.heap.size w w' := by
  unfold setK
  rcases setE_cases who.size (who'.toList == who.toList) rate burst level at_ who'.size rate' burst' now with ⟨h, e1⟩ | ⟨h, h1, e1⟩ | ⟨h, h1, h2, e1⟩ | ⟨h, h1, h2, h3, e1⟩ | ⟨h, h1, h2, h3, h4, e1⟩ | ⟨h, h1, h2, h3, h4, e1⟩
  · rw [e1]
    exact set_err1 who who' rate burst level at_ rate' burst' now w h
  · rw [e1]
    exact set_err2 who who' rate burst level at_ rate' burst' now w h (by simpa using h1)
  · rw [e1]
    obtain rfl := set_same h1
    exact set_err3 who' rate burst level at_ rate' burst' now w h h2
  · rw [e1]
    obtain rfl := set_same h1
    exact set_err4 who' rate burst level at_ rate' burst' now w h h2 h3
  · rw [e1]
    obtain rfl := set_same h1
    exact set_err5 who' rate burst level at_ rate' burst' now w h h2 h3 h4
  · rw [e1]
    obtain rfl := set_same h1
    exact set_ok who' rate burst level at_ rate' burst' now w h h2 h3 h4
theorem rset_any (who who' : ByteArray) (rate burst level at_ rate' burst' now : Int) (w : World) :
    Calls Try.prog 15 #[.agg #[.string who, .int .i64 rate, .int .i64 burst, .int .i64 level, .int .i64 at_], .agg #[.string who', .int .i64 rate', .int .i64 burst'], .int .i64 now] w fun e w' =>
      e = .returned (.tuple #[.agg #[.string (zw (setK who who' rate burst level at_ rate' burst' now) who), .int .i64 (z (setK who who' rate burst level at_ rate' burst' now) rate'), .int .i64 (z (setK who who' rate burst level at_ rate' burst' now) burst'),
        .int .i64 (z (setK who who' rate burst level at_ rate' burst' now) (setL rate burst level at_ burst' now)), .int .i64 (z (setK who who' rate burst level at_ rate' burst' now) now)], .int .i64 (setK who who' rate burst level at_ rate' burst' now)]) ∧ Below w.heap.size w w' := by
  unfold setK
  rcases setE_cases who.size (who'.toList == who.toList) rate burst level at_ who'.size rate' burst' now with ⟨h, e1⟩ | ⟨h, h1, e1⟩ | ⟨h, h1, h2, e1⟩ | ⟨h, h1, h2, h3, e1⟩ | ⟨h, h1, h2, h3, h4, e1⟩ | ⟨h, h1, h2, h3, h4, e1⟩
  · rw [e1]
    exact rset_err1 who who' rate burst level at_ rate' burst' now w (.inl h)
  · rw [e1]
    cases hr : okR who'.size rate' burst'
    · exact rset_err1 who who' rate burst level at_ rate' burst' now w (.inr (.inl ⟨h, hr⟩))
    · exact rset_err1 who who' rate burst level at_ rate' burst' now w (.inr (.inr ⟨h, hr, h1⟩))
  · rw [e1]
    exact rset_err1 who who' rate burst level at_ rate' burst' now w (.inr (.inl ⟨h, h2⟩))
  · rw [e1]
    obtain rfl := set_same h1
    exact rset_fill who' rate burst level at_ rate' burst' now 1 w h h2 (by unfold fillE; rw [if_pos h, if_pos (by omega)]) (by omega)
  · rw [e1]
    obtain rfl := set_same h1
    exact rset_fill who' rate burst level at_ rate' burst' now 71 w h h2 (by unfold fillE; rw [if_pos h, if_neg (by omega), if_pos (by omega)]) (by omega)
  · rw [e1]
    obtain rfl := set_same h1
    exact rset_ok who' rate burst level at_ rate' burst' now w h h2 h3 h4

end Go.Proofs.Ythmnojlenaddeaa
