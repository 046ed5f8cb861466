/- Where an object stands in a list that rises, or would. -/
import Derived.Test.YtnnmppnbkplamaaSrch
import Derived.Test.YtnnmppnbkplamaaStr
import Derived.Lib.Bytealg
import Derived.Laws.Externs
import Derived.Shelf.Abstract
namespace Go.Proofs.Ytnnmppnbkplamaa
open Go.RowKit Go.Shelf

/-- How two texts compare. -/
def cmpS (a b : ByteArray) : Int := Lib.compareBytes a.data.toList b.data.toList

theorem cmpstr_any (a b : ByteArray) (w : World) : Calls Try.prog 68 #[.string a, .string b] w fun e w' => e = .returned (.int .i64 (cmpS a b)) ∧ w' = w := by
  go_enter Try.func68, Try.ntmps68
  go_wp2
  rw [run_callFunc_extern Try.func70 (by kernel_rfl) (by kernel_rfl) (by kernel_rfl) (e := Extern.BytealgCompare.compare) (by kernel_rfl), Lib.run_compareString]
  simp only [Result.andThen]
  rw [Oper.upon_value]
  go_wp2
  go_ret
  exact ⟨rfl, rfl⟩
theorem compare_any (a b : ByteArray) (w : World) : Calls Try.prog 65 #[.string a, .string b] w fun e w' => e = .returned (.int .i64 (cmpS a b)) ∧ w' = w := by
  go_enter Try.func65, Try.ntmps65
  go_wp2_with (go_at_call 68; refine (cmpstr_any _ _ _).mono ?_; rintro e w' ⟨rfl, rfl⟩)
  go_ret
  exact ⟨rfl, rfl⟩
/-- An object's name. -/
theorem nameof_any (nm : ByteArray) (A : Option Addr) (n c : Nat) (w : World) : Calls Try.prog 58 #[.agg #[.string nm, .slice A n c]] w fun e w' => e = .returned (.string nm) ∧ w.alloc (.cells #[.string nm, .slice A n c] 59) = w' := by
  go_enter Try.func58, Try.ntmps58
  go_wp2
  go_ret
  exact ⟨rfl, rfl⟩
set_option maxHeartbeats 1000000 in
theorem place1_any (nm s : ByteArray) (A : Option Addr) (n c vb : Nat) (w : World) (hv : Has w vb #[.func (.func 58) #[] #[]]) :
    Calls Try.prog 64 #[.agg #[.string nm, .slice A n c], .string s, .pointer (some ⟨vb, 0, none⟩)] w fun e w' => e = .returned (.int .i64 (cmpS nm s)) ∧ Below w.heap.size w w' := by
  have B1 := Lib.hid (below_alloc1 w (.cells #[.string nm, .slice A n c] 59))
  have V1 := Lib.hid (hv.alloc (.cells #[.string nm, .slice A n c] 59))
  have c1 := V1.out.cell
  have l1 := V1.out.lt
  have B2 := Lib.hid (B1.out.alloc B1.out.size (.cells #[.string nm, .slice A n c] 59))
  clear hv
  go_enter Try.func64, Try.ntmps64
  go_wp2_with (first | (go_at_call 58; refine (nameof_any _ _ _ _ _).mono ?_; rintro e w' ⟨rfl, rfl⟩) | (go_at_call 65; refine (compare_any _ _ _).mono ?_; rintro e w' ⟨rfl, rfl⟩))
  go_ret
  exact ⟨rfl, B2.out⟩

/-- A list of objects that rises by name. -/
def Rises (l : List Ob) : Prop := ∀ j k (hk : k < l.length) (hj : j < k), cmpS (l[j]'(Nat.lt_trans hj hk)).name l[k].name < 0

theorem cmpB_vals : ∀ (a b : List UInt8), Lib.compareBytes a b = -1 ∨ Lib.compareBytes a b = 0 ∨ Lib.compareBytes a b = 1
  | [], [] => .inr (.inl rfl)
  | [], _ :: _ => .inl rfl
  | _ :: _, [] => .inr (.inr rfl)
  | a :: xs, b :: ys => by
    unfold Lib.compareBytes
    split
    · exact .inl rfl
    · split
      · exact .inr (.inr rfl)
      · exact cmpB_vals xs ys
theorem cmpB_eq : ∀ (a b : List UInt8), Lib.compareBytes a b = 0 ↔ a = b
  | [], [] => by simp [Lib.compareBytes]
  | [], _ :: _ => by simp [Lib.compareBytes]
  | _ :: _, [] => by simp [Lib.compareBytes]
  | a :: xs, b :: ys => by
    unfold Lib.compareBytes
    split
    · rename_i h
      refine ⟨fun h => by omega, fun e => ?_⟩
      injection e with e1 _
      subst e1
      exact absurd h (UInt8.lt_irrefl _)
    · split
      · rename_i h
        refine ⟨fun h => by omega, fun e => ?_⟩
        injection e with e1 _
        subst e1
        exact absurd h (UInt8.lt_irrefl _)
      · rename_i h1 h2
        rw [cmpB_eq xs ys]
        have e : a = b := UInt8.le_antisymm (UInt8.not_lt.1 h2) (UInt8.not_lt.1 h1)
        subst e
        simp
theorem cmpB_swap : ∀ (a b : List UInt8), Lib.compareBytes b a = - Lib.compareBytes a b
  | [], [] => rfl
  | [], _ :: _ => rfl
  | _ :: _, [] => rfl
  | a :: xs, b :: ys => by
    unfold Lib.compareBytes
    by_cases h1 : a < b
    · have h2 : ¬ b < a := fun h => UInt8.lt_asymm h1 h
      simp only [if_pos h1, if_neg h2]
      rfl
    · by_cases h2 : b < a
      · simp only [if_neg h1, if_pos h2]
      · simp only [if_neg h1, if_neg h2]
        exact cmpB_swap xs ys
theorem cmpB_trans : ∀ (a b c : List UInt8), Lib.compareBytes a b < 0 → Lib.compareBytes b c < 0 → Lib.compareBytes a c < 0
  | [], [], _, h, _ => absurd h (by decide)
  | [], _ :: _, [], _, h => absurd h (by simp [Lib.compareBytes])
  | [], _ :: _, _ :: _, _, _ => by simp [Lib.compareBytes]
  | _ :: _, [], _, h, _ => absurd h (by simp [Lib.compareBytes])
  | _ :: _, _ :: _, [], _, h => absurd h (by simp [Lib.compareBytes])
  | a :: xs, b :: ys, c :: zs, h1, h2 => by
    unfold Lib.compareBytes at h1 h2 ⊢
    by_cases ab : a < b
    · by_cases bc : b < c
      · rw [if_pos (UInt8.lt_trans ab bc)]; decide
      · rw [if_neg bc] at h2
        by_cases cb : c < b
        · rw [if_pos cb] at h2; exact absurd h2 (by decide)
        · have e : b = c := UInt8.le_antisymm (UInt8.not_lt.1 cb) (UInt8.not_lt.1 bc)
          subst e
          rw [if_pos ab]; decide
    · rw [if_neg ab] at h1
      by_cases ba : b < a
      · rw [if_pos ba] at h1; exact absurd h1 (by decide)
      · rw [if_neg ba] at h1
        have e : a = b := UInt8.le_antisymm (UInt8.not_lt.1 ba) (UInt8.not_lt.1 ab)
        subst e
        by_cases ac : a < c
        · rw [if_pos ac]; decide
        · rw [if_neg ac] at h2 ⊢
          by_cases ca : c < a
          · rw [if_pos ca] at h2; exact absurd h2 (by decide)
          · rw [if_neg ca] at h2 ⊢
            exact cmpB_trans xs ys zs h1 h2
theorem cmpS_eq {a b : ByteArray} : cmpS a b = 0 ↔ a = b := by
  unfold cmpS
  rw [cmpB_eq]
  constructor
  · intro h
    cases a; cases b
    simp at h
    rw [h]
  · intro h; rw [h]
theorem cmpS_swap (a b : ByteArray) : cmpS b a = - cmpS a b := cmpB_swap _ _
theorem cmpS_trans {a b c : ByteArray} (h : cmpS a b < 0) (k : cmpS b c < 0) : cmpS a c < 0 := cmpB_trans _ _ _ h k

/-- What 'at' answers: the place, and whether the object is there. -/
def AtR (l : List Ob) (s : ByteArray) (i : Nat) (b : Bool) : Prop := Srch (fun x => cmpS x.name s) l i b
set_option maxHeartbeats 2000000 in
theorem place_any (A : Option Addr) (n c : Nat) (l : List Ob) (s : ByteArray) (w : World) (hl : Obs w A n c l) (hn : n ≤ 60000) (hr : Rises l) :
    Calls Try.prog 57 #[.slice A n c, .string s, .func (.func 58) #[] #[]] w fun e w' => ∃ (i : Nat) (b : Bool), e = .returned (.tuple #[.int .i64 i, .bool b]) ∧ AtR l s i b ∧ Below w.heap.size w w' := by
  have B0 := Lib.hid (below_alloc1 w (.cells #[.func (.func 58) #[] #[]] 80))
  have V0 := Lib.hid (Has.newAt w #[.func (.func 58) #[] #[]] 80 (g := w.heap.size) rfl)
  have SR := Lib.hid (searchOb A n c l s (w.alloc (.cells #[.func (.func 58) #[] #[]] 80)) 64 #[.pointer (some ⟨w.heap.size, 0, none⟩)] (fun x => cmpS x.name s) (hl.alloc _) (by omega) (enters_of Try.func64 (by kernel_rfl) rfl)
    (fun j k hk hj h => cmpS_trans (hr j k hk hj) h) (fun x _ W hW => place1_any x.name s x.A x.n x.c w.heap.size W (V0.out.past hW)))
  clear hl hr
  go_enter Try.func57, Try.ntmps57
  go_wp2_with (go_at_call 63; refine SR.out.mono ?_; rintro e w' ⟨i, b, rfl, hs, hb⟩; have HS := Lib.hid hs; have HB := Lib.hid (below_from hb B0.out B0.out.size); clear hs hb)
  go_ret2
  exact ⟨i, b, rfl, HS.out, HB.out⟩
set_option maxHeartbeats 2000000 in
theorem at_any (A : Option Addr) (n c : Nat) (l : List Ob) (calls : Int) (A' : Option Addr) (n' c' : Nat) (ft : Int) (g : Nat) (s : ByteArray) (w : World) (hg : Has w g #[.slice A n c, .int .i64 calls, .slice A' n' c', .int .i64 ft]) (hl : Obs w A n c l) (hn : n ≤ 60000) (hr : Rises l) :
    Calls Try.prog 31 #[.pointer (some ⟨g, 0, none⟩), .string s] w fun e w' => ∃ (i : Nat) (b : Bool), e = .returned (.tuple #[.int .i64 i, .bool b]) ∧ AtR l s i b ∧ Below w.heap.size w w' := by
  have PL := Lib.hid (place_any A n c l s w hl hn hr)
  have c1 := hg.cell
  have l1 := hg.lt
  clear hl hr
  go_enter Try.func31, Try.ntmps31
  go_wp2_with (go_at_call 57; refine PL.out.mono ?_; rintro e w' ⟨i, b, rfl, hs, hb⟩; have HS := Lib.hid hs; have HB := Lib.hid hb; clear hs hb)
  go_ret2
  exact ⟨i, b, rfl, HS.out, HB.out⟩

end Go.Proofs.Ytnnmppnbkplamaa
