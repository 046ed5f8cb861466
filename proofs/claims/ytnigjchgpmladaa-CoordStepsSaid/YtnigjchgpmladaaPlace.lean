/- Where a number stands: place. -/
import Derived.Test.YtnigjchgpmladaaRfd
import Derived.Test.YtnigjchgpmladaaLbs
import Derived.Test.YtnigjchgpmladaaRes
import Derived.Deep.DeepCutAuto
namespace Go.Proofs.Ytnigjchgpmladaa
open Go.RowKit Go.Shelf

theorem pid_found {L : List Tx} {pid : Int} {k : Nat} (hk : k < L.length) (h1 : L[k].pid = pid) (h2 : ∀ j (hj : j < L.length), j < k → L[j].pid ≠ pid) : pidAt (L.map Tx.val) pid = some k := by
  unfold pidAt
  rw [List.findIdx?_eq_some_iff_getElem]
  refine ⟨by rw [List.length_map]; exact hk, by simp [Tx.val, h1], fun j hj => ?_⟩
  simpa [Tx.val] using h2 j (by omega) hj
theorem pid_nowhere {L : List Tx} {pid : Int} (h : ∀ j (hj : j < L.length), L[j].pid ≠ pid) : pidAt (L.map Tx.val) pid = none := by
  unfold pidAt
  rw [List.findIdx?_eq_none_iff]
  intro v hv
  obtain ⟨x, hx, rfl⟩ := List.mem_map.1 hv
  obtain ⟨j, hj, rfl⟩ := List.mem_iff_getElem.1 hx
  exact decide_eq_false (h j hj)
def pidB (L : List Tx) (pid : Int) (j : Nat) : Bool := match L[j]? with | some x => decide (x.pid = pid) | none => false
theorem pidB_at {L : List Tx} {pid : Int} {j : Nat} (hj : j < L.length) : pidB L pid j = decide (L[j].pid = pid) := by unfold pidB; rw [List.getElem?_eq_getElem hj]
theorem idx_pid (o : Tc) (pid : Int) (g : Nat) (w w0 : World) (ho : Sl txK w0 o.A o.n o.c o.L) (hb : Below w0.heap.size w0 w) (hg : Has w g #[.int .i64 pid]) :
    Calls Try.prog 82 #[.slice o.A o.n o.c, .func (.func 83) #[] #[.pointer (some ⟨g, 0, none⟩)]] w fun e w' => e = .returned (.int .i64 (numOr (pidAt (o.L.map Tx.val) pid))) ∧ Below w0.heap.size w0 w' := by
  refine (indexX o.A o.n o.c o.L w 83 #[.pointer (some ⟨g, 0, none⟩)] (fun _ W => Has W g #[.int .i64 pid] ∧ Below w0.heap.size w0 W) (pidB o.L pid) (enters_of Try.func83 (by kernel_rfl) rfl) (Nat.le_trans ho.cap ho.max) ⟨hg, hb⟩ (fun _ W h => ho.below h.2) ?_).mono ?_
  · intro j hj W h
    refine (haspid_any o.L[j] pid g W h.1).mono ?_
    rintro e w' ⟨rfl, hb'⟩
    exact ⟨by rw [pidB_at hj], h.1.past hb', below_from hb' h.2 h.2.size⟩
  · rintro e w' ⟨r, rfl, hf⟩
    rcases hf with ⟨rfl, h1, h2⟩ | ⟨k, rfl, h1, h2, h3, h4⟩
    · refine ⟨?_, h2.2⟩
      rw [pid_nowhere (fun j hj => ?_)]
      · rfl
      · have := h1 j (by rw [← ho.len]; exact hj)
        rw [pidB_at hj] at this
        exact of_decide_eq_false this
    · have hk : k < o.L.length := by rw [ho.len]; exact h1
      refine ⟨?_, h4.2⟩
      rw [pid_found hk (by rw [pidB_at hk] at h2; exact of_decide_eq_true h2) (fun j hj hjk => by
        have := h3 j hjk
        rw [pidB_at hj] at this
        exact of_decide_eq_false this)]
      rfl
set_option maxRecDepth 100000 in
set_option maxHeartbeats 16000000 in
theorem place_any (o : Tc) (pid : Int) (w : World) (ho : Tc.At w o) : Calls Try.prog 53 #[o.v, .int .i64 pid] w fun e w' => e = .returned (.int .i64 (numOr (pidAt o.val.L pid))) ∧ Below w.heap.size w w' := by
  obtain ⟨W0, hW0⟩ : ∃ W0, W0 = (w.alloc (.cells #[.int .i64 o.next, .slice o.A o.n o.c] 24)).alloc (.cells #[.int .i64 pid] 3) := ⟨_, rfl⟩
  have B0 := Lib.hid (show Below w.heap.size w W0 from by rw [hW0]; exact (below_alloc1 w _).alloc (by simp) _)
  have S0 := Lib.hid (show Has W0 w.heap.size #[.int .i64 o.next, .slice o.A o.n o.c] from by rw [hW0]; exact (Has.newAt w _ 24 rfl).alloc _)
  have T0 := Lib.hid (show Has W0 (w.heap.size + 1) #[.int .i64 pid] from by rw [hW0]; exact Has.newAt _ _ 3 (by simp))
  have IX := Lib.hid (idx_pid o pid (w.heap.size + 1) W0 w ho B0.out T0.out)
  have HW := Lib.hid hW0
  obtain ⟨r, hr⟩ : ∃ r, numOr (pidAt (o.L.map Tx.val) pid) = r := ⟨_, rfl⟩
  rw [hr] at IX
  rw [show numOr (pidAt o.val.L pid) = r from hr]
  have s0 := S0.out.cell
  have s1 := S0.out.lt
  clear ho hW0 hr
  go_enter Try.func53, Try.ntmps53
  go_upto_region 1 with (fail)
  rw [← HW.out]
  go_wp2_with (go_at_call 82; refine IX.out.mono ?_; rintro e w' ⟨rfl, hb⟩; have BB := Lib.hid hb; clear hb)
  go_ret
  exact ⟨rfl, BB.out⟩

end Go.Proofs.Ytnigjchgpmladaa
