/- Who has a number: Find; who is due: Due. -/
import Derived.Test.YtnigjchgpmladaaPlace
import Derived.Test.YtnigjchgpmladaaRetC
import Derived.Test.YtnigjchgpmladaaRun
import Derived.Test.YtnigjchgpmladaaLbs
import Derived.Deep.DeepCutAuto
namespace Go.Proofs.Ytnigjchgpmladaa
open Go.RowKit Go.Shelf

theorem find_none {L : List Tv} {pid : Int} (h : pidAt L pid = none) : findV L pid = (noT, false) := by
  unfold pidAt at h
  rw [List.findIdx?_eq_none_iff] at h
  unfold findV
  rw [List.find?_eq_none.2 (fun x hx => by rw [h x hx]; simp)]
theorem find_some {L : List Tv} {pid : Int} {i : Nat} (h : pidAt L pid = some i) : ∃ hi : i < L.length, findV L pid = (L[i], true) := by
  unfold pidAt at h
  obtain ⟨h1, h2, h3⟩ := List.findIdx?_eq_some_iff_getElem.1 h
  refine ⟨h1, ?_⟩
  unfold findV
  rw [show L.find? (fun x => decide (x.pid = pid)) = some L[i] from List.find?_eq_some_iff_getElem.2 ⟨h2, i, h1, rfl, fun j hj => by have := h3 j hj; simpa using this⟩]
abbrev zeroX : Array Value := #[.string ⟨#[]⟩, .int .i64 0, .int .i64 0, .int .i64 0, .int .i64 0, .slice none 0 0, .slice none 0 0, .int .i64 0]
theorem FindRes.of {w w' : World} {r : Tv × Bool} {x : Tx} {b : Bool} (h1 : r = (x.val, b)) (h2 : Tx.In w' x) (h3 : Below w.heap.size w w') : FindRes w r (.returned (.tuple #[x.v, .bool b])) w' := ⟨x, by rw [h1], ⟨h2, by rw [h1]⟩, h3⟩
/-- Whom Find tells: one of the coordinator's, or nobody. -/
def FndRes (o : Tc) (w : World) (r : Tv × Bool) (e : Ending) (w' : World) : Prop := ∃ x : Tx, e = .returned (.tuple #[x.v, .bool r.2]) ∧ (x = noX ∨ x ∈ o.L) ∧ x.val = r.1 ∧ Below w.heap.size w w'
theorem FndRes.of {o : Tc} {w w' : World} {r : Tv × Bool} {x : Tx} {b : Bool} (h1 : r = (x.val, b)) (h2 : x = noX ∨ x ∈ o.L) (h3 : Below w.heap.size w w') : FndRes o w r (.returned (.tuple #[x.v, .bool b])) w' := ⟨x, by rw [h1], h2, by rw [h1], h3⟩
set_option maxRecDepth 100000 in
set_option maxHeartbeats 16000000 in
theorem find_in (o : Tc) (pid : Int) (w : World) (ho : Tc.At w o) : Calls Try.prog 15 #[o.v, .int .i64 pid] w fun e w' => FndRes o w (findV o.val.L pid) e w' := by
  obtain ⟨W0, hW0⟩ : ∃ W0, W0 = (w.alloc (.cells #[.int .i64 o.next, .slice o.A o.n o.c] 24)).alloc (.cells #[.string ⟨#[]⟩, .int .i64 0, .int .i64 0, .int .i64 0, .int .i64 0, .slice none 0 0, .slice none 0 0, .int .i64 0] 33) := ⟨_, rfl⟩
  have B0 := Lib.hid (show Below w.heap.size w W0 from by rw [hW0]; exact (below_alloc1 w _).alloc (by simp) _)
  have S0 := Lib.hid (show Has W0 w.heap.size #[.int .i64 o.next, .slice o.A o.n o.c] from by rw [hW0]; exact (Has.newAt w _ 24 rfl).alloc _)
  have R0 := Lib.hid (show Has W0 (w.heap.size + 1) #[.string ⟨#[]⟩, .int .i64 0, .int .i64 0, .int .i64 0, .int .i64 0, .slice none 0 0, .slice none 0 0, .int .i64 0] from by rw [hW0]; exact Has.newAt _ _ 33 (by simp))
  have HW := Lib.hid hW0
  have HO := Lib.hid ho
  have PL := Lib.hid (place_any o pid W0 (ho.below B0.out))
  have LN := Lib.hid ho.num
  clear ho hW0
  have s0 := S0.out.cell
  have s1 := S0.out.lt
  cases hp : pidAt o.val.L pid with
  | none =>
    have FV := Lib.hid (find_none hp)
    rw [hp] at PL
    have PL2 := Lib.hid (show Calls Try.prog 53 #[o.v, .int .i64 pid] W0 fun e w' => e = .returned (.int .i64 (-1)) ∧ Below W0.heap.size W0 w' from PL.out)
    clear hp PL
    go_enter Try.func15, Try.ntmps15
    go_upto_region 1 with (fail)
    rw [← HW.out]
    go_wp2_with (go_at_call 53; refine PL2.out.mono ?_; rintro e w1 ⟨rfl, hb⟩; have B1 := Lib.hid (below_from hb B0.out B0.out.size); have R1 := Lib.hid (R0.out.past hb); have r1c := R1.out.cell; have r1l := R1.out.lt; have r1f := R1.out.free; clear hb s0 s1)
    have G := setCells_grown (w.heap.size + 1) [.string ⟨#[]⟩, .int .i64 0, .int .i64 0, .int .i64 0, .int .i64 0, .slice none 0 0, .slice none 0 0, .int .i64 0] 0 w1
    refine bodyPost_ret (v := .tuple #[noX.v, .bool false]) (results_cell_tmp Try.results15 (g := w.heap.size + 1) rfl rfl (load33 (x := noX) (R1.out.set [.string ⟨#[]⟩, .int .i64 0, .int .i64 0, .int .i64 0, .int .i64 0, .slice none 0 0, .slice none 0 0, .int .i64 0] rfl))) rfl ?_
    exact FndRes.of FV.out (.inl rfl) (B1.out.trans (grown_below G B1.out.size (fun k hk => by injection hk with hk; omega)))
  | some i =>
    obtain ⟨hi, hv⟩ := find_some hp
    have hin : i < o.n := by rw [← LN.out]; exact hi
    obtain ⟨b, off, hl, hA, hbl, u0, u1, u2, u3, u4, u5, u6, u7⟩ := tx_at HO.out hin
    obtain ⟨x, hx⟩ : ∃ x, o.L[i] = x := ⟨_, rfl⟩
    have HX := Lib.hid (show x ∈ o.L from by rw [← hx]; exact List.getElem_mem hl)
    have FV := Lib.hid (show findV o.val.L pid = (x.val, true) from by rw [hv]; simp [Tc.val, hx])
    rw [hx] at u0 u1 u2 u3 u4 u5 u6 u7
    have q0 : (0 : Int) ≤ (i : Int) := by omega
    have q1 : (i : Int) < (o.n : Int) := by omega
    rw [hp] at PL
    have PL2 := Lib.hid (show Calls Try.prog 53 #[o.v, .int .i64 pid] W0 fun e w' => e = .returned (.int .i64 (i : Nat)) ∧ Below W0.heap.size W0 w' from PL.out)
    have HA := Lib.hid hA
    clear hp PL hx hl hv hin hi hA
    go_enter Try.func15, Try.ntmps15
    go_upto_region 1 with (fail)
    rw [← HW.out]
    go_upto_region 2 with (go_at_call 53; refine PL2.out.mono ?_; rintro e w1 ⟨rfl, hb⟩; have B1 := Lib.hid (below_from hb B0.out B0.out.size); have R1 := Lib.hid (R0.out.past hb); have S1 := Lib.hid (S0.out.past hb); clear hb s0 s1)
    have r1c := R1.out.cell
    have r1l := R1.out.lt
    have r1f := R1.out.free
    have s1c := S1.out.cell
    have s1l := S1.out.lt
    have k := B1.out
    have v0 := (k.cell (p := ⟨b, off + i * 8, none⟩) hbl).trans u0
    have v1 := (k.cell (p := ⟨b, off + i * 8 + 1, none⟩) hbl).trans u1
    have v2 := (k.cell (p := ⟨b, off + i * 8 + 2, none⟩) hbl).trans u2
    have v3 := (k.cell (p := ⟨b, off + i * 8 + 3, none⟩) hbl).trans u3
    have v4 := (k.cell (p := ⟨b, off + i * 8 + 4, none⟩) hbl).trans u4
    have v5 := (k.cell (p := ⟨b, off + i * 8 + 5, none⟩) hbl).trans u5
    have v6 := (k.cell (p := ⟨b, off + i * 8 + 6, none⟩) hbl).trans u6
    have v7 := (k.cell (p := ⟨b, off + i * 8 + 7, none⟩) hbl).trans u7
    have hb1 : b < w1.heap.size := Nat.lt_of_lt_of_le hbl k.size
    rw [HA.out] at s1c
    clear u0 u1 u2 u3 u4 u5 u6 u7 k
    go_wp2_with fail
    have G := setCells_grown (w.heap.size + 1) [.string x.id, .int .i64 x.pid, .int .i64 x.gen, .int .i64 x.no, .int .i64 x.st, .slice x.PA x.Pn x.Pc, .slice x.GA x.Gn x.Gc, .int .i64 x.at_] 0 w1
    have BB := B1.out.trans (grown_below G B1.out.size (fun k hk => by injection hk with hk; omega))
    refine bodyPost_ret (v := .tuple #[x.v, .bool true]) (results_cell_tmp Try.results15 (g := w.heap.size + 1) rfl rfl (load33 (x := x) (R1.out.set [.string x.id, .int .i64 x.pid, .int .i64 x.gen, .int .i64 x.no, .int .i64 x.st, .slice x.PA x.Pn x.Pc, .slice x.GA x.Gn x.Gc, .int .i64 x.at_] rfl))) rfl ?_
    exact FndRes.of FV.out (.inr HX.out) BB
theorem find_any (o : Tc) (pid : Int) (w : World) (ho : Tc.At w o) : Calls Try.prog 15 #[o.v, .int .i64 pid] w fun e w' => FindRes w (findV o.val.L pid) e w' := by
  refine (find_in o pid w ho).mono ?_
  rintro e w' ⟨x, h1, h2, h3, h4⟩
  refine ⟨x, h1, ⟨?_, h3⟩, h4⟩
  rcases h2 with rfl | h2
  · exact noX_in _
  · exact (show Tx.In w x from Sl.each ho x h2).past h4

set_option maxRecDepth 100000 in
set_option maxHeartbeats 16000000 in
theorem due_any (o : Tc) (w : World) (ho : Tc.At w o) (hn : o.n ≤ 50000) : Calls Try.prog 22 #[o.v] w fun e w' => LsRes w (dueV o.val.L) e w' := by
  have B0 := Lib.hid (below_alloc1 w (.cells #[.int .i64 o.next, .slice o.A o.n o.c] 24))
  have CL := Lib.hid (fun W (h : Below w.heap.size w W) => cloneX o.A o.n o.c o.L W (Sl.below ho h) (by omega))
  have HO := Lib.hid ho
  have DL := Lib.hid (fun (B : Nat) (A : Option Addr) (c : Nat) (W : World) (h : Own txK 33 W B A o.n c o.L) => deleteX B A o.n c o.L W 57 #[] (fun x => !dueB x.val) h (enters_of Try.func57 (by kernel_rfl) rfl) (fun x _ W' _ => notdue_any x W'))
  clear ho hn
  go_enter Try.func22, Try.ntmps22
  go_wp2_with (first
    | (go_at_call 48; refine (CL.out _ B0.out).mono ?_; rintro e w1 ⟨A1, c1, rfl, hO, hb⟩; have B1 := Lib.hid (below_from hb B0.out B0.out.size); have O1 := Lib.hid (hO.base B0.out.size); clear hb hO)
    | (go_at_call 56; refine (DL.out _ _ _ _ O1.out).mono ?_; rintro e w2 ⟨k, rfl, hk, ho2, hg2⟩; have HK := Lib.hid hk; have O2 := Lib.hid ho2; have G2 := Lib.hid hg2; clear hk ho2 hg2))
  go_ret
  have B2 := B1.out.trans (owns_below O1.out.2.1 G2.out B1.out.size)
  refine ⟨A1, k, c1, o.L.filter (fun x => !!dueB x.val), rfl, Own.sl (K := txK) (E := 33) (B := w.heap.size) ⟨HK.out, O2.out, fun a ha => (show Tx.In w a from Sl.each HO.out a (List.mem_filter.1 ha).1).past B2⟩, ?_, B2⟩
  unfold dueV
  show _ = (o.L.map Tx.val).filter dueB
  rw [List.filter_map]
  congr 1
  exact List.filter_congr fun x _ => by simp

end Go.Proofs.Ytnigjchgpmladaa
