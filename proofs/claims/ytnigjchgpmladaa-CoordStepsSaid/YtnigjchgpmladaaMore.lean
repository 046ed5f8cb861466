/- What a transaction takes in: a partition, a group. -/
import Derived.Test.YtnigjchgpmladaaRun
import Derived.Test.YtnigjchgpmladaaWith
import Derived.Test.YtnigjchgpmladaaReg
namespace Go.Proofs.Ytnigjchgpmladaa
open Go.RowKit Go.Shelf

set_option maxRecDepth 100000 in
set_option maxHeartbeats 16000000 in
theorem addmore_any (x : Tx) (tp : Tp) (g gp gt : Nat) (w : World) (hx : Has w g #[.string x.id, .int .i64 x.pid, .int .i64 x.gen, .int .i64 x.no, .int .i64 x.st, .slice x.PA x.Pn x.Pc, .slice x.GA x.Gn x.Gc, .int .i64 x.at_]) (hp : Has w gp #[.pointer (some ⟨g, 0, none⟩)]) (ht : Has w gt #[.string tp.t, .int .i64 tp.p, .int .i64 tp.h]) (hi : Tx.In w x) (ho : x.Off g) (hng : gp ≠ g) (hu : Up ordT x.P) (hn : x.P.length ≤ 60000) (hw : tp.wf) :
    Calls Try.prog 64 #[.pointer (some ⟨gp, 0, none⟩), .pointer (some ⟨gt, 0, none⟩)] w fun e w' => MoreRes w g x.st (decide ((insC ordT tp x.P).length ≤ 288)) { x.val with P := insC ordT tp x.P } e w' := by
  have WT := Lib.hid (fun W (h : Below w.heap.size w W) => withT_any x.PA x.Pn x.Pc x.P tp W (hi.p.below h) hu (by rw [← hi.p.len]; exact hn) hw)
  have XX := Lib.hid hx
  have PP := Lib.hid hp
  have TT := Lib.hid ht
  have XI := Lib.hid hi
  have XO := Lib.hid ho
  have NG := Lib.hid hng
  have c1 := hx.cell
  have c2 := hp.cell
  have c3 := ht.cell
  have l1 := hx.lt
  have l2 := hp.lt
  have l3 := ht.lt
  have D1 := Lib.hid (show Below w.heap.size w w.drew from (Below.refl _ w).drew)
  clear hx hp ht hi ho hu hn hw hng
  go_enter Try.func64, Try.ntmps64
  go_wp2_with fail
  clear c1 c2 c3 l1 l2 l3
  refine region_tr (fun w' => w'.cell? ⟨gp, 0, none⟩ = some (.pointer (some ⟨g, 0, none⟩)) ∧ w'.cell? ⟨g, 5, none⟩ = some (.slice x.PA x.Pn x.Pc) ∧ w'.cell? ⟨gt, 0, none⟩ = some (.string tp.t) ∧ w'.cell? ⟨gt, 1, none⟩ = some (.int .i64 tp.p) ∧ w'.cell? ⟨gt, 2, none⟩ = some (.int .i64 tp.h)) 9 (.take 0 (.take 1 (.take 2 (.take 3 (.take 4 (.take 5 (.op 6 (.take 7 (.take 8 .tail))))))))) (by kernel_rfl) (by kernel_rfl) ⟨(PP.out.past D1.out).cell 0, (XX.out.past D1.out).cell 5, (TT.out.past D1.out).cell 0, (TT.out.past D1.out).cell 1, (TT.out.past D1.out).cell 2⟩ (fun hHeld => ?_)
  iterate 6
    refine tr_take (v := ?_) (by simp only [List.getElem?_toArray, List.getElem?_cons_succ, List.getElem?_cons_zero]; rfl) (Or.inl ⟨by rfl, ?_⟩) ?_
    rotate_left 1
    · intro w hSw
      try dsimp only at hSw
      go_simp
      try with_reducible rfl
    try simp only [Act.put, List.setIfInBounds_toArray, List.set_cons_zero, List.set_cons_succ]
  refine tr_op (by simp only [List.getElem?_toArray, List.getElem?_cons_succ, List.getElem?_cons_zero]; rfl) (fun K hK => ?_)
  go_wp2_with (go_at_call 65; refine (WT.out _ D1.out).mono ?_; rintro e w2 ⟨A2, n2, c2, rfl, hS, hp, hb2⟩)
  clear hHeld
  have B2 := Lib.hid (below_from hb2 D1.out D1.out.size)
  have HS := Lib.hid hS
  have HP := Lib.hid hp
  clear hS hp
  refine hK.out _ _ ⟨(PP.out.past B2.out).cell 0, (XX.out.past B2.out).cell 5, (TT.out.past B2.out).cell 0, (TT.out.past B2.out).cell 1, (TT.out.past B2.out).cell 2⟩ (fun hHeld => ?_)
  clear hK K
  try simp only [Act.put, List.setIfInBounds_toArray, List.set_cons_zero, List.set_cons_succ]
  iterate 2
    refine tr_take (v := ?_) (by simp only [List.getElem?_toArray, List.getElem?_cons_succ, List.getElem?_cons_zero]; rfl) (Or.inl ⟨by rfl, ?_⟩) ?_
    rotate_left 1
    · intro w hSw
      try dsimp only at hSw
      go_simp
      try with_reducible rfl
    try simp only [Act.put, List.setIfInBounds_toArray, List.set_cons_zero, List.set_cons_succ]
  refine tr_tail rfl ?_
  clear hHeld
  have x2c := (XX.out.past B2.out).cell
  have x2l := (XX.out.past B2.out).lt
  have x2f := (XX.out.past B2.out).free
  go_upto_region 2 with (fail)
  obtain ⟨y, hy⟩ : ∃ y : Tx, y = { x with PA := A2, Pn := n2, Pc := c2, P := insC ordT tp x.P } := ⟨_, rfl⟩
  have G := setCells_grown g [.slice A2 n2 c2] 5 w2
  obtain ⟨w3, hw3⟩ : ∃ w3, w3 = w2.setCells g 5 [.slice A2 n2 c2] := ⟨_, rfl⟩
  rw [← hw3] at G
  have G3 := Lib.hid (show w.grownBy w3 (some g) from grown_trans (grown_of_below B2.out _) G)
  have Y3 := Lib.hid (show Has w3 g #[.string y.id, .int .i64 y.pid, .int .i64 y.gen, .int .i64 y.no, .int .i64 y.st, .slice y.PA y.Pn y.Pc, .slice y.GA y.Gn y.Gc, .int .i64 y.at_] from by
    have := (XX.out.past B2.out).setAt 5 (.slice A2 n2 c2) (by simp)
    rw [hw3, hy]
    simpa [World.setCells] using this)
  have OF := Lib.hid (show y.Off g from by
    rw [hy]
    refine ⟨fun hne b off e => ?_, XO.out.2⟩
    rcases HP.out with ⟨e1, e2, e3, e4⟩ | h
    · exact XO.out.1 (by rw [← e4]; exact hne) b off (by rw [← e1]; exact e)
    · have h1 := h b off e
      have h2 := XX.out.lt
      have h3 : w.drew.heap.size = w.heap.size := rfl
      omega)
  have I3 := Lib.hid (show Tx.In w3 y from by
    have i2 : Tx.In w2 y := by
      rw [hy]
      exact ⟨XI.out.id, HS.out, XI.out.g.below B2.out⟩
    exact i2.off OF.out G)
  have P3 := Lib.hid (show Has w3 gp #[.pointer (some ⟨g, 0, none⟩)] from (PP.out.past B2.out).grown G NG.out)
  have YV := Lib.hid (show y.val = { x.val with P := insC ordT tp x.P } from by rw [hy]; rfl)
  have LN := Lib.hid (show y.Pn = (insC ordT tp x.P).length from by rw [hy]; exact HS.out.len.symm)
  have YS := Lib.hid (show y.st = x.st from by rw [hy])
  rw [show w2.setCell ⟨g, 5, none⟩ (.slice A2 n2 c2) = w3 from hw3.symm]
  clear hw3 G hy x2c x2l x2f
  have y3c := Y3.out.cell
  have y3l := Y3.out.lt
  have p3c := P3.out.cell
  have p3l := P3.out.lt
  have ny := I3.out.p.cap
  go_wp2_with fail
  go_ret
  refine ⟨y, ?_, Y3.out, I3.out, YV.out, OF.out, YS.out, G3.out⟩
  refine ret_bool ?_
  rw [← LN.out, decide_eq_decide]
  omega

set_option maxRecDepth 100000 in
set_option maxHeartbeats 16000000 in
theorem sendmore_any (x : Tx) (tp : ByteArray) (g gp gt : Nat) (w : World) (hx : Has w g #[.string x.id, .int .i64 x.pid, .int .i64 x.gen, .int .i64 x.no, .int .i64 x.st, .slice x.PA x.Pn x.Pc, .slice x.GA x.Gn x.Gc, .int .i64 x.at_]) (hp : Has w gp #[.pointer (some ⟨g, 0, none⟩)]) (ht : Has w gt #[.string tp]) (hi : Tx.In w x) (ho : x.Off g) (hng : gp ≠ g) (hu : Up cmpS x.G) (hn : x.G.length ≤ 60000) (hw : tp.size ≤ maxLen) :
    Calls Try.prog 72 #[.pointer (some ⟨gp, 0, none⟩), .pointer (some ⟨gt, 0, none⟩)] w fun e w' => MoreRes w g x.st (decide ((insC cmpS tp x.G).length ≤ 64)) { x.val with G := insC cmpS tp x.G } e w' := by
  have WT := Lib.hid (fun W (h : Below w.heap.size w W) => withS_any x.GA x.Gn x.Gc x.G tp W (hi.g.below h) hu (by rw [← hi.g.len]; exact hn) hw)
  have XX := Lib.hid hx
  have PP := Lib.hid hp
  have TT := Lib.hid ht
  have XI := Lib.hid hi
  have XO := Lib.hid ho
  have NG := Lib.hid hng
  have c1 := hx.cell
  have c2 := hp.cell
  have c3 := ht.cell
  have l1 := hx.lt
  have l2 := hp.lt
  have l3 := ht.lt
  have D1 := Lib.hid (show Below w.heap.size w w.drew from (Below.refl _ w).drew)
  clear hx hp ht hi ho hu hn hw hng
  go_enter Try.func72, Try.ntmps72
  go_wp2_with fail
  clear c1 c2 c3 l1 l2 l3
  refine region_tr (fun w' => w'.cell? ⟨gp, 0, none⟩ = some (.pointer (some ⟨g, 0, none⟩)) ∧ w'.cell? ⟨g, 6, none⟩ = some (.slice x.GA x.Gn x.Gc) ∧ w'.cell? ⟨gt, 0, none⟩ = some (.string tp)) 9 (.take 0 (.take 1 (.take 2 (.take 3 (.take 4 (.take 5 (.op 6 (.take 7 (.take 8 .tail))))))))) (by kernel_rfl) (by kernel_rfl) ⟨(PP.out.past D1.out).cell 0, (XX.out.past D1.out).cell 6, (TT.out.past D1.out).cell 0⟩ (fun hHeld => ?_)
  iterate 6
    refine tr_take (v := ?_) (by simp only [List.getElem?_toArray, List.getElem?_cons_succ, List.getElem?_cons_zero]; rfl) (Or.inl ⟨by rfl, ?_⟩) ?_
    rotate_left 1
    · intro w hSw
      try dsimp only at hSw
      go_simp
      try with_reducible rfl
    try simp only [Act.put, List.setIfInBounds_toArray, List.set_cons_zero, List.set_cons_succ]
  refine tr_op (by simp only [List.getElem?_toArray, List.getElem?_cons_succ, List.getElem?_cons_zero]; rfl) (fun K hK => ?_)
  go_wp2_with (go_at_call 73; refine (WT.out _ D1.out).mono ?_; rintro e w2 ⟨A2, n2, c2, rfl, hS, hp, hb2⟩)
  clear hHeld
  have B2 := Lib.hid (below_from hb2 D1.out D1.out.size)
  have HS := Lib.hid hS
  have HP := Lib.hid hp
  clear hS hp
  refine hK.out _ _ ⟨(PP.out.past B2.out).cell 0, (XX.out.past B2.out).cell 6, (TT.out.past B2.out).cell 0⟩ (fun hHeld => ?_)
  clear hK K
  try simp only [Act.put, List.setIfInBounds_toArray, List.set_cons_zero, List.set_cons_succ]
  iterate 2
    refine tr_take (v := ?_) (by simp only [List.getElem?_toArray, List.getElem?_cons_succ, List.getElem?_cons_zero]; rfl) (Or.inl ⟨by rfl, ?_⟩) ?_
    rotate_left 1
    · intro w hSw
      try dsimp only at hSw
      go_simp
      try with_reducible rfl
    try simp only [Act.put, List.setIfInBounds_toArray, List.set_cons_zero, List.set_cons_succ]
  refine tr_tail rfl ?_
  clear hHeld
  have x2c := (XX.out.past B2.out).cell
  have x2l := (XX.out.past B2.out).lt
  have x2f := (XX.out.past B2.out).free
  go_upto_region 2 with (fail)
  obtain ⟨y, hy⟩ : ∃ y : Tx, y = { x with GA := A2, Gn := n2, Gc := c2, G := insC cmpS tp x.G } := ⟨_, rfl⟩
  have G := setCells_grown g [.slice A2 n2 c2] 6 w2
  obtain ⟨w3, hw3⟩ : ∃ w3, w3 = w2.setCells g 6 [.slice A2 n2 c2] := ⟨_, rfl⟩
  rw [← hw3] at G
  have G3 := Lib.hid (show w.grownBy w3 (some g) from grown_trans (grown_of_below B2.out _) G)
  have Y3 := Lib.hid (show Has w3 g #[.string y.id, .int .i64 y.pid, .int .i64 y.gen, .int .i64 y.no, .int .i64 y.st, .slice y.PA y.Pn y.Pc, .slice y.GA y.Gn y.Gc, .int .i64 y.at_] from by
    have := (XX.out.past B2.out).setAt 6 (.slice A2 n2 c2) (by simp)
    rw [hw3, hy]
    simpa [World.setCells] using this)
  have OF := Lib.hid (show y.Off g from by
    rw [hy]
    refine ⟨XO.out.1, fun hne b off e => ?_⟩
    rcases HP.out with ⟨e1, e2, e3, e4⟩ | h
    · exact XO.out.2 (by rw [← e4]; exact hne) b off (by rw [← e1]; exact e)
    · have h1 := h b off e
      have h2 := XX.out.lt
      have h3 : w.drew.heap.size = w.heap.size := rfl
      omega)
  have I3 := Lib.hid (show Tx.In w3 y from by
    have i2 : Tx.In w2 y := by
      rw [hy]
      exact ⟨XI.out.id, XI.out.p.below B2.out, HS.out⟩
    exact i2.off OF.out G)
  have P3 := Lib.hid (show Has w3 gp #[.pointer (some ⟨g, 0, none⟩)] from (PP.out.past B2.out).grown G NG.out)
  have YV := Lib.hid (show y.val = { x.val with G := insC cmpS tp x.G } from by rw [hy]; rfl)
  have LN := Lib.hid (show y.Gn = (insC cmpS tp x.G).length from by rw [hy]; exact HS.out.len.symm)
  have YS := Lib.hid (show y.st = x.st from by rw [hy])
  rw [show w2.setCell ⟨g, 6, none⟩ (.slice A2 n2 c2) = w3 from hw3.symm]
  clear hw3 G hy x2c x2l x2f
  have y3c := Y3.out.cell
  have y3l := Y3.out.lt
  have p3c := P3.out.cell
  have p3l := P3.out.lt
  have ny := I3.out.g.cap
  go_wp2_with fail
  go_ret
  refine ⟨y, ?_, Y3.out, I3.out, YV.out, OF.out, YS.out, G3.out⟩
  refine ret_bool ?_
  rw [← LN.out, decide_eq_decide]
  omega

end Go.Proofs.Ytnigjchgpmladaa
