/- Append to a row of the call's own, where all cells of the row's block are of one sort: they stay so. A step of the fair net's: its kind, two ends, a number, and bytes. What a fair net keeps, step by step; of no function. What stands in memory while a fair net goes on: the net in its box, what is wanted and what has come in rows of the call's own; of no function. A slip, looked for from the first to the last; and calls whose answer is known. Of no function. NetFair's loop over the steps: its body, the frame, and what holds ahead of each round. -/
import Derived.Test.YtmlgahambecamaaInp
import Derived.Test.YtmlgahambecamaaApp
import Derived.Test.YtmlgahambecamaaAppR
import Derived.Test.YtmlgahambecamaaNt
import Derived.Test.YtmlgahambecamaaSplitP
import Derived.Test.YtmlgahambecamaaSendP
import Derived.Test.YtmlgahambecamaaBys
import Derived.Test.YtmlgahambecamaaRset
import Derived.Test.YtmlgahambecamaaLiveP
import Derived.Test.YtmlgahambecamaaLawL
namespace Go.Proofs.Ytmlgahambecamaa
open Go.RowKit

/-- All cells of the slice's block are of the sort S. -/
def QRow (S : Value → Prop) (w : World) (v : Value) : Prop := ∀ g i u, v.ownBlock = some g → w.cell? ⟨g, i, none⟩ = some u → S u
theorem QRow.nil (S : Value → Prop) (w : World) : QRow S w (.slice none 0 0) := fun g i u h => by cases h
theorem QRow.kept {S : Value → Prop} {w w' : World} {v : Value} (h : QRow S w v) (hb : ∀ g, v.ownBlock = some g → w'.heap[g]? = w.heap[g]?) : QRow S w' v := fun g i u hg hc =>
  h g i u hg ((World.cell?_of_block (a := ⟨g, i, none⟩) (hb g hg)).symm.trans hc)
theorem zero_sort {S : Value → Prop} {z : Array Value} (h : ∀ u ∈ z.toList, S u) (n : Nat) : ∀ u ∈ (Builtin.zeroCells z n).toList, S u := fun u hu => by
  unfold Builtin.zeroCells at hu
  simp only [Array.toList_map, List.mem_map, Array.mem_toList_iff, Array.mem_range] at hu
  obtain ⟨i, hi, rfl⟩ := hu
  rcases Nat.eq_zero_or_pos z.size with h0 | h0
  · rw [h0, Nat.mul_zero] at hi; omega
  · have hl : i % z.size < z.size := Nat.mod_lt _ h0
    rw [getElem!_pos z _ hl]
    exact h _ (Array.getElem_mem_toList hl)
theorem block_sort {S : Value → Prop} {w : World} {g : Nat} {cs : Array Value} (hc : ∀ i, w.cell? ⟨g, i, none⟩ = cs[i]?) (h : ∀ u ∈ cs.toList, S u) (n c : Nat) : QRow S w (.slice (some ⟨g, 0, none⟩) n c) := fun g' i u hg hu => by
  obtain rfl : g = g' := by simpa [Value.ownBlock] using hg
  rw [hc i] at hu
  obtain ⟨hl, e⟩ := Array.getElem?_eq_some_iff.1 hu
  rw [← e]
  exact h _ (Array.getElem_mem_toList hl)

theorem run_app_sort {P : Program} {S : Value → Prop} (w : World) (base : Nat) (t ty e : TypeId) (i : TypeInfo) (z : Value) (size bytes : Nat) (ht : P.underlying t = some (.slice e)) (hi : P.info? e = some i) (hz : i.zero = some z)
    (hsize : i.size = size) (hby : i.bytes = bytes) (hzs : z.cells.size = size) (hsz : 0 < size)
    (v : Value) (n : Nat) (xs : List Value) (hown : w.ownsRow base e size v n xs)
    (a : Addr) (m c : Nat) (news : List Value) (hl : news.length = m * size) (hnews : ∀ j u, news[j]? = some u → w.cell? (a.add j) = some u) (h1 : ∀ u ∈ news, u.oneCell' = true)
    (h63 : n + m ≤ maxLen) (hbytes : (n + m) * bytes ≤ 140737488355328) (hbase : base ≤ w.heap.size)
    (hq : QRow S w v) (hn : ∀ u ∈ news, S u) (hzq : ∀ u ∈ z.cells.toList, S u) :
    ∃ v' w', (Builtin.append_ #[t, t] ty #[v, .slice (some a) m c]).run P w = .ok v' w' ∧ w'.ownsRow base e size v' (n + m) (xs ++ news) ∧ w.grownBy w' v.ownBlock ∧ QRow S w' v' ∧ (v'.ownBlock = v.ownBlock ∨ v'.ownBlock = some w.heap.size) := by
  obtain ⟨v', w', hr, ho, hg, h4⟩ := run_append_own (P := P) w base t ty e i z size bytes ht hi hz hsize hby hzs hsz v n xs hown a m c news hl hnews h1 h63 hbytes hbase
  refine ⟨v', w', hr, ho, hg, ?_⟩
  subst hsize
  subst hby
  have hml : maxLen ≤ 9223372036854775807 := by decide
  rcases hown.2 with ⟨rfl, rfl⟩ | ⟨g, cap, cur, rfl, hbg, hgc, hnc, hcm, hcs, htk⟩
  · by_cases hm : m = 0
    · rw [h4.2 ⟨rfl, hm⟩]
      exact ⟨QRow.nil _ _, .inl rfl⟩
    · have hr2 := run_append_nil (P := P) w t ty e i z ht hi hz a m c news hl hnews (by omega) (by omega) (by have hb := hbytes; simp only [Nat.zero_add] at hb; omega)
      rw [hr] at hr2
      injection hr2 with e1 e2
      subst e1 e2
      refine ⟨block_sort (Has.newAt w.drew _ e (g := w.heap.size) rfl).cell (fun u hu => ?_) _ _, .inr rfl⟩
      rw [Array.toList_append] at hu
      rcases List.mem_append.1 hu with hu | hu
      · exact hn u hu
      · exact zero_sort hzq _ u hu
  · have hcur : ∀ u ∈ cur.toList, S u := fun u hu => by
      obtain ⟨k, hk, rfl⟩ := List.getElem_of_mem hu
      have hk' : k < cur.size := by simpa using hk
      refine hq g k _ rfl ?_
      simp [World.cell?, hgc]
    have htq : ∀ u ∈ xs, S u := fun u hu => hcur u (List.mem_of_mem_take (by rw [htk]; exact hu))
    by_cases hroom : n + m ≤ cap
    · have hfit : n * i.size + news.length ≤ cur.size := by rw [hl, hcs, ← Nat.add_mul]; exact Nat.mul_le_mul_right _ hroom
      have hr2 := run_append_room (P := P) w t ty e i ht hi g n cap cur hgc a m c news hl hnews h1 hroom hfit
      rw [hr] at hr2
      injection hr2 with e1 e2
      subst e1 e2
      refine ⟨block_sort (cs := (cur.toList.take (n * i.size) ++ news ++ cur.toList.drop (n * i.size + news.length)).toArray) (fun j => ?_) (fun u hu => ?_) _ _, .inl rfl⟩
      · simp only [World.cell?, setRow_heap w g cur _ e _ hgc]
        rfl
      · rcases List.mem_append.1 hu with hu | hu
        · rcases List.mem_append.1 hu with hu | hu
          · exact hcur u (List.mem_of_mem_take hu)
          · exact hn u hu
        · exact hcur u (List.mem_of_mem_drop hu)
    · have holds : ∀ j u, xs[j]? = some u → w.cell? ((⟨g, 0, none⟩ : Addr).add j) = some u := hown.cells (g := g) rfl
      have hr2 := run_append_grow (P := P) w t ty e i z ht hi hz ⟨g, 0, none⟩ n cap xs hown.1 holds a m c news hl hnews (by omega) (by omega) (growslice_fits (by omega) hbytes)
      rw [hr] at hr2
      injection hr2 with e1 e2
      subst e1 e2
      refine ⟨block_sort (Has.newAt w.drew _ e (g := w.heap.size) rfl).cell (fun u hu => ?_) _ _, .inr rfl⟩
      rw [Array.toList_append, Array.toList_append] at hu
      rcases List.mem_append.1 hu with hu | hu
      · rcases List.mem_append.1 hu with hu | hu
        · exact htq u hu
        · exact hn u hu
      · exact zero_sort hzq _ u hu

theorem wpList_sl_sort {α : Type} {K : RK α} {P : Program} {S : Value → Prop} (w : World) {ops : Array Oper} {rest : List Oper} {o : Oper} {a : Act} {Q : Exit → Act → World → Prop} (hgd : o.guard = none) (s x : Operand) (t : TypeId)
    (ho : o.op = .call { callee := .builtin .append, args := #[s, x], argTypes := #[t, t] })
    (base : Nat) (e : TypeId) (i : TypeInfo) (z : Value) (bytes : Nat) (ht : P.underlying t = some (.slice e)) (hi : P.info? e = some i) (hz : i.zero = some z)
    (hsize : i.size = K.size) (hby : i.bytes = bytes) (hzs : z.cells.size = K.size)
    (A0 : Option Addr) (n c : Nat) (l0 : List α) (hs : a.eval s = .slice A0 n c) (hown : ROwn K e w base A0 n c l0)
    (A : Option Addr) (m cm : Nat) (l : List α) (hx : a.eval x = .slice A m cm) (hsl : Sl K w A m cm l)
    (h63 : n + m ≤ maxLen) (hbytes : (n + m) * bytes ≤ 140737488355328) (hbase : base ≤ w.heap.size)
    (hq : QRow S w (.slice A0 n c)) (hk : ∀ b, ∀ u ∈ K.cells b, S u) (hzq : ∀ u ∈ z.cells.toList, S u)
    (h : ∀ A' c' w', ROwn K e w' base A' (n + m) c' (l0 ++ l) → w.grownBy w' (Value.slice A0 n c).ownBlock → QRow S w' (.slice A' (n + m) c') → ((Value.slice A' (n + m) c').ownBlock = (Value.slice A0 n c).ownBlock ∨ (Value.slice A' (n + m) c').ownBlock = some w.heap.size) → wpList P ops Q rest (a.put o.dst (.slice A' (n + m) c')) w') :
    wpList P ops Q (o :: rest) a w := by
  cases A with
  | none =>
    obtain ⟨rfl, rfl⟩ := hsl.adr rfl
    obtain rfl : l = [] := List.length_eq_zero_iff.1 hsl.len
    have hnc : n ≤ c := by
      rcases hown.2.2 with ⟨e1, h0⟩ | ⟨g, cap, cur, e1, _, _, h6, _⟩
      · omega
      · injection e1 with _ _ e3; omega
    refine wpList_plain hgd fun Kn hK => ?_
    unfold Oper.wp execOp
    simp only [ho, resolve, invoke, builtin, Sem.run_bind, Sem.run_pure, Result.andThen_ok, List.map_toArray, List.map_cons, List.map_nil, hs, hx, run_append_none w t o.type e i ht hi A0 n c hnc]
    refine hK _ _ ?_
    have := h A0 c w (by simpa using hown) ⟨rfl, rfl, rfl, Nat.le_refl _, fun _ _ _ => rfl⟩ (by simpa using hq) (.inl rfl)
    simpa using this
  | some ad =>
    refine wpList_plain hgd fun Kn hK => ?_
    obtain ⟨v', w', hr, h2, h3, h4, h5⟩ := run_app_sort (P := P) (S := S) w base t o.type e i z K.size bytes ht hi hz hsize hby hzs K.pos (.slice A0 n c) n _ hown.2 ad m cm (l.flatMap K.cells) hsl.flat_len hsl.news (RK.flat_one K l) h63 hbytes hbase hq (fun u hu => by
      obtain ⟨b, _, hb⟩ := List.mem_flatMap.1 hu
      exact hk b u hb) hzq
    unfold Oper.wp execOp
    simp only [ho, resolve, invoke, builtin, Sem.run_bind, Sem.run_pure, Result.andThen_ok, List.map_toArray, List.map_cons, List.map_nil, hs, hx, hr]
    obtain ⟨A', n2, c', rfl⟩ : ∃ A' n2 c', v' = .slice A' n2 c' := by obtain ⟨A', c', e⟩ := owns_form h2; exact ⟨A', _, c', e⟩
    have hn2 : n2 = n + m := by
      rcases h2.2 with ⟨e1, h0⟩ | ⟨g, cap, cur, e1, _, _, h6, _⟩
      · injection e1 with _ e3 _; omega
      · injection e1 with _ e3 _
    subst hn2
    exact hK _ _ (h A' c' w' ⟨by rw [List.length_append, hown.1, hsl.len], by rw [List.flatMap_append]; exact h2⟩ h3 h4 h5)

theorem wpList_app1_sort {α : Type} {K : RK α} {P : Program} {S : Value → Prop} (w : World) {ops : Array Oper} {rest : List Oper} {o : Oper} {a : Act} {Q : Exit → Act → World → Prop} (hgd : o.guard = none) (s x : Operand) (t : TypeId)
    (ho : o.op = .call { callee := .builtin .append, args := #[s, x], argTypes := #[t, t] })
    (base : Nat) (e : TypeId) (i : TypeInfo) (z : Value) (bytes : Nat) (ht : P.underlying t = some (.slice e)) (hi : P.info? e = some i) (hz : i.zero = some z)
    (hsize : i.size = K.size) (hby : i.bytes = bytes) (hzs : z.cells.size = K.size)
    (A0 : Option Addr) (n c : Nat) (l0 : List α) (hs : a.eval s = .slice A0 n c) (hown : ROwn K e w base A0 n c l0)
    (g : Nat) (hx : a.eval x = .slice (some ⟨g, 0, none⟩) 1 1) (y : α) (hg : ∀ j, j < K.size → w.cell? ⟨g, j, none⟩ = (K.cells y)[j]?)
    (h63 : n + 1 ≤ maxLen) (hbytes : (n + 1) * bytes ≤ 140737488355328) (hbase : base ≤ w.heap.size)
    (hq : QRow S w (.slice A0 n c)) (hk : ∀ b, ∀ u ∈ K.cells b, S u) (hzq : ∀ u ∈ z.cells.toList, S u)
    (h : ∀ A' c' w', ROwn K e w' base A' (n + 1) c' (l0 ++ [y]) → w.grownBy w' (Value.slice A0 n c).ownBlock → QRow S w' (.slice A' (n + 1) c') → ((Value.slice A' (n + 1) c').ownBlock = (Value.slice A0 n c).ownBlock ∨ (Value.slice A' (n + 1) c').ownBlock = some w.heap.size) → wpList P ops Q rest (a.put o.dst (.slice A' (n + 1) c')) w') :
    wpList P ops Q (o :: rest) a w := by
  refine wpList_plain hgd fun Kn hK => ?_
  obtain ⟨v', w', hr, h2, h3, h4, h5⟩ := run_app_sort (P := P) (S := S) w base t o.type e i z K.size bytes ht hi hz hsize hby hzs K.pos (.slice A0 n c) n _ hown.2 ⟨g, 0, none⟩ 1 1 (K.cells y) (by rw [K.len, Nat.one_mul]) (fun j u hu => by
    have hj : j < K.size := by have := (List.getElem?_eq_some_iff.1 hu).1; rwa [K.len] at this
    rw [Addr.add_lit, Nat.zero_add, hg j hj, hu]) (K.one y) h63 hbytes hbase hq (hk y) hzq
  unfold Oper.wp execOp
  simp only [ho, resolve, invoke, builtin, Sem.run_bind, Sem.run_pure, Result.andThen_ok, List.map_toArray, List.map_cons, List.map_nil, hs, hx, hr]
  obtain ⟨A', n2, c', rfl⟩ : ∃ A' n2 c', v' = .slice A' n2 c' := by obtain ⟨A', c', e⟩ := owns_form h2; exact ⟨A', _, c', e⟩
  have hn2 : n2 = n + 1 := by
    rcases h2.2 with ⟨e1, h0⟩ | ⟨g, cap, cur, e1, _, _, h6, _⟩
    · injection e1 with _ e3 _; omega
    · injection e1 with _ e3 _
  subst hn2
  exact hK _ _ (h A' c' w' ⟨by rw [List.length_append, hown.1]; rfl, by rw [List.flatMap_append, List.flatMap_cons, List.flatMap_nil, List.append_nil]; exact h2⟩ h3 h4 h5)

end Go.Proofs.Ytmlgahambecamaa

namespace Go.Proofs.Ytmlgahambecamaa
open Go.RowKit

structure St where
  kind : Int
  a : Int
  b : Int
  d : Int
  A : Option Addr
  n : Nat
  c : Nat
  bs : List UInt8
def St.cells (x : St) : List Value := [.int .i64 x.kind, .int .i64 x.a, .int .i64 x.b, .int .i64 x.d, .slice x.A x.n x.c]
abbrev St.v (x : St) : Value := .agg #[.int .i64 x.kind, .int .i64 x.a, .int .i64 x.b, .int .i64 x.d, .slice x.A x.n x.c]
def St.In (w : World) (x : St) : Prop := Sl u8K w x.A x.n x.c x.bs
def stK : RK St := ⟨5, by decide, St.cells, fun _ => rfl, fun _ v h => by simp [St.cells] at h; rcases h with rfl | rfl | rfl | rfl | rfl <;> rfl, St.In, fun {_ _ _} h hb => Sl.below h hb⟩
theorem st_at {w : World} {A : Option Addr} {n c k : Nat} {l : List St} (i : Sl stK w A n c l) (hk : k < n) :
    ∃ b off, ∃ hl : k < l.length, A = some ⟨b, off, none⟩ ∧ b < w.heap.size ∧ w.cell? ⟨b, off + k * 5, none⟩ = some (.int .i64 l[k].kind) ∧ w.cell? ⟨b, off + k * 5 + 1, none⟩ = some (.int .i64 l[k].a) ∧
      w.cell? ⟨b, off + k * 5 + 2, none⟩ = some (.int .i64 l[k].b) ∧ w.cell? ⟨b, off + k * 5 + 3, none⟩ = some (.int .i64 l[k].d) ∧ w.cell? ⟨b, off + k * 5 + 4, none⟩ = some (.slice l[k].A l[k].n l[k].c) := by
  obtain ⟨b, off, hl, rfl, hlt, hc⟩ := i.get hk
  exact ⟨b, off, hl, rfl, hlt, hc 0 (by decide), hc 1 (by decide), hc 2 (by decide), hc 3 (by decide), hc 4 (by decide)⟩

end Go.Proofs.Ytmlgahambecamaa

namespace Go.Proofs.Ytmlgahambecamaa
open Go.RowKit

theorem put_perm : ∀ (L : List Mv) (m : Mv), (putL L m).Perm (m :: L)
  | [], m => List.Perm.refl _
  | x :: l, m => by
    show (if aheadB x m = true then x :: putL l m else m :: x :: l).Perm _
    split
    · exact ((put_perm l m).cons x).trans (List.Perm.swap m x l)
    · exact List.Perm.refl _
theorem ahead_total {x y : Mv} (h : ¬ aheadB x y = true) : aheadB y x = true := by
  unfold aheadB at *
  simp only [Bool.or_eq_true, Bool.and_eq_true, decide_eq_true_eq] at *
  omega
theorem put_pair : ∀ {L : List Mv} (m : Mv), L.Pairwise (fun x y => aheadB x y = true) → (putL L m).Pairwise (fun x y => aheadB x y = true)
  | [], m, _ => List.pairwise_singleton _ _
  | x :: l, m, h => by
    obtain ⟨h1, h2⟩ := List.pairwise_cons.1 h
    show (if aheadB x m = true then x :: putL l m else m :: x :: l).Pairwise _
    by_cases e : aheadB x m = true
    · rw [if_pos e]
      refine List.pairwise_cons.2 ⟨fun y hy => ?_, put_pair m h2⟩
      rcases List.mem_cons.1 ((put_perm l m).mem_iff.1 hy) with rfl | hy
      · exact e
      · exact h1 y hy
    · rw [if_neg e]
      refine List.pairwise_cons.2 ⟨fun y hy => ?_, h⟩
      rcases List.mem_cons.1 hy with rfl | hy
      · exact ahead_total e
      · exact ahead_trans (ahead_total e) (h1 y hy)

/-- The message that a send lays, and what is wanted of it. -/
def sentM (n : Nv) (a b d : Int) (bs : List UInt8) : Mv := ⟨n.now + d + (slipOf n.S n.next).amt, n.next, a, b, bs⟩
def wantM (n : Nv) (a b d : Int) (bs : List UInt8) : List Mv := List.replicate (manyV n a b) (sentM n a b d bs)

/-- A net with messages laid into it. -/
theorem put_check {n : Nv} {m : Mv} {L : List Mv} (h : checkB n = true) (hn : ¬ n.next = maxO) (hp : L.Perm (n.L ++ [m]) ∨ L.Perm (n.L ++ [m, m]) ∨ L = n.L) (hs : L.Pairwise (fun x y => aheadB x y = true)) (hl : L.length ≤ 1024)
    (hm : L = n.L ∨ (endB n.K.length m.frm = true ∧ endB n.K.length m.dst = true ∧ n.now ≤ m.t ∧ m.t ≤ maxO ∧ m.no = n.next ∧ m.bs.length ≤ 4096)) : checkB { n with next := n.next + 1, L := L } = true := by
  obtain ⟨t1, t2, t3, t4, t5⟩ := (chk_iff n).1 h
  obtain ⟨k1, k2, k3, k4⟩ := (top_iff n).1 t1
  refine (chk_iff _).2 ⟨(top_iff _).2 ⟨k1, k2, ⟨by show 0 ≤ n.next + 1; omega, by show n.next + 1 ≤ maxO; omega⟩, hl⟩, t2, t3, t4, fun x hx => ?_, hs⟩
  have old : ∀ y ∈ n.L, MsgOk n.K.length n.now (n.next + 1) y := fun y hy => by
    obtain ⟨a1, a2, a3, a4, a5⟩ := t5.1 y hy
    refine ⟨a1, a2, a3, ?_, a5⟩
    unfold inR at a4 ⊢
    simp only [Bool.and_eq_true, decide_eq_true_eq] at a4 ⊢
    omega
  rcases hm with rfl | ⟨m1, m2, m3, m4, m5, m6⟩
  · exact old x hx
  · have hnew : MsgOk n.K.length n.now (n.next + 1) m := by
      refine ⟨m1, m2, ?_, ?_, m6⟩
      · unfold inR; simp only [Bool.and_eq_true, decide_eq_true_eq]; exact ⟨m3, m4⟩
      · unfold inR; simp only [Bool.and_eq_true, decide_eq_true_eq]; omega
    have hx' : x ∈ n.L ∨ x = m := by
      rcases hp with hp | hp | hp
      · have := hp.mem_iff.1 hx; simpa using this
      · have := hp.mem_iff.1 hx; simpa using this
      · rw [hp] at hx; exact .inl hx
    rcases hx' with hx' | rfl
    · exact old x hx'
    · exact hnew

theorem send_fair {n x : Nv} {a b d : Int} {bs : List UInt8} (h : sendV n a b d bs = (x, 0)) :
    checkB n = true ∧ checkB x = true ∧ x.next = n.next + 1 ∧ x.now = n.now ∧ x.S = n.S ∧ x.K = n.K ∧ x.C = n.C ∧ x.L.Perm (n.L ++ wantM n a b d bs) := by
  by_cases hs : sendable n a b d bs
  · by_cases h1 : n.next = 1099511627776
    · rw [sendV_next hs h1] at h; cases h
    · have hpair := ((chk_iff n).1 hs.1).2.2.2.2.2
      have hlen := ((top_iff n).1 ((chk_iff n).1 hs.1).1).2.2.2
      by_cases h2 : manyV n a b = 0
      · rw [sendV_none hs h1 h2] at h
        injection h with h _
        subst h
        refine ⟨hs.1, put_check (m := sentM n a b d bs) hs.1 h1 (.inr (.inr rfl)) hpair hlen (.inl rfl), rfl, rfl, rfl, rfl, rfl, ?_⟩
        unfold wantM
        rw [h2]
        simp
      · by_cases h3 : 1099511627776 < n.now + d + (slipOf n.S n.next).amt ∨ 1024 < n.L.length + manyV n a b
        · rw [sendV_bound hs h1 h2 h3] at h; cases h
        · obtain ⟨m1, m2⟩ := many_not hs h2
          have h3a : ¬ maxO < n.now + d + (slipOf n.S n.next).amt := fun e => h3 (.inl e)
          have h3b : ¬ 1024 < n.L.length + (if (slipOf n.S n.next).kind = 2 then 2 else 1) := fun e => h3 (.inr (by rw [m2]; exact e))
          have hd : 0 ≤ d := by
            have := hs.2.2.2.1
            unfold inR at this
            simp only [Bool.and_eq_true, decide_eq_true_eq] at this
            exact this.1
          have hamt : 0 ≤ (slipOf n.S n.next).amt := by
            rcases slip_cases hs.1 n.next with e | ⟨_, e, _⟩ | e
            · rw [e]; exact Int.le_refl _
            · omega
            · have := e.2; omega
          have hm : endB n.K.length (sentM n a b d bs).frm = true ∧ endB n.K.length (sentM n a b d bs).dst = true ∧ n.now ≤ (sentM n a b d bs).t ∧ (sentM n a b d bs).t ≤ maxO ∧ (sentM n a b d bs).no = n.next ∧ (sentM n a b d bs).bs.length ≤ 4096 := by
            refine ⟨hs.2.1, hs.2.2.1, ?_, ?_, rfl, hs.2.2.2.2⟩
            · show n.now ≤ n.now + d + (slipOf n.S n.next).amt; omega
            · show n.now + d + (slipOf n.S n.next).amt ≤ maxO; omega
          unfold sendV at h
          rw [if_pos hs, if_neg (show ¬ n.next = maxO from h1), if_neg m1, if_neg h3a, if_neg h3b] at h
          injection h with h _
          by_cases k2 : (slipOf n.S n.next).kind = 2
          · rw [if_pos k2] at h h3b m2
            have hp : (putL (putL n.L (sentM n a b d bs)) (sentM n a b d bs)).Perm (n.L ++ [sentM n a b d bs, sentM n a b d bs]) :=
              ((put_perm _ _).trans ((put_perm _ _).cons _)).trans (List.perm_append_comm (l₁ := [sentM n a b d bs, sentM n a b d bs]))
            subst h
            refine ⟨hs.1, put_check hs.1 h1 (.inr (.inl hp)) (put_pair _ (put_pair _ hpair)) (by have e := hp.length_eq; rw [List.length_append] at e; simp only [List.length_cons, List.length_nil] at e; exact Nat.le_trans (Nat.le_of_eq e) (by omega)) (.inr hm), rfl, rfl, rfl, rfl, rfl, ?_⟩
            unfold wantM
            rw [m2]
            exact hp
          · rw [if_neg k2] at h h3b m2
            have hp : (putL n.L (sentM n a b d bs)).Perm (n.L ++ [sentM n a b d bs]) := (put_perm _ _).trans (List.perm_append_comm (l₁ := [sentM n a b d bs]))
            subst h
            refine ⟨hs.1, put_check hs.1 h1 (.inl hp) (put_pair _ hpair) (by have e := hp.length_eq; rw [List.length_append] at e; simp only [List.length_cons, List.length_nil] at e; exact Nat.le_trans (Nat.le_of_eq e) (by omega)) (.inr hm), rfl, rfl, rfl, rfl, rfl, ?_⟩
            unfold wantM
            rw [m2]
            exact hp
  · rw [sendV_arg hs] at h; cases h

/-- What holds of the net, what is wanted and what has come, behind k steps. -/
structure Fair (S : List Sp) (k : Nat) (n : Nv) (want come : List Mv) : Prop where
  chk : checkB n = true
  slips : n.S = S
  now : n.now ≤ 1000 * k
  cuts : n.C.length ≤ k
  perm : want.Perm (come ++ n.L)
theorem Fair.more {S : List Sp} {k j : Nat} {n : Nv} {want come : List Mv} (h : Fair S k n want come) (hkj : k ≤ j) : Fair S j n want come := ⟨h.chk, h.slips, by have := h.now; omega, by have := h.cuts; omega, h.perm⟩
theorem Fair.start {m : Int} {S : List Sp} {K : List Int} {n : Nv} (h : newV m S K = (n, 0)) : Fair S 0 n [] [] := by
  unfold newV at h
  by_cases e : (K.length : Int) = m ∧ checkB ⟨0, 0, [], S, [], K⟩ = true
  · rw [if_pos e] at h
    injection h with h _
    subst h
    exact ⟨e.2, rfl, by simp, by simp, by simp⟩
  · rw [if_neg e] at h; cases h
theorem Fair.send {S : List Sp} {k : Nat} {n x : Nv} {want come : List Mv} {a b d : Int} {bs : List UInt8} (h : Fair S k n want come) (hs : sendV n a b d bs = (x, 0)) : Fair S (k + 1) x (want ++ wantM n a b d bs) come := by
  obtain ⟨_, h2, _, h4, h5, _, h7, h8⟩ := send_fair hs
  refine ⟨h2, h5.trans h.slips, by rw [h4]; have := h.now; omega, by rw [h7]; have := h.cuts; omega, ?_⟩
  refine (h.perm.append_right _).trans ?_
  rw [List.append_assoc]
  exact (h8.symm).append_left _
theorem Fair.tick {S : List Sp} {k : Nat} {n : Nv} {want come : List Mv} {d : Int} (h : Fair S k n want come) (hd : 0 ≤ d) (hd2 : d ≤ 1000) (hk : k ≤ 40) :
    ∃ (x : Nv) (M : List Mv), tickV n d = (x, M, 0) ∧ x.now = n.now + d ∧ (∀ m ∈ M, ¬ x.now < m.t ∧ ¬ m.t < n.now) ∧ Fair S (k + 1) x want (come ++ M) := by
  have hn := h.now
  have hmo : maxO = 1099511627776 := rfl
  have e := tickV_ok h.chk hd (by omega) (by omega)
  refine ⟨_, _, e, rfl, fun m hm => ?_, ⟨tick_check h.chk hd (by omega), h.slips, by show n.now + d ≤ _; omega, by have := h.cuts; show n.C.length ≤ _; omega, ?_⟩⟩
  · obtain ⟨h1, h2⟩ := List.mem_filter.1 hm
    have h3 := (((chk_iff n).1 h.chk).2.2.2.2.1 m h1).2.2.1
    unfold inR at h3
    simp only [Bool.and_eq_true, decide_eq_true_eq] at h2 h3
    exact ⟨by show ¬ n.now + d < m.t; omega, by omega⟩
  · refine h.perm.trans ?_
    rw [List.append_assoc]
    exact (List.filter_append_perm (fun m : Mv => decide (m.t ≤ n.now + d)) n.L).symm.append_left _
theorem Fair.ways {S : List Sp} {k : Nat} {n x : Nv} {want come : List Mv} {a b : Int} {yes : Bool} (h : Fair S k n want come) (hs : waysV n a b yes = (x, 0)) : Fair S (k + 1) x want come := by
  rcases ways_cases n a b yes with ⟨e, _⟩ | e
  · rw [e] at hs; cases hs
  · obtain ⟨h1, h2, h3, h4, h5⟩ : (checkB n = true ∧ endB n.K.length a = true ∧ endB n.K.length b = true ∧ a ≠ b) ∧ True ∧ True ∧ True ∧ waysV n a b yes = ({ n with C := waysC n.C (pairP a b) yes }, 0) := by
      unfold waysV at hs ⊢
      by_cases e' : checkB n = true ∧ endB n.K.length a = true ∧ endB n.K.length b = true ∧ a ≠ b
      · rw [if_pos e']; exact ⟨e', trivial, trivial, trivial, rfl⟩
      · rw [if_neg e'] at hs; cases hs
    rw [h5] at hs
    injection hs with hs _
    subst hs
    exact ⟨ways_check h1.1 h1.2.1 h1.2.2.1 h1.2.2.2, h.slips, by have := h.now; show n.now ≤ _; omega, by have := h.cuts; have := waysC_len n.C (pairP a b) yes; show (waysC n.C (pairP a b) yes).length ≤ _; omega, h.perm⟩
theorem Fair.counts {S : List Sp} {k : Nat} {n : Nv} {want come : List Mv} (h : Fair S k n want come) (m : Mv) : (come ++ n.L).countP (fun x => decide ([x] = [m])) = want.countP (fun x => decide ([x] = [m])) := h.perm.symm.countP_eq _

end Go.Proofs.Ytmlgahambecamaa

namespace Go.Proofs.Ytmlgahambecamaa
open Go.RowKit

/-- No byte. -/
def NB (u : Value) : Prop := ∀ x, u ≠ byteV x
theorem mg_nb (m : Mg) : ∀ u ∈ mgK.cells m, NB u := fun u hu x => by
  have hu : u ∈ Mg.cells m := hu
  unfold Mg.cells at hu
  simp only [List.mem_cons, List.not_mem_nil, or_false] at hu
  rcases hu with rfl | rfl | rfl | rfl | rfl <;> simp [byteV]
/-- Two slices' blocks differ. -/
def Aprt (u v : Value) : Prop := ∀ b, u.ownBlock = some b → v.ownBlock ≠ some b
theorem Aprt.symm {u v : Value} (h : Aprt u v) : Aprt v u := fun b h1 h2 => h b h2 h1
/-- Messages stay while a row without bytes is written to. -/
theorem mg_stays {w w' : World} {v : Value} {m : Mg} (hq : QRow NB w v) (hg : w.grownBy w' v.ownBlock) (hx : Mg.In w m) : Mg.In w' m := by
  cases hv : v.ownBlock with
  | none => rw [hv] at hg; exact Sl.below hx (grown_below hg (Nat.le_refl _) (fun q e => by cases e))
  | some g => rw [hv] at hg; exact bytes_apart hx hg (fun i x e => hq g i _ hv e x rfl)

/-- A list of messages: where it lies, and the messages. -/
structure Rw where
  A : Option Addr
  n : Nat
  c : Nat
  l : List Mg
abbrev Rw.v (r : Rw) : Value := .slice r.A r.n r.c
structure Rw.Ok (D : Nat) (w : World) (r : Rw) : Prop where
  own : ROwn mgK 40 w D r.A r.n r.c r.l
  sort : QRow NB w r.v
  each : ∀ m ∈ r.l, Mg.In w m
theorem Rw.Ok.sl {D : Nat} {w : World} {r : Rw} (h : Rw.Ok D w r) : Sl mgK w r.A r.n r.c r.l := (h.own.own h.each).sl
theorem Rw.Ok.past {D : Nat} {w w' : World} {r : Rw} (h : Rw.Ok D w r) (hb : Below w.heap.size w w') : Rw.Ok D w' r :=
  ⟨h.own.kept hb, h.sort.kept (fun g hg => hb.block g (h.own.2.lt g hg).2), fun m hm => Sl.below (h.each m hm) hb⟩
theorem Rw.Ok.nil (D : Nat) (w : World) : Rw.Ok D w ⟨none, 0, 0, []⟩ := ⟨ROwn.nil _ _ _ _, QRow.nil _ _, fun m hm => by cases hm⟩
/-- A row, while another thing is written to that holds no byte. -/
theorem Rw.Ok.apart {D : Nat} {w w' : World} {r : Rw} {v : Value} (h : Rw.Ok D w r) (hq : QRow NB w v) (hg : w.grownBy w' v.ownBlock) (ha : Aprt v r.v) : Rw.Ok D w' r :=
  ⟨h.own.apart hg (fun b hb e => ha b e hb), h.sort.kept (fun g e => hg.block g (h.own.2.lt g e).2 (fun e2 => ha g e2.symm e)), fun m hm => mg_stays hq hg (h.each m hm)⟩
/-- A row with more. -/
theorem Rw.Ok.more {D : Nat} {w w' : World} {r : Rw} {A : Option Addr} {n c : Nat} {l : List Mg} (h : Rw.Ok D w r) (ho : ROwn mgK 40 w' D A n c (r.l ++ l)) (hg : w.grownBy w' r.v.ownBlock) (hq : QRow NB w' (.slice A n c)) (hl : ∀ m ∈ l, Mg.In w m) : Rw.Ok D w' ⟨A, n, c, r.l ++ l⟩ :=
  ⟨ho, hq, fun m hm => mg_stays h.sort hg ((List.mem_append.1 hm).elim (h.each m) (hl m))⟩

/-- The net's four lists. -/
def Nt.rows (o : Nt) : List Value := [.slice o.LA o.Ln o.Lc, .slice o.SA o.Sn o.Sc, .slice o.CA o.Cn o.Cc, .slice o.KA o.Kn o.Kc]
theorem Nt.Own.apart {w w' : World} {D : Nat} {o : Nt} {v : Value} (h : Nt.Own w D o) (hq : QRow NB w v) (hg : w.grownBy w' v.ownBlock) (ha : ∀ u ∈ o.rows, Aprt v u) : Nt.Own w' D o := by
  have a1 := ha _ (List.mem_cons_self ..)
  have a2 := ha _ (List.mem_cons_of_mem _ (List.mem_cons_self ..))
  have a3 := ha _ (List.mem_cons_of_mem _ (List.mem_cons_of_mem _ (List.mem_cons_self ..)))
  have a4 := ha _ (List.mem_cons_of_mem _ (List.mem_cons_of_mem _ (List.mem_cons_of_mem _ (List.mem_cons_self ..))))
  exact ⟨((h.l.rown).apart hg (fun b hb e => a1 b e hb)).own (fun m hm => mg_stays hq hg (h.l.2.2 m hm)), ((h.s.rown).apart hg (fun b hb e => a2 b e hb)).own h.s.2.2, ((h.c.rown).apart hg (fun b hb e => a3 b e hb)).own h.c.2.2, ((h.k.rown).apart hg (fun b hb e => a4 b e hb)).own h.k.2.2⟩
/-- What is new lies apart of what was. -/
theorem own_new {w w' : World} {q : Nt} {v : Value} (h : Nt.Own w' w.heap.size q) (hv : ∀ b, v.ownBlock = some b → b < w.heap.size) : ∀ u ∈ q.rows, Aprt v u := fun u hu b h1 h2 => by
  have h3 := hv b h1
  unfold Nt.rows at hu
  simp only [List.mem_cons, List.not_mem_nil, or_false] at hu
  rcases hu with rfl | rfl | rfl | rfl
  · have := (h.l.2.1.lt b h2).1; omega
  · have := (h.s.2.1.lt b h2).1; omega
  · have := (h.c.2.1.lt b h2).1; omega
  · have := (h.k.2.1.lt b h2).1; omega

/-- The net in its box g, what is wanted (W) and what has come (C); all of it lies behind D. -/
structure FS (D g : Nat) (w : World) (o : Nt) (W C : Rw) : Prop where
  net : Has w g o.c
  low : D ≤ g
  own : Nt.Own w D o
  want : W.Ok D w
  come : C.Ok D w
  wc : Aprt W.v C.v
  wo : ∀ u ∈ o.rows, Aprt W.v u
  co : ∀ u ∈ o.rows, Aprt C.v u
  gw : some g ≠ W.v.ownBlock
  gc : some g ≠ C.v.ownBlock
  gr : ∀ u ∈ o.rows, some g ≠ u.ownBlock
theorem FS.past {D g : Nat} {w w' : World} {o : Nt} {W C : Rw} (h : FS D g w o W C) (hb : Below w.heap.size w w') : FS D g w' o W C :=
  ⟨h.net.past hb, h.low, h.own.kept hb, h.want.past hb, h.come.past hb, h.wc, h.wo, h.co, h.gw, h.gc, h.gr⟩
theorem rows_lt {w : World} {D : Nat} {o : Nt} (h : Nt.Own w D o) : ∀ u ∈ o.rows, ∀ b, u.ownBlock = some b → D ≤ b ∧ b < w.heap.size := fun u hu b hb => by
  unfold Nt.rows at hu
  simp only [List.mem_cons, List.not_mem_nil, or_false] at hu
  rcases hu with rfl | rfl | rfl | rfl
  · exact h.l.2.1.lt b hb
  · exact h.s.2.1.lt b hb
  · exact h.c.2.1.lt b hb
  · exact h.k.2.1.lt b hb
theorem aprt_none (v : Value) : Aprt (.slice none 0 0) v := fun b h => by cases h
/-- A net that a call made, laid into a new box. -/
theorem FS.start {D : Nat} {w : World} {o : Nt} (h : Nt.Own w D o) (hD : D ≤ w.heap.size) : FS D w.heap.size (w.alloc (.cells o.c 27)) o ⟨none, 0, 0, []⟩ ⟨none, 0, 0, []⟩ := by
  have hb := below_alloc1 w (.cells o.c 27)
  exact ⟨Has.newAt w _ 27 rfl, hD, h.kept hb, Rw.Ok.nil _ _, Rw.Ok.nil _ _, aprt_none _, fun u _ => aprt_none u, fun u _ => aprt_none u, (by intro e; cases e), (by intro e; cases e), fun u hu e => by have := (rows_lt h u hu _ e.symm).2; omega⟩
/-- A row that is as it lay, or new, lies apart of what lay apart of it. -/
theorem aprt_new {w : World} {v v' u : Value} (h : Aprt v u) (hu : ∀ b, u.ownBlock = some b → b < w.heap.size) (hv : v'.ownBlock = v.ownBlock ∨ v'.ownBlock = some w.heap.size) : Aprt v' u := fun b h1 h2 => by
  rcases hv with e | e
  · exact h b (e.symm.trans h1) h2
  · have := hu b h2
    rw [e] at h1
    injection h1 with h1
    omega
theorem box_new {w : World} {v v' : Value} {g : Nat} (h : some g ≠ v.ownBlock) (hg : g < w.heap.size) (hv : v'.ownBlock = v.ownBlock ∨ v'.ownBlock = some w.heap.size) : some g ≠ v'.ownBlock := fun e => by
  rcases hv with e' | e'
  · exact h (e.trans e')
  · rw [e'] at e
    injection e with e
    omega
/-- More is wanted. -/
theorem FS.wants {D g : Nat} {w w' : World} {o : Nt} {W C : Rw} {A : Option Addr} {n c : Nat} {l : List Mg} (h : FS D g w o W C) (ho : ROwn mgK 40 w' D A n c (W.l ++ l)) (hg : w.grownBy w' W.v.ownBlock) (hq : QRow NB w' (.slice A n c)) (hl : ∀ m ∈ l, Mg.In w m)
    (hv : (Value.slice A n c).ownBlock = W.v.ownBlock ∨ (Value.slice A n c).ownBlock = some w.heap.size) : FS D g w' o ⟨A, n, c, W.l ++ l⟩ C :=
  ⟨h.net.beside hg h.gw, h.low, h.own.apart h.want.sort hg h.wo, h.want.more ho hg hq hl, h.come.apart h.want.sort hg h.wc, aprt_new h.wc (fun b e => (h.come.own.2.lt b e).2) hv, fun u hu => aprt_new (h.wo u hu) (fun b e => (rows_lt h.own u hu b e).2) hv, h.co, box_new h.gw h.net.lt hv, h.gc, h.gr⟩
theorem FS.comes {D g : Nat} {w w' : World} {o : Nt} {W C : Rw} {A : Option Addr} {n c : Nat} {l : List Mg} (h : FS D g w o W C) (ho : ROwn mgK 40 w' D A n c (C.l ++ l)) (hg : w.grownBy w' C.v.ownBlock) (hq : QRow NB w' (.slice A n c)) (hl : ∀ m ∈ l, Mg.In w m)
    (hv : (Value.slice A n c).ownBlock = C.v.ownBlock ∨ (Value.slice A n c).ownBlock = some w.heap.size) : FS D g w' o W ⟨A, n, c, C.l ++ l⟩ :=
  ⟨h.net.beside hg h.gc, h.low, h.own.apart h.come.sort hg h.co, h.want.apart h.come.sort hg h.wc.symm, h.come.more ho hg hq hl, (aprt_new h.wc.symm (fun b e => (h.want.own.2.lt b e).2) hv).symm, h.wo, fun u hu => aprt_new (h.co u hu) (fun b e => (rows_lt h.own u hu b e).2) hv, h.gw, box_new h.gc h.net.lt hv, h.gr⟩
/-- A net of the call's own that is not laid into the box yet. -/
structure QS (D g : Nat) (w : World) (q : Nt) (W C : Rw) : Prop where
  own : Nt.Own w D q
  wo : ∀ u ∈ q.rows, Aprt W.v u
  co : ∀ u ∈ q.rows, Aprt C.v u
  gr : ∀ u ∈ q.rows, some g ≠ u.ownBlock
theorem QS.past {D g : Nat} {w w' : World} {q : Nt} {W C : Rw} (h : QS D g w q W C) (hb : Below w.heap.size w w') : QS D g w' q W C := ⟨h.own.kept hb, h.wo, h.co, h.gr⟩
theorem QS.start {D g : Nat} {w w1 : World} {o q : Nt} {W C : Rw} (h : FS D g w o W C) (hq : Nt.Own w1 w.heap.size q) (hD : D ≤ w.heap.size) : QS D g w1 q W C := by
  have hnew : ∀ v : Value, (∀ b, v.ownBlock = some b → b < w.heap.size) → ∀ u ∈ q.rows, Aprt v u := fun v hv u hu b h1 h2 => by
    have h3 := hv b h1
    have h4 := (rows_lt hq u hu b h2).1
    omega
  refine ⟨hq.base hD, hnew _ fun b e => (h.want.own.2.lt b e).2, hnew _ fun b e => (h.come.own.2.lt b e).2, fun u hu e => ?_⟩
  have h1 := (rows_lt hq u hu g e.symm).1
  have h2 := h.net.lt
  omega
theorem QS.wants {D g : Nat} {w w' : World} {o q : Nt} {W C : Rw} {A : Option Addr} {n c : Nat} {l : List Mg} (k : QS D g w q W C) (h : FS D g w o W C) (hg : w.grownBy w' W.v.ownBlock)
    (hv : (Value.slice A n c).ownBlock = W.v.ownBlock ∨ (Value.slice A n c).ownBlock = some w.heap.size) : QS D g w' q ⟨A, n, c, W.l ++ l⟩ C :=
  ⟨k.own.apart h.want.sort hg k.wo, fun u hu => aprt_new (k.wo u hu) (fun b e => (rows_lt k.own u hu b e).2) hv, k.co, k.gr⟩
theorem QS.comes {D g : Nat} {w w' : World} {o q : Nt} {W C : Rw} {A : Option Addr} {n c : Nat} {l : List Mg} (k : QS D g w q W C) (h : FS D g w o W C) (hg : w.grownBy w' C.v.ownBlock)
    (hv : (Value.slice A n c).ownBlock = C.v.ownBlock ∨ (Value.slice A n c).ownBlock = some w.heap.size) : QS D g w' q W ⟨A, n, c, C.l ++ l⟩ :=
  ⟨k.own.apart h.come.sort hg k.co, k.wo, fun u hu => aprt_new (k.co u hu) (fun b e => (rows_lt k.own u hu b e).2) hv, k.gr⟩
/-- It is laid into the box. -/
theorem FS.turn {D g : Nat} {w1 w' : World} {o q : Nt} {W C : Rw} (h : FS D g w1 o W C) (k : QS D g w1 q W C) (hw : w' = w1.setCells g 0 q.c.toList) : FS D g w' q W C := by
  have hg : w1.grownBy w' (some g) := by rw [hw]; exact setCells_grown g q.c.toList 0 w1
  have hnb : QRow NB w1 (.slice (some ⟨g, 0, none⟩) 0 0) := fun g' i u e hc x ex => by
    injection e with e
    have e' : g = g' := e
    subst e'
    subst ex
    exact h.net.nobyte (net_nobyte _ _ _ _ _ _ _ _ _ _ _ _ _ _) i x hc
  have hap : ∀ v : Value, some g ≠ v.ownBlock → Aprt (.slice (some ⟨g, 0, none⟩) 0 0) v := fun v hv b e1 e2 => by
    injection e1 with e1
    exact hv (by rw [e2, ← e1])
  exact ⟨by rw [hw]; exact h.net.set q.c.toList rfl, h.low, k.own.apart (v := .slice (some ⟨g, 0, none⟩) 0 0) hnb hg (fun u hu => hap u (k.gr u hu)), h.want.apart (v := .slice (some ⟨g, 0, none⟩) 0 0) hnb hg (hap _ h.gw), h.come.apart (v := .slice (some ⟨g, 0, none⟩) 0 0) hnb hg (hap _ h.gc), h.wc, k.wo, k.co, h.gw, h.gc, k.gr⟩
theorem FS.at_ {D g : Nat} {w : World} {o : Nt} {W C : Rw} (h : FS D g w o W C) : Nt.At w o := h.own.at_
theorem mg_row {w : World} {g : Nat} {x : Mg} (h : Has w g #[.int .i64 x.t, .int .i64 x.no, .int .i64 x.frm, .int .i64 x.dst, .slice x.A x.n x.c]) (hx : Mg.In w x) : Sl mgK w (some ⟨g, 0, none⟩) 1 1 [x] :=
  ⟨rfl, Nat.le_refl _, by omega, fun e => (by cases e), Row.of_has h, fun a ha => by rw [List.mem_singleton.1 ha]; exact hx⟩

end Go.Proofs.Ytmlgahambecamaa

namespace Go.Proofs.Ytmlgahambecamaa
open Go.RowKit

theorem slipOf_step {n : Nv} (h : checkB n = true) {k : Nat} (hk : k < n.S.length) (no : Int) : slipOf (n.S.take (k + 1)) no = if n.S[k].no = no then n.S[k] else slipOf (n.S.take k) no := by
  have h1 := allTo_at (chk_parts h).2.2.1 hk
  rw [slipAt_at hk] at h1
  simp only [Bool.and_eq_true, Bool.not_eq_true'] at h1
  have h2 := h1.2
  unfold noIn at h2
  rw [List.any_eq_false] at h2
  unfold slipOf
  rw [List.take_succ_eq_append_getElem hk, List.find?_append]
  by_cases e : n.S[k].no = no
  · rw [if_pos e]
    have : (n.S.take k).find? (fun s => decide (s.no = no)) = none := by
      rw [List.find?_eq_none]
      intro s hs
      have := h2 s hs
      rw [e] at this
      exact this
    rw [this]
    simp [e]
  · rw [if_neg e]
    have : [n.S[k]].find? (fun s => decide (s.no = no)) = none := by simp [e]
    rw [this]
    simp
theorem slipOf_all (S : List Sp) (no : Int) {k : Nat} (hk : S.length = k) : slipOf (S.take k) no = slipOf S no := by rw [List.take_of_length_le (by omega)]

theorem net_whole {f : Nat} {args : Array Value} {w : World} {r : Nv × Int} {V : Nv} {c : Int} (h : Calls Try.prog f args w fun e w' => NetRes w.heap.size r e w' ∧ Below w.heap.size w w') (hr : r = (V, c)) :
    Calls Try.prog f args w fun e w' => ∃ q : Nt, e = .returned (.tuple #[q.v, .int .i64 c]) ∧ q.val = V ∧ Nt.Own w' w.heap.size q ∧ Below w.heap.size w w' := by
  subst hr
  refine h.mono ?_
  rintro e w' ⟨⟨q, h1, h2, h3⟩, h4⟩
  exact ⟨q, h1, h2, h3, h4⟩
theorem tick_whole {f : Nat} {args : Array Value} {w : World} {r : Nv × List Mv × Int} {V : Nv} {M : List Mv} {c : Int} (h : Calls Try.prog f args w fun e w' => TickRes w.heap.size r e w' ∧ Below w.heap.size w w') (hr : r = (V, M, c)) :
    Calls Try.prog f args w fun e w' => ∃ (q : Nt) (A : Option Addr) (n c' : Nat) (l : List Mg), e = .returned (.tuple #[q.v, .slice A n c', .int .i64 c]) ∧ q.val = V ∧ Nt.Own w' w.heap.size q ∧ l.map Mg.val = M ∧ Sl mgK w' A n c' l ∧ Below w.heap.size w w' := by
  subst hr
  refine h.mono ?_
  rintro e w' ⟨⟨q, A, n, c', l, h1, h2, h3, h4, h5, h7⟩, h6⟩
  exact ⟨q, A, n, c', l, h1, h2, h4, h3, h5.sl, h6⟩
theorem newV_cases (m : Int) (S : List Sp) (K : List Int) : newV m S K = (noV, 1) ∨ ∃ V, newV m S K = (V, 0) := by
  unfold newV
  split
  · exact .inr ⟨_, rfl⟩
  · exact .inl rfl
theorem Fair.few {S : List Sp} {k : Nat} {n : Nv} {want come : List Mv} (h : Fair S k n want come) (hk : k ≤ 40) (hS : S.length ≤ 20) : n.L.length ≤ 1024 ∧ n.S.length ≤ 20 ∧ n.C.length ≤ 40 ∧ n.K.length ≤ 20 := by
  obtain ⟨h1, h2, h3, h4⟩ := (top_iff n).1 ((chk_iff n).1 h.chk).1
  exact ⟨h4, by rw [h.slips]; exact hS, Nat.le_trans h.cuts hk, h1.2⟩
theorem Fair.few_nt {S : List Sp} {k : Nat} {o : Nt} {w : World} {want come : List Mv} (h : Fair S k o.val want come) (hk : k ≤ 40) (hS : S.length ≤ 20) (ho : Nt.At w o) : o.Few := by
  obtain ⟨h1, h2, h3, h4⟩ := h.few hk hS
  exact Nt.Is.few (w := w) ⟨ho, rfl⟩ (by omega) (by omega) (by omega) (by omega)
theorem Fair.next {S : List Sp} {k : Nat} {n : Nv} {want come : List Mv} (h : Fair S k n want come) : 0 ≤ n.now ∧ n.now ≤ 1099511627776 ∧ 0 ≤ n.next ∧ n.next ≤ 1099511627776 := by
  obtain ⟨h1, h2, h3, h4⟩ := (top_iff n).1 ((chk_iff n).1 h.chk).1
  unfold maxO at h2 h3
  exact ⟨h2.1, h2.2, h3.1, h3.2⟩
theorem slip_amt {n : Nv} (h : checkB n = true) (no : Int) : 0 ≤ (slipOf n.S no).amt ∧ (slipOf n.S no).amt ≤ 1099511627776 := by
  rcases slip_cases h no with e | ⟨_, e, e2⟩ | e
  · rw [e]; exact ⟨Int.le_refl _, by decide⟩
  · exact ⟨by omega, e2⟩
  · rw [e.2]; exact ⟨Int.le_refl _, by decide⟩
theorem many_shut {n : Nv} {a b : Int} (h : openB n a b = false) : manyV n a b = 0 := by unfold manyV; rw [h]; simp
theorem many_drop {n : Nv} {a b : Int} (h : (slipOf n.S n.next).kind = 1) : manyV n a b = 0 := by unfold manyV; rw [if_pos h]
theorem many_twice {n : Nv} {a b : Int} (h : openB n a b = true) (k : (slipOf n.S n.next).kind = 2) : manyV n a b = 2 := by unfold manyV; rw [h, k]; rfl
theorem many_once {n : Nv} {a b : Int} (h : openB n a b = true) (k1 : ¬ (slipOf n.S n.next).kind = 1) (k2 : ¬ (slipOf n.S n.next).kind = 2) : manyV n a b = 1 := by unfold manyV; rw [h, if_neg k1, if_neg k2]; rfl
theorem Fair.step {S : List Sp} {k : Nat} {n : Nv} {want come : List Mv} (h : Fair S k n want come) {j : Nat} (hj : j < S.length) (no : Int) : slipOf (S.take (j + 1)) no = if S[j].no = no then S[j] else slipOf (S.take j) no := by
  obtain ⟨hc, rfl, _, _, _⟩ := h
  exact slipOf_step hc hj no
theorem Fair.amt {S : List Sp} {k : Nat} {n : Nv} {want come : List Mv} (h : Fair S k n want come) (no : Int) : 0 ≤ (slipOf S no).amt ∧ (slipOf S no).amt ≤ 1099511627776 := by
  obtain ⟨hc, rfl, _, _, _⟩ := h
  exact slip_amt hc no
/-- A box beside the two rows. -/
structure Bx (w : World) (b : Nat) (cs : Array Value) (W C : Rw) : Prop where
  has : Has w b cs
  bw : some b ≠ W.v.ownBlock
  bc : some b ≠ C.v.ownBlock
theorem Bx.new {D g : Nat} {w : World} {o : Nt} {W C : Rw} (h : FS D g w o W C) (cs : Array Value) (t : TypeId) : Bx (w.alloc (.cells cs t)) w.heap.size cs W C :=
  ⟨Has.newAt w cs t rfl, fun e => by have := (h.want.own.2.lt _ e.symm).2; omega, fun e => by have := (h.come.own.2.lt _ e.symm).2; omega⟩
theorem Bx.past {w w' : World} {b : Nat} {cs : Array Value} {W C : Rw} (h : Bx w b cs W C) (hb : Below w.heap.size w w') : Bx w' b cs W C := ⟨h.has.past hb, h.bw, h.bc⟩
theorem Bx.wants {w w' : World} {b : Nat} {cs : Array Value} {W C : Rw} {A : Option Addr} {n c : Nat} {l : List Mg} (h : Bx w b cs W C) (hg : w.grownBy w' W.v.ownBlock)
    (hv : (Value.slice A n c).ownBlock = W.v.ownBlock ∨ (Value.slice A n c).ownBlock = some w.heap.size) : Bx w' b cs ⟨A, n, c, W.l ++ l⟩ C := ⟨h.has.beside hg h.bw, box_new h.bw h.has.lt hv, h.bc⟩
theorem Bx.comes {w w' : World} {b : Nat} {cs : Array Value} {W C : Rw} {A : Option Addr} {n c : Nat} {l : List Mg} (h : Bx w b cs W C) (hg : w.grownBy w' C.v.ownBlock)
    (hv : (Value.slice A n c).ownBlock = C.v.ownBlock ∨ (Value.slice A n c).ownBlock = some w.heap.size) : Bx w' b cs W ⟨A, n, c, C.l ++ l⟩ := ⟨h.has.beside hg h.bc, h.bw, box_new h.bc h.has.lt hv⟩
theorem want_two (l : List Mg) (m : Mg) (n : Nv) (a b d : Int) (bs : List UInt8) (hm : m.val = sentM n a b d bs) (h : manyV n a b = 2) : ((l ++ [m]) ++ [m]).map Mg.val = l.map Mg.val ++ wantM n a b d bs := by
  unfold wantM
  rw [h, List.append_assoc, List.map_append, ← hm]
  rfl
theorem want_one (l : List Mg) (m : Mg) (n : Nv) (a b d : Int) (bs : List UInt8) (hm : m.val = sentM n a b d bs) (h : manyV n a b = 1) : (l ++ [m]).map Mg.val = l.map Mg.val ++ wantM n a b d bs := by
  unfold wantM
  rw [h, List.map_append, ← hm]
  rfl
theorem want_none (l : List Mg) (n : Nv) (a b d : Int) (bs : List UInt8) (h : manyV n a b = 0) : l.map Mg.val = l.map Mg.val ++ wantM n a b d bs := by
  unfold wantM
  rw [h]
  simp
theorem Fair.lens {S : List Sp} {k : Nat} {n : Nv} {want come : List Mv} (h : Fair S k n want come) : come.length ≤ want.length := by
  have := h.perm.length_eq
  rw [List.length_append] at this
  omega
/-- How many of the first messages are one. -/
def cntM (l : List Mg) (m : Mg) (j : Nat) : Nat := (l.take j).countP fun x => decide ([x].map Mg.val = [m].map Mg.val)
theorem cntM_zero (l : List Mg) (m : Mg) : cntM l m 0 = 0 := rfl
theorem cntM_step (l : List Mg) (m : Mg) {j : Nat} (hj : j < l.length) : cntM l m (j + 1) = cntM l m j + (if decide ([l[j]].map Mg.val = [m].map Mg.val) = true then 1 else 0) := by
  unfold cntM
  rw [List.take_succ_eq_append_getElem hj, List.countP_append, List.countP_singleton]
theorem cntM_le (l : List Mg) (m : Mg) (j : Nat) : cntM l m j ≤ j := Nat.le_trans List.countP_le_length (List.length_take_le _ _)
theorem cntM_all (l : List Mg) (m : Mg) {j : Nat} (hj : l.length = j) : cntM l m j = (l.map Mg.val).countP fun x => decide ([x] = [m.val]) := by
  unfold cntM
  rw [List.take_of_length_le (by omega), List.countP_map]
  rfl
theorem Fair.same {S : List Sp} {k : Nat} {o : Nt} {W C : List Mg} (h : Fair S k o.val (W.map Mg.val) (C.map Mg.val)) (m : Mg) {i j : Nat} (hi : (C ++ o.L).length = i) (hj : W.length = j) : cntM (C ++ o.L) m i = cntM W m j := by
  rw [cntM_all _ _ hi, cntM_all _ _ hj, List.map_append]
  exact h.counts m.val
theorem Fair.count {S : List Sp} {k : Nat} {o : Nt} {W C : List Mg} (h : Fair S k o.val (W.map Mg.val) (C.map Mg.val)) : C.length + o.L.length = W.length := by
  have := h.perm.length_eq
  simp only [List.length_map, List.length_append, Nt.val] at this
  omega
theorem mg_cells {w : World} {g : Nat} {x : Mg} (h : Has w g #[.int .i64 x.t, .int .i64 x.no, .int .i64 x.frm, .int .i64 x.dst, .slice x.A x.n x.c]) (j : Nat) : w.cell? ⟨g, j, none⟩ = (mgK.cells x)[j]? := by
  rw [h.cell j]
  show (Mg.cells x).toArray[j]? = (Mg.cells x)[j]?
  rw [List.getElem?_toArray]

end Go.Proofs.Ytmlgahambecamaa

namespace Go.Proofs.Ytmlgahambecamaa
open Go.RowKit Go.Shelf

def firstLoop : Code → Option Code
  | .loop c => some c
  | .seq a b => match firstLoop a with
    | some c => some c
    | none => firstLoop b
  | .block _ c => firstLoop c
  | .scope c => firstLoop c
  | .cond _ a b => match firstLoop a with
    | some c => some c
    | none => firstLoop b
  | _ => none
noncomputable def fbody : Code := (Try.f8.body.bind firstLoop).getD .skip
def nth : List Value → Nat → Value
  | [], _ => undef
  | v :: _, 0 => v
  | _ :: l, i + 1 => nth l i
set_option maxRecDepth 1000000 in
def fr (c : Nat → Value) (g : Nat) (SA : Option Addr) (Sn Sc : Nat) (LA : Option Addr) (Ln Lc : Nat) (f : Nat → Value) (v8 v11 v12 v68 : Value) : Act := ⟨#[c 0, .slice SA Sn Sc, c 2, .slice LA Ln Lc, c 4, c 5, c 6, c 7, v8, .pointer (some ⟨g, 0, none⟩), c 10, v11, v12, c 13, f 14, f 15, f 16, f 17, f 18, c 19, f 20, f 21, f 22, f 23, f 24, c 25, f 26, f 27, f 28, f 29, f 30, c 31, c 32, c 33, c 34, c 35, c 36, c 37, c 38, c 39, c 40, c 41, c 42, c 43, c 44, c 45, c 46, c 47, c 48, c 49, c 50, c 51, c 52, c 53, c 54, c 55, c 56, c 57, c 58, c 59, c 60, c 61, c 62, c 63, c 64, c 65, .slice LA Ln Lc, .int .i64 Ln, v68, f 69, f 70, f 71, f 72, f 73, f 74, f 75, f 76, f 77, f 78, f 79, f 80, f 81, f 82, f 83, f 84, f 85, f 86, f 87, f 88, f 89, f 90, f 91, f 92, f 93, f 94, f 95, f 96, f 97, f 98, f 99, f 100, f 101, f 102, f 103, f 104, f 105, f 106, f 107, f 108, f 109, f 110, f 111, f 112, f 113, f 114, f 115, f 116, f 117, f 118, f 119, f 120, f 121, f 122, f 123, f 124, f 125, f 126, f 127, f 128, f 129, f 130, f 131, f 132, f 133, f 134, f 135, f 136, f 137, f 138, f 139, f 140, f 141, f 142, f 143, f 144, f 145, f 146, f 147, f 148, f 149, f 150, f 151, f 152, f 153, f 154, f 155, f 156, f 157, f 158, f 159, f 160, f 161, f 162, f 163, f 164, f 165, f 166, f 167, f 168, f 169, f 170, f 171, f 172, f 173, f 174, f 175, f 176, f 177, f 178, f 179, f 180, f 181, f 182, f 183, f 184, f 185, f 186, f 187, f 188, f 189, f 190, f 191, f 192, f 193, f 194, f 195, f 196, f 197, f 198, f 199, f 200, f 201, f 202, f 203, f 204, f 205, f 206, f 207, f 208, f 209, f 210, f 211, f 212, f 213, f 214, f 215, f 216, f 217, f 218, f 219, f 220, f 221, f 222, f 223, f 224, f 225, f 226, f 227, f 228, f 229, f 230, f 231, f 232, f 233, f 234, f 235, f 236, f 237, f 238, f 239, f 240, f 241, f 242, f 243, f 244, f 245, f 246, f 247, f 248, f 249, f 250, f 251, f 252, f 253, c 254, c 255, c 256, c 257, c 258, c 259, c 260, c 261, c 262, c 263, c 264, c 265, c 266, c 267, c 268, c 269, c 270, c 271, c 272, c 273, c 274, c 275, c 276, c 277, c 278, c 279, c 280, c 281, c 282, c 283, c 284, c 285, c 286, c 287, c 288, c 289, c 290, c 291, c 292, c 293, c 294, c 295, c 296, c 297, c 298, c 299, c 300], []⟩
/-- What holds behind k steps. -/
structure FI (g : Nat) (Ln : Nat) (S : List Sp) (w : World) (k : Nat) (o : Nt) (Wn Cm : Rw) (wr : World) : Prop where
  le : k ≤ Ln
  few : Wn.n ≤ 2 * k
  bel : Hid (Below w.heap.size w wr)
  fs : Hid (FS w.heap.size g wr o Wn Cm)
  fair : Hid (Fair S k o.val (Wn.l.map Mg.val) (Cm.l.map Mg.val))
def WI (c : Nat → Value) (g : Nat) (SA : Option Addr) (Sn Sc : Nat) (LA : Option Addr) (Ln Lc : Nat) (S : List Sp) (w : World) (k : Nat) (a : Act) (wr : World) : Prop := ∃ (f : Nat → Value) (v8 : Value) (o : Nt) (Wn Cm : Rw), a = fr c g SA Sn Sc LA Ln Lc f v8 (.slice Wn.A Wn.n Wn.c) (.slice Cm.A Cm.n Cm.c) (.int .i64 k) ∧ FI g Ln S w k o Wn Cm wr
theorem WI.mk {c : Nat → Value} {g : Nat} {SA : Option Addr} {Sn Sc : Nat} {LA : Option Addr} {Ln Lc : Nat} {S : List Sp} {w : World} {k : Nat} {a : Act} {wr : World} (o : Nt) (Wn Cm : Rw) (h : a = fr c g SA Sn Sc LA Ln Lc (nth a.tmps.toList) (nth a.tmps.toList 8) (.slice Wn.A Wn.n Wn.c) (.slice Cm.A Cm.n Cm.c) (.int .i64 k)) (h1 : k ≤ Ln) (h2 : Wn.n ≤ 2 * k)
    (h3 : Hid (Below w.heap.size w wr)) (h4 : Hid (FS w.heap.size g wr o Wn Cm)) (h5 : Hid (Fair S k o.val (Wn.l.map Mg.val) (Cm.l.map Mg.val))) : WI c g SA Sn Sc LA Ln Lc S w k a wr := ⟨_, _, o, Wn, Cm, h, h1, h2, h3, h4, h5⟩
/-- The law ends with true. -/
def WR (c : Nat → Value) (g : Nat) (SA : Option Addr) (Sn Sc : Nat) (LA : Option Addr) (Ln Lc : Nat) (_S : List Sp) (w : World) (a : Act) (wr : World) : Prop := ∃ (f : Nat → Value) (v11 v12 v68 : Value), a = fr c g SA Sn Sc LA Ln Lc f (.bool true) v11 v12 v68 ∧ Hid (Below w.heap.size w wr)
theorem WR.mk {c : Nat → Value} {g : Nat} {SA : Option Addr} {Sn Sc : Nat} {LA : Option Addr} {Ln Lc : Nat} {S : List Sp} {w : World} {a : Act} {wr : World} (h : a = fr c g SA Sn Sc LA Ln Lc (nth a.tmps.toList) (.bool true) (nth a.tmps.toList 11) (nth a.tmps.toList 12) (nth a.tmps.toList 68)) (h1 : Hid (Below w.heap.size w wr)) : WR c g SA Sn Sc LA Ln Lc S w a wr := ⟨_, _, _, _, h, h1⟩
theorem check_ok {w : World} {q : Nt} (h : Nt.At w q) (hc : checkB q.val = true) (hs : q.Sn ≤ 50000) : Calls Try.prog 15 #[q.v] w fun e w' => e = .returned (.int .i64 0) ∧ Below w.heap.size w w' := by
  have := check_any q w h hs
  rw [checkI_nil hc] at this
  exact this
theorem zero_nb : ∀ u ∈ (Value.agg #[.int .i64 0, .int .i64 0, .int .i64 0, .int .i64 0, .slice none 0 0]).cells.toList, NB u := fun u hu x => by
  have hu : u ∈ [Value.int .i64 0, .int .i64 0, .int .i64 0, .int .i64 0, .slice none 0 0] := hu
  simp only [List.mem_cons, List.not_mem_nil, or_false] at hu
  rcases hu with rfl | rfl | rfl | rfl | rfl <;> simp [byteV]

end Go.Proofs.Ytmlgahambecamaa
