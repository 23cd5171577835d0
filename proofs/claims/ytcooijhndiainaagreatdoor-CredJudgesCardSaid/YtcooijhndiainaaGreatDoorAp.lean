/- callboxlaw11.apart, the plain part: lists of numbers that are apart, and grow. -/
import Derived.Test.YtcooijhndiainaaGreatDoorLx
import Derived.Maps.AppendAt
namespace Go.Proofs.YtcooijhndiainaaGreatDoor
open Go.RowKit

/-- append of a row of one's own: where the new one lies, and that the old one stays if it moves. -/
theorem run_append_ap {P : Program} (w : World) (base : Nat) (t ty e : TypeId) (i : TypeInfo) (z : Value) (bytes : Nat) (ht : P.underlying t = some (.slice e)) (hi : P.info? e = some i) (hz : i.zero = some z)
    (hsize : i.size = 1) (hby : i.bytes = bytes) (hzs : z.cells.size = 1)
    (v : Value) (n : Nat) (xs : List Value) (hown : w.ownsRow base e 1 v n xs)
    (a : Addr) (m c : Nat) (news : List Value) (hl : news.length = m) (hnews : ∀ j u, news[j]? = some u → w.cell? (a.add j) = some u) (h1 : ∀ u ∈ news, u.oneCell' = true)
    (hm : 0 < m) (h63 : n + m ≤ maxLen) (hbytes : (n + m) * bytes ≤ 140737488355328) (hbase : base ≤ w.heap.size) :
    ∃ v' w', (Builtin.append_ #[t, t] ty #[v, .slice (some a) m c]).run P w = .ok v' w' ∧ w'.ownsRow base e 1 v' (n + m) (xs ++ news) ∧ w.grownBy w' v.ownBlock ∧
      (v'.ownBlock = v.ownBlock ∨ (v'.ownBlock = some w.heap.size ∧ w.grownBy w' none)) := by
  have hl1 : news.length = m * i.size := by rw [hsize]; omega
  obtain ⟨v', w', hr, ho, hg, _, hat⟩ := run_append_own_at (P := P) w base t ty e i z 1 bytes ht hi hz hsize hby hzs (by decide) v n xs hown a m c news (by omega) hnews h1 h63 hbytes hbase
  refine ⟨v', w', hr, ho, hg, ?_⟩
  have h63' : n + m ≤ 9223372036854775807 := by simpa [maxLen] using h63
  rcases hown.2 with ⟨rfl, rfl⟩ | ⟨g, cap, cur, rfl, hbg, hgg, hnc, hcm, hcs, htake⟩
  · rcases hat with h | h
    · exact .inl h
    · exact .inr ⟨h, hg⟩
  · by_cases hroom : n + m ≤ cap
    · have hfit : n * i.size + news.length ≤ cur.size := by rw [hsize, hcs]; omega
      have h2 := run_append_room (P := P) w t ty e i ht hi g n cap cur hgg a m c news hl1 hnews h1 hroom hfit
      rw [hr] at h2
      injection h2 with h2 _
      left; rw [h2]; rfl
    · have holds : ∀ (j : Nat) u, xs[j]? = some u → w.cell? ((⟨g, 0, none⟩ : Addr).add j) = some u := hown.cells (g := g) rfl
      have h2 := run_append_grow (P := P) w t ty e i z ht hi hz ⟨g, 0, none⟩ n cap xs (by rw [hsize]; exact hown.1) holds a m c news hl1 hnews (by omega) (by omega) (growslice_fits (by omega) (by rw [hby]; exact hbytes))
      rw [hr] at h2
      injection h2 with h2 h3
      right
      refine ⟨by rw [h2]; rfl, ?_⟩
      rw [h3]
      exact ⟨rfl, rfl, rfl, by simp, fun k hk _ => Below.heap_alloc w.drew _ k hk⟩

theorem wpList_append_ap {P : Program} {w : World} {ops : Array Oper} {rest : List Oper} {o : Oper} {a : Act} {Q : Exit → Act → World → Prop} (hgd : o.guard = none) (s x : Operand) (t : TypeId)
    (ho : o.op = .call { callee := .builtin .append, args := #[s, x], argTypes := #[t, t] })
    (base : Nat) (e : TypeId) (i : TypeInfo) (z : Value) (bytes : Nat) (ht : P.underlying t = some (.slice e)) (hi : P.info? e = some i) (hz : i.zero = some z)
    (hsize : i.size = 1) (hby : i.bytes = bytes) (hzs : z.cells.size = 1)
    (v : Value) (n : Nat) (xs : List Value) (hs : a.eval s = v) (hown : w.ownsRow base e 1 v n xs)
    (ad : Addr) (m c : Nat) (news : List Value) (hx : a.eval x = .slice (some ad) m c) (hl : news.length = m) (hnews : ∀ j u, news[j]? = some u → w.cell? (ad.add j) = some u) (h1 : ∀ u ∈ news, u.oneCell' = true)
    (hm : 0 < m) (h63 : n + m ≤ maxLen) (hbytes : (n + m) * bytes ≤ 140737488355328) (hbase : base ≤ w.heap.size)
    (h : ∀ v' w', w'.ownsRow base e 1 v' (n + m) (xs ++ news) → w.grownBy w' v.ownBlock → (v'.ownBlock = v.ownBlock ∨ (v'.ownBlock = some w.heap.size ∧ w.grownBy w' none)) → wpList P ops Q rest (a.put o.dst v') w') :
    wpList P ops Q (o :: rest) a w := by
  refine wpList_plain hgd fun K hK => ?_
  obtain ⟨v', w', hr, h2, h3, h4⟩ := run_append_ap (P := P) w base t o.type e i z bytes ht hi hz hsize hby hzs v n xs hown ad m c news hl hnews h1 hm h63 hbytes hbase
  unfold Oper.wp execOp
  simp only [ho, resolve, invoke, builtin, Sem.run_bind, Sem.run_pure, Result.andThen_ok, List.map_toArray, List.map_cons, List.map_nil, hs, hx, hr]
  exact hK _ _ (h v' w' h2 h3 h4)

/-- a row that stays, where another one, or none, was written. -/
theorem owns_stay {w w' : World} {row : Option Nat} {base e size n : Nat} {v : Value} {xs : List Value} (h : w.ownsRow base e size v n xs) (hg : w.grownBy w' row) (hn : ∀ b, v.ownBlock = some b → row ≠ some b) : w'.ownsRow base e size v n xs :=
  ownsRow_keep h (fun g e => hg.block g (h.lt g e).2 (fun e2 => hn g e e2.symm))
theorem intsAt_stay {w w' : World} {row : Option Nat} {A : Option Addr} {xs : List Int} (h : IntsAt w A xs) (hg : w.grownBy w' row) (hn : ∀ a, A = some a → row ≠ some a.block) : IntsAt w' A xs := by
  rcases h with h | ⟨b, off, rfl, hb, hc⟩
  · exact .inl h
  · exact .inr ⟨b, off, rfl, Nat.lt_of_lt_of_le hb hg.size, fun j hj => (World.cell?_of_block (w := w) (a := ⟨b, off + j, none⟩) (hg.block b hb (fun e => hn _ rfl e.symm))).trans (hc j hj)⟩

def minus (i : Nat) : Int := -1 - (i : Int)
def markL (i n : Nat) : List Value := (List.replicate n (minus i)).map (Value.int .i64)
theorem markL_succ (i n : Nat) : markL i n ++ [.int .i64 (minus i)] = markL i (n + 1) := by
  unfold markL
  rw [List.replicate_succ', List.map_append]
  rfl
theorem getD_replicate (n j : Nat) (x d : Int) (h : j < n) : (List.replicate n x).getD j d = x := by simp [List.getD, h]
/-- what a marked row reads as. -/
theorem marked_ints {w : World} {base n i : Nat} {A : Option Addr} {c l : Nat} (h : w.ownsRow base 3 1 (.slice A n c) n (markL i n)) (hl : l ≤ n) : IntsAt w A (List.replicate l (minus i)) := by
  have h2 : w.ownsRow base 3 1 (.slice A n c) n ((List.replicate n (minus i)).map (Value.int .i64)) := h
  rcases IntsAt.ofRow h2 with h0 | ⟨b, off, rfl, hb, hc⟩
  · left
    have : n = 0 := by simpa using h0
    have : l = 0 := by omega
    simp [this]
  · refine .inr ⟨b, off, rfl, hb, fun j hj => ?_⟩
    have hj' : j < l := by simpa using hj
    rw [hc j (by simp; omega), getD_replicate _ _ _ _ (by omega), getD_replicate _ _ _ _ hj']

def gAt (L : List Value) (j : Nat) : Value := L.getD j (.slice none 0 0)

/-- all that was told so far, and the row in hand. -/
structure ApI (N i : Nat) (ns : Nat → Nat) (lv : Value) (L : List Value) (base : Nat) (w : World) (vall : Value) (E : List Value) (m : Nat) (x : Value) (len : Nat) : Prop where
  hl : w.ownsRow base 22 1 lv N L
  rows : ∀ j, i < j → j < N → w.ownsRow base 3 1 (gAt L j) (ns j) (markL j (ns j))
  all : w.ownsRow base 22 1 vall m E
  xr : w.ownsRow base 3 1 x len (markL i len)
  xd : ∀ b, x.ownBlock = some b → vall.ownBlock ≠ some b ∧ lv.ownBlock ≠ some b ∧ ∀ j, i < j → j < N → (gAt L j).ownBlock ≠ some b
  ad : ∀ b, vall.ownBlock = some b → lv.ownBlock ≠ some b ∧ ∀ j, i < j → j < N → (gAt L j).ownBlock ≠ some b
  ents : ∀ e, e < m → ∃ A l c, gAt E e = .slice A l c ∧ IntsAt w A (List.replicate l (minus (e / 20))) ∧ l ≤ 1099511627776 ∧ ∀ a, A = some a → a.block < w.heap.size ∧ vall.ownBlock ≠ some a.block ∧ (∀ j, i < j → j < N → (gAt L j).ownBlock ≠ some a.block) ∧ (x.ownBlock = some a.block → a = ⟨a.block, 0, none⟩ ∧ l ≤ len ∧ e / 20 = i)

theorem gAt_append_lt {E : List Value} {x : Value} {e : Nat} (h : e < E.length) : gAt (E ++ [x]) e = gAt E e := by
  unfold gAt; simp [List.getD, List.getElem?_append_left h]
theorem gAt_append_eq {E : List Value} {x : Value} : gAt (E ++ [x]) E.length = x := by
  unfold gAt; simp [List.getD]
theorem own_slice {A : Option Addr} {n c b : Nat} (h : (Value.slice A n c).ownBlock = some b) : ∃ a, A = some a ∧ a.block = b := by
  cases A with
  | none => cases h
  | some a => exact ⟨a, rfl, Option.some.inj h⟩

/-- the row in hand is noted. -/
theorem ApI.note {N i : Nat} {ns : Nat → Nat} {lv : Value} {L : List Value} {base : Nat} {w w1 : World} {vall vall' : Value} {E : List Value} {m : Nat} {x : Value} {len : Nat} {o : Obj} (h : ApI N i ns lv L base w vall E m x len)
    (hlen : len ≤ 1099511627776) (hm : m / 20 = i) (ho : w1.ownsRow base 22 1 vall' (m + 1) (E ++ [x])) (hg : (w.alloc o).grownBy w1 vall.ownBlock) (hat : vall'.ownBlock = vall.ownBlock ∨ vall'.ownBlock = some (w.alloc o).heap.size) :
    ApI N i ns lv L base w1 vall' (E ++ [x]) (m + 1) x len := by
  have hsz : (w.alloc o).heap.size = w.heap.size + 1 := World.size_alloc _ _
  have hE : E.length = m := by have := h.all.1; omega
  -- what is not all's block stays
  have stay : ∀ {e n : Nat} {v : Value} {xs : List Value}, w.ownsRow base e 1 v n xs → (∀ b, v.ownBlock = some b → vall.ownBlock ≠ some b) → w1.ownsRow base e 1 v n xs := fun hv hn => owns_stay (hv.alloc _) hg hn
  have new : ∀ b, b < w.heap.size → vall.ownBlock ≠ some b → vall'.ownBlock ≠ some b := fun b hb hn e => by
    rcases hat with h2 | h2
    · exact hn (h2 ▸ e)
    · rw [h2, hsz] at e; injection e with e; omega
  refine ⟨stay h.hl (fun b hb e => (h.ad b e).1 hb), fun j h1 h2 => stay (h.rows j h1 h2) (fun b hb e => (h.ad b e).2 j h1 h2 hb), ho, stay h.xr (fun b hb => (h.xd b hb).1), fun b hb => ⟨new b (h.xr.lt b hb).2 (h.xd b hb).1, (h.xd b hb).2⟩, fun b hb => ?_, fun e he => ?_⟩
  · rcases hat with h2 | h2
    · exact h.ad b (h2 ▸ hb)
    · rw [h2, hsz] at hb
      injection hb with hb
      refine ⟨fun e => by have := (h.hl.lt b e).2; omega, fun j h1 h3 e => by have := ((h.rows j h1 h3).lt b e).2; omega⟩
  · by_cases hlt : e < m
    · obtain ⟨A, l, c, h1, h2, h3, h4⟩ := h.ents e hlt
      refine ⟨A, l, c, by rw [gAt_append_lt (by omega)]; exact h1, intsAt_stay (w := w.alloc o) ?_ hg (fun a ha => (h4 a ha).2.1), h3, fun a ha => ?_⟩
      · exact h2.fr ((Fr.refl (fun _ => False) w).alloc o) (fun _ _ h => h)
      · obtain ⟨k1, k2, k3, k4⟩ := h4 a ha
        exact ⟨Nat.lt_of_lt_of_le (by omega) hg.size, new _ k1 k2, k3, k4⟩
    · have hem : e = E.length := by omega
      subst hem
      rw [gAt_append_eq, hE, hm]
      obtain ⟨A, c, hx⟩ := owns_slice h.xr
      have hxr1 := stay h.xr (fun b hb => (h.xd b hb).1)
      refine ⟨A, len, c, hx, marked_ints (by rw [hx] at hxr1; exact hxr1) (Nat.le_refl _), hlen, fun a ha => ?_⟩
      have hb : x.ownBlock = some a.block := by rw [hx, ha]; rfl
      refine ⟨Nat.lt_of_lt_of_le (by have := (h.xr.lt _ hb).2; omega) hg.size, new _ (h.xr.lt _ hb).2 (h.xd _ hb).1, (h.xd _ hb).2.2, fun _ => ⟨?_, Nat.le_refl _, rfl⟩⟩
      rcases h.xr.2 with ⟨h0, _⟩ | ⟨g, cap, cur, h0, _⟩
      · rw [h0] at hb; cases hb
      · rw [hx] at h0
        injection h0 with h0
        rw [ha] at h0
        injection h0 with h0
        rw [h0]

/-- the row in hand grows. -/
theorem ApI.grow {N i : Nat} {ns : Nat → Nat} {lv : Value} {L : List Value} {base : Nat} {w w1 : World} {vall : Value} {E : List Value} {m : Nat} {x x' : Value} {len : Nat} {o : Obj} (h : ApI N i ns lv L base w vall E m x len)
    (ho : w1.ownsRow base 3 1 x' (len + 1) (markL i len ++ [.int .i64 (minus i)])) (hg : (w.alloc o).grownBy w1 x.ownBlock) (hat : x'.ownBlock = x.ownBlock ∨ (x'.ownBlock = some (w.alloc o).heap.size ∧ (w.alloc o).grownBy w1 none)) :
    ApI N i ns lv L base w1 vall E m x' (len + 1) := by
  have hsz : (w.alloc o).heap.size = w.heap.size + 1 := World.size_alloc _ _
  rw [markL_succ] at ho
  have stay : ∀ {e n : Nat} {v : Value} {xs : List Value}, w.ownsRow base e 1 v n xs → (∀ b, v.ownBlock = some b → x.ownBlock ≠ some b) → w1.ownsRow base e 1 v n xs := fun hv hn => owns_stay (hv.alloc _) hg hn
  have new : ∀ b, b < w.heap.size → x'.ownBlock = some b → x.ownBlock = some b := fun b hb e => by
    rcases hat with h2 | h2
    · exact h2 ▸ e
    · rw [h2.1, hsz] at e; injection e with e; omega
  refine ⟨stay h.hl (fun b hb e => (h.xd b e).2.1 hb), fun j h1 h2 => stay (h.rows j h1 h2) (fun b hb e => (h.xd b e).2.2 j h1 h2 hb), stay h.all (fun b hb e => (h.xd b e).1 hb), ho, fun b hb => ?_, h.ad, fun e he => ?_⟩
  · rcases hat with h2 | h2
    · exact h.xd b (h2 ▸ hb)
    · have hb' := hb
      rw [h2.1, hsz] at hb'
      injection hb' with hb'
      exact ⟨fun e => by have := (h.all.lt b e).2; omega, fun e => by have := (h.hl.lt b e).2; omega, fun j h1 h3 e => by have := ((h.rows j h1 h3).lt b e).2; omega⟩
  · obtain ⟨A, l, c, h1, h2, h3, h4⟩ := h.ents e he
    have h2a : IntsAt (w.alloc o) A (List.replicate l (minus (e / 20))) := h2.fr ((Fr.refl (fun _ => False) w).alloc o) (fun _ _ h => h)
    refine ⟨A, l, c, h1, ?_, h3, fun a ha => ?_⟩
    · rcases hat with h5 | ⟨_, h5⟩
      · -- the same row: what is noted stands at its front
        rcases h2a with h0 | ⟨b, off, hA, hb, hc⟩
        · exact .inl h0
        · by_cases hxb : x.ownBlock = some b
          · obtain ⟨_, _, _, k4⟩ := h4 _ hA
            obtain ⟨q1, q2, q3⟩ := k4 hxb
            obtain ⟨A', c', hx'⟩ := owns_slice ho
            have hA' : A' = some ⟨b, 0, none⟩ := by
              rcases ho.2 with ⟨h0, hz⟩ | ⟨g, cap, cur, h0, _⟩
              · omega
              · rw [hx'] at h0
                injection h0 with h0
                have : x'.ownBlock = some g := by rw [hx', h0]; rfl
                rw [h5, hxb] at this
                injection this with this
                rw [h0, this]
            rw [hA, q1, q3]
            have := marked_ints (l := l) (by rw [hx'] at ho; exact ho) (by omega)
            rwa [hA'] at this
          · exact intsAt_stay (.inr ⟨b, off, hA, hb, hc⟩) hg (fun a ha e => hxb (by rw [hA] at ha; injection ha with ha; rw [e, ← ha]))
      · exact intsAt_stay h2a h5 (fun a ha e => by cases e)
    · obtain ⟨k1, k2, k3, k4⟩ := h4 a ha
      refine ⟨Nat.lt_of_lt_of_le (by omega) hg.size, k2, k3, fun hb => ?_⟩
      obtain ⟨q1, q2, q3⟩ := k4 (new _ k1 hb)
      exact ⟨q1, by omega, q3⟩

/-- all that was told, between two rows. -/
structure ApO (N i : Nat) (ns : Nat → Nat) (lv : Value) (L : List Value) (base : Nat) (w : World) (vall : Value) (E : List Value) (m : Nat) : Prop where
  hl : w.ownsRow base 22 1 lv N L
  rows : ∀ j, i ≤ j → j < N → w.ownsRow base 3 1 (gAt L j) (ns j) (markL j (ns j))
  all : w.ownsRow base 22 1 vall m E
  ad : ∀ b, vall.ownBlock = some b → lv.ownBlock ≠ some b ∧ ∀ j, i ≤ j → j < N → (gAt L j).ownBlock ≠ some b
  ents : ∀ e, e < m → ∃ A l c, gAt E e = .slice A l c ∧ IntsAt w A (List.replicate l (minus (e / 20))) ∧ l ≤ 1099511627776 ∧ ∀ a, A = some a → a.block < w.heap.size ∧ vall.ownBlock ≠ some a.block ∧ (∀ j, i ≤ j → j < N → (gAt L j).ownBlock ≠ some a.block)
/-- rows that are apart. -/
def Apart (N : Nat) (lv : Value) (L : List Value) : Prop :=
  ∀ i, i < N → ∀ b, (gAt L i).ownBlock = some b → lv.ownBlock ≠ some b ∧ ∀ j, j < N → j ≠ i → (gAt L j).ownBlock ≠ some b
theorem ApO.take {N i : Nat} {ns : Nat → Nat} {lv : Value} {L : List Value} {base : Nat} {w : World} {vall : Value} {E : List Value} {m : Nat} (h : ApO N i ns lv L base w vall E m) (hi : i < N) (ha : Apart N lv L) :
    ApI N i ns lv L base w vall E m (gAt L i) (ns i) := by
  refine ⟨h.hl, fun j h1 h2 => h.rows j (by omega) h2, h.all, h.rows i (Nat.le_refl _) hi, fun b hb => ⟨fun e => (h.ad b e).2 i (Nat.le_refl _) hi hb, (ha i hi b hb).1, fun j h1 h2 => (ha i hi b hb).2 j h2 (by omega)⟩, fun b hb => ⟨(h.ad b hb).1, fun j h1 h2 => (h.ad b hb).2 j (by omega) h2⟩, fun e he => ?_⟩
  obtain ⟨A, l, c, h1, h2, h3, h4⟩ := h.ents e he
  exact ⟨A, l, c, h1, h2, h3, fun a haa => ⟨(h4 a haa).1, (h4 a haa).2.1, fun j h1 h2 => (h4 a haa).2.2 j (by omega) h2, fun e => absurd e ((h4 a haa).2.2 i (Nat.le_refl _) hi)⟩⟩
theorem ApI.leave {N i : Nat} {ns : Nat → Nat} {lv : Value} {L : List Value} {base : Nat} {w : World} {vall : Value} {E : List Value} {m : Nat} {x : Value} {len : Nat} (h : ApI N i ns lv L base w vall E m x len) : ApO N (i + 1) ns lv L base w vall E m := by
  refine ⟨h.hl, fun j h1 h2 => h.rows j (by omega) h2, h.all, fun b hb => ⟨(h.ad b hb).1, fun j h1 h2 => (h.ad b hb).2 j (by omega) h2⟩, fun e he => ?_⟩
  obtain ⟨A, l, c, h1, h2, h3, h4⟩ := h.ents e he
  exact ⟨A, l, c, h1, h2, h3, fun a haa => ⟨(h4 a haa).1, (h4 a haa).2.1, fun j h1 h2 => (h4 a haa).2.2.1 j (by omega) h2⟩⟩
end Go.Proofs.YtcooijhndiainaaGreatDoor
