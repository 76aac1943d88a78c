import Derived.Test.YtjjgjadfnongfaaGreatDoorANam0
set_option linter.unusedVariables false
set_option linter.unusedSimpArgs false
namespace Go.Proofs.YtjjgjadfnongfaaGreatDoor
open Go.RowKit Go.Maps Go.MapKept Go.ChangeMaps
/-- The namer, under way: what it holds of the table. -/
structure NamerAt (base P : Nat) (vn vs : Value) (Bs Bn : Nat) (T : List (Shp × List UInt8)) (w : World) : Prop where
  str : w.heap[P]? = some (.cells #[vn, vs, .map (some Bs), .map (some Bn)] 72 (0, 0))
  names : w.ownsRow base 9 1 vn T.length (keysN T)
  shapes : w.ownsRow base 74 4 vs T.length (T.flatMap fun p => shpC p.1)
  byS : w.heap[Bs]? = some (.map (entsOf (keysS T)) T.length)
  byN : w.heap[Bn]? = some (.map (entsOf (keysN T)) T.length)
  ne : Bs ≠ Bn
  lo : base ≤ P ∧ base ≤ Bs ∧ base ≤ Bn
/-- What may turn: the namer's own blocks. -/
structure FrP (P Bs Bn : Nat) (rn rs : Option Nat) (w w' : World) : Prop where
  os : w'.os = w.os
  tape : w'.tape = w.tape
  output : w'.output = w.output
  size : w.heap.size ≤ w'.heap.size
  block : ∀ b, b < w.heap.size → b ≠ P → b ≠ Bs → b ≠ Bn → some b ≠ rn → some b ≠ rs → w'.heap[b]? = w.heap[b]?
section
variable {P Bs Bn : Nat} {rn rs : Option Nat} {w w1 : World}
theorem frp_refl (w : World) : FrP P Bs Bn rn rs w w := ⟨rfl, rfl, rfl, Nat.le_refl _, fun _ _ _ _ _ _ _ => rfl⟩
theorem FrP.alloc (h : FrP P Bs Bn rn rs w w1) (o : Obj) : FrP P Bs Bn rn rs w (w1.alloc o) :=
  ⟨h.os, h.tape, h.output, by have := h.size; simp; omega, fun b hb h1 h2 h3 h4 h5 => (Below.heap_alloc w1 o b (Nat.lt_of_lt_of_le hb h.size)).trans (h.block b hb h1 h2 h3 h4 h5)⟩
theorem FrP.drew (h : FrP P Bs Bn rn rs w w1) : FrP P Bs Bn rn rs w w1.drew := ⟨h.os, h.tape, h.output, h.size, h.block⟩
theorem FrP.setBlock (h : FrP P Bs Bn rn rs w w1) {b : Nat} (hb : b = Bs ∨ b = Bn) (o : Obj) : FrP P Bs Bn rn rs w (setBlock w1 b o) :=
  ⟨h.os, h.tape, h.output, by rw [setBlock_size]; exact h.size, fun c hc h1 h2 h3 h4 h5 => (setBlock_far (by rcases hb with rfl | rfl <;> assumption)).trans (h.block c hc h1 h2 h3 h4 h5)⟩
theorem FrP.setCell (h : FrP P Bs Bn rn rs w w1) (i : Nat) (v : Value) : FrP P Bs Bn rn rs w (w1.setCell ⟨P, i, none⟩ v) :=
  ⟨h.os, h.tape, h.output, by have := h.size; simpa using this, fun c hc h1 h2 h3 h4 h5 => (Below.heap_setCell w1 ⟨P, i, none⟩ v c h1).trans (h.block c hc h1 h2 h3 h4 h5)⟩
theorem FrP.grown {w2 : World} {row : Option Nat} (h : FrP P Bs Bn rn rs w w1) (hg : w1.grownBy w2 row) (hr : row = rn ∨ row = rs) : FrP P Bs Bn rn rs w w2 :=
  ⟨hg.os.trans h.os, hg.tape.trans h.tape, hg.output.trans h.output, Nat.le_trans h.size hg.size, fun c hc h1 h2 h3 h4 h5 => (hg.block c (Nat.lt_of_lt_of_le hc h.size) (by rcases hr with rfl | rfl <;> assumption)).trans (h.block c hc h1 h2 h3 h4 h5)⟩
end
theorem keep_at {l : List Nat} {w wl : World} (hL : KeepsBs l w wl) {b : Nat} (hb : b ∈ l) {o : Obj} (h : w.heap[b]? = some o) : wl.heap[b]? = some o := (hL b hb).trans h
theorem row_ne {w : World} {base : Nat} {e : TypeId} {size : Nat} {v : Value} {n : Nat} {xs : List Value} (h : w.ownsRow base e size v n xs) {b : Nat} {o : Obj} (hb : w.heap[b]? = some o) (ho : ∀ cs, o ≠ .cells cs e (0, 0)) : some b ≠ v.ownBlock := by
  intro e1
  rcases h.2 with ⟨rfl, -⟩ | ⟨g, cap, cur, rfl, -, hg, -⟩
  · cases e1
  · simp only [Value.ownBlock, Option.some.injEq] at e1
    subst e1
    rw [hb] at hg
    exact ho _ (Option.some.inj hg)
theorem ne_of_obj {w : World} {b c : Nat} {o o' : Obj} (h1 : w.heap[b]? = some o) (h2 : w.heap[c]? = some o') (h : o ≠ o') : b ≠ c := by
  intro e
  rw [e, h2] at h1
  exact h (Option.some.inj h1).symm
theorem own_slice {w : World} {base : Nat} {e : TypeId} {size : Nat} {v : Value} {n : Nat} {xs : List Value} (h : w.ownsRow base e size v n xs) : ∃ A C, v = .slice A n C := by
  rcases h.2 with ⟨rfl, rfl⟩ | ⟨g, cap, cur, rfl, -⟩
  · exact ⟨_, _, rfl⟩
  · exact ⟨_, _, rfl⟩
theorem row_setBlock {w : World} {base : Nat} {e : TypeId} {size : Nat} {v : Value} {n : Nat} {xs : List Value} {b : Nat} {o : Obj} (h : w.ownsRow base e size v n xs) (hb : ∀ cs, w.heap[b]? ≠ some (.cells cs e (0, 0))) : (setBlock w b o).ownsRow base e size v n xs := by
  refine ⟨h.1, ?_⟩
  rcases h.2 with hn | ⟨g, cap, cur, rfl, hb', hg, rest⟩
  · exact .inl hn
  · refine .inr ⟨g, cap, cur, rfl, hb', ?_, rest⟩
    rw [setBlock_far (by rintro rfl; exact hb _ hg)]
    exact hg
def AtPut (base P : Nat) (vn vs : Value) (Bs Bn : Nat) (T : List (Shp × List UInt8)) (w : World) (e : Ending) (w' : World) : Prop :=
  e = .returned (.tuple #[]) ∧ ∃ vn' vs', NamerAt base P vn' vs' Bs Bn T w' ∧ FrP P Bs Bn vn.ownBlock vs.ownBlock w w' ∧
    (vn'.ownBlock = vn.ownBlock ∨ ∃ g, vn'.ownBlock = some g ∧ w.heap.size ≤ g) ∧ (vs'.ownBlock = vs.ownBlock ∨ ∃ g, vs'.ownBlock = some g ∧ w.heap.size ≤ g)
theorem shape_info : (Tryz.prog.info? 74).map (fun i => (i.zero, i.size, i.bytes)) = some (some (.agg #[.int .i64 0, .int .i64 0, .bool false, .bool false]), 4, 24) := by kernel_rfl
theorem str_info : (Tryz.prog.info? 9).map (fun i => (i.zero, i.size, i.bytes)) = some (some (.string ⟨#[]⟩), 1, 16) := by kernel_rfl
theorem wp_append_at {P : Program} {w : World} {o : Oper} {a : Act} {K : Act → World → Prop} {Q : Exit → Act → World → Prop} (s x : Operand) (t : TypeId)
    (ho : o.op = .call { callee := .builtin .append, args := #[s, x], argTypes := #[t, t] })
    (base : Nat) (e : TypeId) (i : TypeInfo) (z : Value) (size bytes : Nat) (ht : P.underlying t = some (.slice e)) (hi : P.info? e = some i) (hz : i.zero = some z)
    (hsize : i.size = size) (hby : i.bytes = bytes) (hzs : z.cells.size = size) (hsz : 0 < size)
    (v : Value) (n : Nat) (xs : List Value) (hs : a.eval s = v) (hown : w.ownsRow base e size v n xs)
    (ad : Addr) (m c : Nat) (news : List Value) (hx : a.eval x = .slice (some ad) m c) (hl : news.length = m * size) (hnews : ∀ j u, news[j]? = some u → w.cell? (ad.add j) = some u) (h1 : ∀ u ∈ news, u.oneCell' = true)
    (h63 : n + m ≤ maxLen) (hbytes : (n + m) * bytes ≤ 140737488355328) (hbase : base ≤ w.heap.size)
    (h : ∀ v' w', w'.ownsRow base e size v' (n + m) (xs ++ news) → w.grownBy w' v.ownBlock → (v'.ownBlock = v.ownBlock ∨ v'.ownBlock = some w.heap.size) → K (a.put o.dst v') w') : o.wp P a w K Q := by
  obtain ⟨v', w', hr, h2, h3, h4, h5⟩ := run_append_own_at (P := P) w base t o.type e i z size bytes ht hi hz hsize hby hzs hsz v n xs hown ad m c news hl hnews h1 h63 hbytes hbase
  unfold Oper.wp execOp
  simp only [ho, resolve, invoke, builtin, Sem.run_bind, Sem.run_pure, Result.andThen_ok, List.map_toArray, List.map_cons, List.map_nil, hs, hx, hr]
  exact h v' w' h2 h3 h5
theorem keeps_alloc {l : List Nat} {w : World} (h : ∀ b ∈ l, b < w.heap.size) (o : Obj) : KeepsBs l w (w.alloc o) := fun b hb => Below.heap_alloc w o b (h b hb)
theorem keeps_grown {l : List Nat} {w w' : World} {row : Option Nat} (hg : w.grownBy w' row) (h : ∀ b ∈ l, b < w.heap.size ∧ some b ≠ row) : KeepsBs l w w' := fun b hb => hg.block b (h b hb).1 (h b hb).2
theorem keeps_setCell {l : List Nat} {w : World} {p i : Nat} {v : Value} (h : ∀ b ∈ l, b ≠ p) : KeepsBs l w (w.setCell ⟨p, i, none⟩ v) := fun b hb => Below.heap_setCell w ⟨p, i, none⟩ v b (h b hb)
theorem cells_news {w : World} {g : Nat} {cs : List Value} {T : TypeId} {fz : Nat × Nat} (h : w.heap[g]? = some (.cells cs.toArray T fz)) : ∀ (j : Nat) (u : Value), cs[j]? = some u → w.cell? ((⟨g, 0, none⟩ : Addr).add j) = some u := by
  intro j u hu
  have : (⟨g, 0, none⟩ : Addr).add j = ⟨g, j, none⟩ := by unfold Addr.add; split <;> simp_all
  rw [this, cell_of_block h]
  simpa using hu
theorem rows_ne {w : World} {b1 b2 : Nat} {e1 e2 : TypeId} {s1 s2 : Nat} {v1 v2 : Value} {n1 n2 : Nat} {x1 x2 : List Value} (h1 : w.ownsRow b1 e1 s1 v1 n1 x1) (h2 : w.ownsRow b2 e2 s2 v2 n2 x2) (he : e1 ≠ e2) : v1.ownBlock = none ∨ v1.ownBlock ≠ v2.ownBlock := by
  rcases h1.2 with ⟨rfl, -⟩ | ⟨g, cap, cur, rfl, -, hg, -⟩
  · exact .inl rfl
  · refine .inr (row_ne h2 hg ?_)
    intro cs e
    injection e with e1 e2
    exact he e2
theorem row_setCell {w : World} {base : Nat} {e : TypeId} {size : Nat} {v u : Value} {n : Nat} {xs : List Value} {b i : Nat} (h : w.ownsRow base e size v n xs) (hb : ∀ cs, w.heap[b]? ≠ some (.cells cs e (0, 0))) : (w.setCell ⟨b, i, none⟩ u).ownsRow base e size v n xs := by
  refine ⟨h.1, ?_⟩
  rcases h.2 with hn | ⟨g, cap, cur, rfl, hb', hg, rest⟩
  · exact .inl hn
  · refine .inr ⟨g, cap, cur, rfl, hb', ?_, rest⟩
    rw [Below.heap_setCell w ⟨b, i, none⟩ u g (by rintro rfl; exact hb _ hg)]
    exact hg
theorem put_end {base P Bs Bn n : Nat} {A1 A2 A3 A4 : Option Addr} {C1 C2 C3 C4 : Nat} {T : List (Shp × List UInt8)} {k : Shp} {nm : List UInt8} {nv : Value} {f o : Int} {u v : Bool} {w W : World} {eS eN : Array MapEntry} {e : Ending} (he : e = .returned (.tuple #[]))
    (hP : W.heap[P]? = some (.cells #[.slice A3 (n + 1) C3, .slice A4 (n + 1) C4, .map (some Bs), .map (some Bn)] 72 (0, 0)))
    (rN : W.ownsRow base 9 1 (.slice A3 (n + 1) C3) (n + 1) (keysN T ++ [nv])) (rS : W.ownsRow base 74 4 (.slice A4 (n + 1) C4) (n + 1) ((T.flatMap fun p => shpC p.1) ++ [.int .i64 f, .int .i64 o, .bool u, .bool v]))
    (mS : W.heap[Bs]? = some (.map (eS.push ⟨.agg #[.int .i64 f, .int .i64 o, .bool u, .bool v], .int .i64 n, n⟩) (n + 1))) (mN : W.heap[Bn]? = some (.map (eN.push ⟨nv, .int .i64 n, n⟩) (n + 1)))
    (t1 : entsOf (keysS (T ++ [(k, nm)])) = eS.push ⟨.agg #[.int .i64 f, .int .i64 o, .bool u, .bool v], .int .i64 n, n⟩) (t2 : entsOf (keysN (T ++ [(k, nm)])) = eN.push ⟨nv, .int .i64 n, n⟩)
    (hlt : (T ++ [(k, nm)]).length = n + 1) (hk : k = ⟨f, o, u, v⟩) (hnv : strV nm = nv) (hne : Bs ≠ Bn) (hlo : base ≤ P ∧ base ≤ Bs ∧ base ≤ Bn)
    (hF : FrP P Bs Bn (Value.slice A1 n C1).ownBlock (Value.slice A2 n C2).ownBlock w W)
    (k1 : (Value.slice A3 (n + 1) C3).ownBlock = (Value.slice A1 n C1).ownBlock ∨ ∃ g, (Value.slice A3 (n + 1) C3).ownBlock = some g ∧ w.heap.size ≤ g)
    (k2 : (Value.slice A4 (n + 1) C4).ownBlock = (Value.slice A2 n C2).ownBlock ∨ ∃ g, (Value.slice A4 (n + 1) C4).ownBlock = some g ∧ w.heap.size ≤ g) :
    AtPut base P (.slice A1 n C1) (.slice A2 n C2) Bs Bn (T ++ [(k, nm)]) w e W := by
  refine ⟨he, _, _, ⟨hP, ?_, ?_, ?_, ?_, hne, hlo⟩, hF, k1, k2⟩
  · rw [hlt]
    have : keysN (T ++ [(k, nm)]) = keysN T ++ [nv] := by simp [keysN, hnv]
    rw [this]; exact rN
  · rw [hlt]
    have : ((T ++ [(k, nm)]).flatMap fun p => shpC p.1) = (T.flatMap fun p => shpC p.1) ++ [.int .i64 f, .int .i64 o, .bool u, .bool v] := by simp [hk, shpC]
    rw [this]; exact rS
  · rw [hlt, t1]; exact mS
  · rw [hlt, t2]; exact mN
set_option maxRecDepth 100000 in
set_option maxHeartbeats 8000000 in
theorem put_any (base c P : Nat) (vn vs : Value) (Bs Bn : Nat) (T : List (Shp × List UInt8)) (f o : Int) (u v : Bool) (nm : List UInt8) (w : World) (hN : NamerAt base P vn vs Bs Bn T w)
    (hC : w.heap[c]? = some (.cells #[.pointer (some ⟨P, 0, none⟩)] 40 (0, 0)))
    (hlen : T.length ≤ 1000) (hT : ∀ p ∈ T, p ∈ tableP) (hk : ((⟨f, o, u, v⟩ : Shp), nm) ∈ tableP) (hkn : (⟨f, o, u, v⟩ : Shp) ∉ T.map (·.1)) (hnn : nm ∉ T.map (·.2)) :
    Calls Tryz.prog 33 #[.agg #[.int .i64 f, .int .i64 o, .bool u, .bool v], strV nm, .pointer (some ⟨c, 0, none⟩)] w (AtPut base P vn vs Bs Bn (T ++ [(⟨f, o, u, v⟩, nm)]) w) := by
  obtain ⟨k, hkd⟩ : ∃ k : Shp, k = ⟨f, o, u, v⟩ := ⟨_, rfl⟩
  have hsv : shpV k = .agg #[.int .i64 f, .int .i64 o, .bool u, .bool v] := by rw [hkd]; rfl
  rw [← hkd] at hk hkn ⊢
  obtain ⟨hP, hrN, hrS, hbS, hbN, hne, hlo⟩ := hN
  obtain ⟨n, hn⟩ : ∃ n, T.length = n := ⟨_, rfl⟩
  rw [hn] at hrN hrS hbS hbN hlen
  obtain ⟨klS, hklS⟩ := keyed_shape hk
  have hshort := table_short _ hk
  have hklN := keyed_str nm (by simp only at hshort; omega)
  have hesS : ∀ e ∈ (entsOf (keysS T)).toList, ∃ l, keyOf Tryz.prog 74 e.key = some l := by
    intro e he
    obtain ⟨i, hi, rfl⟩ := entsOf_mem he
    have hi' : i < T.length := by simpa [keysS] using hi
    have := keyed_shape (hT _ (List.getElem_mem hi'))
    simpa [keysS] using this
  have hnewS : ∀ e ∈ (entsOf (keysS T)).toList, e.key ≠ shpV k := by
    intro e he e1
    obtain ⟨i, hi, rfl⟩ := entsOf_mem he
    have hi' : i < T.length := by simpa [keysS] using hi
    refine hkn (List.mem_map.2 ⟨T[i], List.getElem_mem hi', ?_⟩)
    simp only [keysS, List.getElem_map] at e1
    exact shpV_inj e1
  have hesN : ∀ e ∈ (entsOf (keysN T)).toList, ∃ l, keyOf Tryz.prog 9 e.key = some l := by
    intro e he
    obtain ⟨i, hi, rfl⟩ := entsOf_mem he
    have hi' : i < T.length := by simpa [keysN] using hi
    have h5 := table_short _ (hT _ (List.getElem_mem hi'))
    have := keyed_str (T[i]).2 (by omega)
    exact ⟨_, by simpa [keysN] using this⟩
  have hnewN : ∀ e ∈ (entsOf (keysN T)).toList, e.key ≠ strV nm := by
    intro e he e1
    obtain ⟨i, hi, rfl⟩ := entsOf_mem he
    have hi' : i < T.length := by simpa [keysN] using hi
    refine hnn (List.mem_map.2 ⟨T[i], List.getElem_mem hi', ?_⟩)
    simp only [keysN, List.getElem_map] at e1
    exact strV_inj e1
  have hbornS : ∀ e ∈ (entsOf (keysS T)).toList, e.born < n := by
    intro e he
    obtain ⟨i, hi, rfl⟩ := entsOf_mem he
    simpa [keysS, hn] using hi
  have hbornN : ∀ e ∈ (entsOf (keysN T)).toList, e.born < n := by
    intro e he
    obtain ⟨i, hi, rfl⟩ := entsOf_mem he
    simpa [keysN, hn] using hi
  have hnewT : entsOf (keysS (T ++ [(k, nm)])) = (entsOf (keysS T)).push ⟨shpV k, .int .i64 n, n⟩ := by
    simp only [keysS, List.map_append, List.map_cons, List.map_nil]
    rw [entsOf_snoc]
    simp [hn]
  have hnewU : entsOf (keysN (T ++ [(k, nm)])) = (entsOf (keysN T)).push ⟨strV nm, .int .i64 n, n⟩ := by
    simp only [keysN, List.map_append, List.map_cons, List.map_nil]
    rw [entsOf_snoc]
    simp [hn]
  have hlenT : (T ++ [(k, nm)]).length = n + 1 := by simp [hn]
  obtain ⟨A1, C1, rfl⟩ := own_slice hrN
  obtain ⟨A2, C2, rfl⟩ := own_slice hrS
  have neP : P ≠ Bs ∧ P ≠ Bn := ⟨ne_of_obj hP hbS (fun e => by cases e), ne_of_obj hP hbN (fun e => by cases e)⟩
  have neC : c ≠ P ∧ c ≠ Bs ∧ c ≠ Bn := ⟨ne_of_obj hC hP (fun e => by cases e), ne_of_obj hC hbS (fun e => by cases e), ne_of_obj hC hbN (fun e => by cases e)⟩
  have lt1 : c < w.heap.size := block_lt hC
  have lt2 : P < w.heap.size := block_lt hP
  have lt3 : Bs < w.heap.size := block_lt hbS
  have lt4 : Bn < w.heap.size := block_lt hbN
  have rC := row_ne hrN hC (by intro cs e; cases e)
  have hz : ∀ u : World, (zeroValue 3).run Tryz.prog u = .ok (.int .i64 0) u := fun u => by kernel_rfl
  obtain ⟨S, hnv⟩ : ∃ S : ByteArray, strV nm = .string S := ⟨_, rfl⟩
  obtain ⟨eS, heS⟩ : ∃ v, entsOf (keysS T) = v := ⟨_, rfl⟩
  obtain ⟨eN, heN⟩ : ∃ v, entsOf (keysN T) = v := ⟨_, rfl⟩
  rw [hnv] at hnewN hklN hnewU ⊢
  rw [heS] at hbS hesS hnewS hbornS hnewT
  rw [heN] at hbN hesN hnewN hbornN hnewU
  rw [hsv] at hnewS hklS hnewT
  have HSV := Lib.hid hsv
  have HKD := Lib.hid hkd
  have HNV := Lib.hid hnv
  have HES := Lib.hid hesS
  have HEN := Lib.hid hesN
  have HWS := Lib.hid hnewS
  have HWN := Lib.hid hnewN
  have HBS := Lib.hid hbornS
  have HBN := Lib.hid hbornN
  have HT1 := Lib.hid hnewT
  have HT2 := Lib.hid hnewU
  have HLT := Lib.hid hlenT
  have HKS := Lib.hid hklS
  have HKN := Lib.hid hklN
  have HZ := Lib.hid hz
  have HP := Lib.hid hP
  have HC := Lib.hid hC
  have RN := Lib.hid hrN
  have RS := Lib.hid hrS
  have MS := Lib.hid hbS
  have MN := Lib.hid hbN
  clear hsv hkd hP hC hrN hrS hbS hbN hnv hesS hesN hnewS hnewN hbornS hbornN hnewT hnewU hlenT hklS hklN hz hn heS heN hkn hnn hT hk hshort
  go_enter Tryz.func33, Tryz.ntmps33
  go_wp2_with fail
  refine any_begin (keepsBs_goes [c, P, w.heap.size]) (by kernel_rfl) ?_
  generalize hW : World.drew _ = W0
  have fC : W0.heap[c]? = some (.cells #[.pointer (some ⟨P, 0, none⟩)] 40 (0, 0)) := by rw [← hW]; exact b_alloc HC.out _
  have fP : W0.heap[P]? = some (.cells #[.slice A1 n C1, .slice A2 n C2, .map (some Bs), .map (some Bn)] 72 (0, 0)) := by rw [← hW]; exact b_alloc HP.out _
  have fS : W0.heap[w.heap.size]? = some (.cells #[.int .i64 f, .int .i64 o, .bool u, .bool v] 74 (0, 0)) := by rw [← hW]; exact b_new _ _
  have mS : Aside (W0.heap[Bs]? = some (.map eS n)) := ⟨by rw [← hW]; exact b_alloc MS.out _⟩
  have mN : Aside (W0.heap[Bn]? = some (.map eN n)) := ⟨by rw [← hW]; exact b_alloc MN.out _⟩
  have rN : Aside (W0.ownsRow base 9 1 (.slice A1 n C1) n (keysN T)) := ⟨by rw [← hW]; exact World.ownsRow.drew (RN.out.alloc _)⟩
  have rS : Aside (W0.ownsRow base 74 4 (.slice A2 n C2) n (T.flatMap fun p => shpC p.1)) := ⟨by rw [← hW]; exact World.ownsRow.drew (RS.out.alloc _)⟩
  have hF : Aside (FrP P Bs Bn (Value.slice A1 n C1).ownBlock (Value.slice A2 n C2).ownBlock w W0) := ⟨by rw [← hW]; exact ((frp_refl _).alloc _).drew⟩
  have zW : W0.heap.size = w.heap.size + 1 := by rw [← hW]; simp
  have ZW := Lib.hid zW
  clear hW zW
  have FC := Lib.hid fC
  have FP := Lib.hid fP
  have FS := Lib.hid fS
  clear fC fP fS
  refine any_take (keepsBs_goes [c, P, w.heap.size]) 0 ?_ ?_ (by simp only [List.getElem?_toArray, List.getElem?_cons_succ, List.getElem?_cons_zero]; exact rfl) (by kernel_rfl) (by kernel_rfl) (by kernel_rfl) (fun _ _ _ _ _ h => h) (by rfl) ?_ ?_
  rotate_left
  · intro wl hL
    have lc := keep_at hL (by simp) FC.out; have lp := keep_at hL (by simp) FP.out; have ls := keep_at hL (by simp) FS.out; have c0 : wl.cell? ⟨c, 0, none⟩ = some (.pointer (some ⟨P, 0, none⟩)) := by (rw [cell_of_block lc]; rfl)
    have p0 : wl.cell? ⟨P, 0, none⟩ = some (.slice A1 n C1) := by (rw [cell_of_block lp]; rfl)
    have p1 : wl.cell? ⟨P, 1, none⟩ = some (.slice A2 n C2) := by (rw [cell_of_block lp]; rfl)
    have p2 : wl.cell? ⟨P, 2, none⟩ = some (.map (some Bs)) := by (rw [cell_of_block lp]; rfl)
    have p3 : wl.cell? ⟨P, 3, none⟩ = some (.map (some Bn)) := by (rw [cell_of_block lp]; rfl)
    have s0 : wl.cell? ⟨w.heap.size, 0, none⟩ = some (.int .i64 f) := by (rw [cell_of_block ls]; rfl)
    have s1 : wl.cell? ⟨w.heap.size, 1, none⟩ = some (.int .i64 o) := by (rw [cell_of_block ls]; rfl)
    have s2 : wl.cell? ⟨w.heap.size, 2, none⟩ = some (.bool u) := by (rw [cell_of_block ls]; rfl)
    have s3 : wl.cell? ⟨w.heap.size, 3, none⟩ = some (.bool v) := by (rw [cell_of_block ls]; rfl)
    clear lc lp ls
    go_simp
    try with_reducible rfl
  try simp only [Act.put, List.setIfInBounds_toArray, List.set_cons_zero, List.set_cons_succ]
  refine any_take (keepsBs_goes [c, P, w.heap.size]) 1 ?_ ?_ (by simp only [List.getElem?_toArray, List.getElem?_cons_succ, List.getElem?_cons_zero]; exact rfl) (by kernel_rfl) (by kernel_rfl) (by kernel_rfl) (fun _ _ _ _ _ h => h) (by rfl) ?_ ?_
  rotate_left
  · intro wl hL
    have lc := keep_at hL (by simp) FC.out; have lp := keep_at hL (by simp) FP.out; have ls := keep_at hL (by simp) FS.out; have c0 : wl.cell? ⟨c, 0, none⟩ = some (.pointer (some ⟨P, 0, none⟩)) := by (rw [cell_of_block lc]; rfl)
    have p0 : wl.cell? ⟨P, 0, none⟩ = some (.slice A1 n C1) := by (rw [cell_of_block lp]; rfl)
    have p1 : wl.cell? ⟨P, 1, none⟩ = some (.slice A2 n C2) := by (rw [cell_of_block lp]; rfl)
    have p2 : wl.cell? ⟨P, 2, none⟩ = some (.map (some Bs)) := by (rw [cell_of_block lp]; rfl)
    have p3 : wl.cell? ⟨P, 3, none⟩ = some (.map (some Bn)) := by (rw [cell_of_block lp]; rfl)
    have s0 : wl.cell? ⟨w.heap.size, 0, none⟩ = some (.int .i64 f) := by (rw [cell_of_block ls]; rfl)
    have s1 : wl.cell? ⟨w.heap.size, 1, none⟩ = some (.int .i64 o) := by (rw [cell_of_block ls]; rfl)
    have s2 : wl.cell? ⟨w.heap.size, 2, none⟩ = some (.bool u) := by (rw [cell_of_block ls]; rfl)
    have s3 : wl.cell? ⟨w.heap.size, 3, none⟩ = some (.bool v) := by (rw [cell_of_block ls]; rfl)
    clear lc lp ls
    go_simp
    try with_reducible rfl
  try simp only [Act.put, List.setIfInBounds_toArray, List.set_cons_zero, List.set_cons_succ]
  refine any_take (keepsBs_goes [c, P, w.heap.size]) 2 ?_ ?_ (by simp only [List.getElem?_toArray, List.getElem?_cons_succ, List.getElem?_cons_zero]; exact rfl) (by kernel_rfl) (by kernel_rfl) (by kernel_rfl) (fun _ _ _ _ _ h => h) (by rfl) ?_ ?_
  rotate_left
  · intro wl hL
    have lc := keep_at hL (by simp) FC.out; have lp := keep_at hL (by simp) FP.out; have ls := keep_at hL (by simp) FS.out; have c0 : wl.cell? ⟨c, 0, none⟩ = some (.pointer (some ⟨P, 0, none⟩)) := by (rw [cell_of_block lc]; rfl)
    have p0 : wl.cell? ⟨P, 0, none⟩ = some (.slice A1 n C1) := by (rw [cell_of_block lp]; rfl)
    have p1 : wl.cell? ⟨P, 1, none⟩ = some (.slice A2 n C2) := by (rw [cell_of_block lp]; rfl)
    have p2 : wl.cell? ⟨P, 2, none⟩ = some (.map (some Bs)) := by (rw [cell_of_block lp]; rfl)
    have p3 : wl.cell? ⟨P, 3, none⟩ = some (.map (some Bn)) := by (rw [cell_of_block lp]; rfl)
    have s0 : wl.cell? ⟨w.heap.size, 0, none⟩ = some (.int .i64 f) := by (rw [cell_of_block ls]; rfl)
    have s1 : wl.cell? ⟨w.heap.size, 1, none⟩ = some (.int .i64 o) := by (rw [cell_of_block ls]; rfl)
    have s2 : wl.cell? ⟨w.heap.size, 2, none⟩ = some (.bool u) := by (rw [cell_of_block ls]; rfl)
    have s3 : wl.cell? ⟨w.heap.size, 3, none⟩ = some (.bool v) := by (rw [cell_of_block ls]; rfl)
    clear lc lp ls
    go_simp
    try with_reducible rfl
  try simp only [Act.put, List.setIfInBounds_toArray, List.set_cons_zero, List.set_cons_succ]
  refine any_take (keepsBs_goes [c, P, w.heap.size]) 3 ?_ ?_ (by simp only [List.getElem?_toArray, List.getElem?_cons_succ, List.getElem?_cons_zero]; exact rfl) (by kernel_rfl) (by kernel_rfl) (by kernel_rfl) (fun _ _ _ _ _ h => h) (by rfl) ?_ ?_
  rotate_left
  · intro wl hL
    have lc := keep_at hL (by simp) FC.out; have lp := keep_at hL (by simp) FP.out; have ls := keep_at hL (by simp) FS.out; have c0 : wl.cell? ⟨c, 0, none⟩ = some (.pointer (some ⟨P, 0, none⟩)) := by (rw [cell_of_block lc]; rfl)
    have p0 : wl.cell? ⟨P, 0, none⟩ = some (.slice A1 n C1) := by (rw [cell_of_block lp]; rfl)
    have p1 : wl.cell? ⟨P, 1, none⟩ = some (.slice A2 n C2) := by (rw [cell_of_block lp]; rfl)
    have p2 : wl.cell? ⟨P, 2, none⟩ = some (.map (some Bs)) := by (rw [cell_of_block lp]; rfl)
    have p3 : wl.cell? ⟨P, 3, none⟩ = some (.map (some Bn)) := by (rw [cell_of_block lp]; rfl)
    have s0 : wl.cell? ⟨w.heap.size, 0, none⟩ = some (.int .i64 f) := by (rw [cell_of_block ls]; rfl)
    have s1 : wl.cell? ⟨w.heap.size, 1, none⟩ = some (.int .i64 o) := by (rw [cell_of_block ls]; rfl)
    have s2 : wl.cell? ⟨w.heap.size, 2, none⟩ = some (.bool u) := by (rw [cell_of_block ls]; rfl)
    have s3 : wl.cell? ⟨w.heap.size, 3, none⟩ = some (.bool v) := by (rw [cell_of_block ls]; rfl)
    clear lc lp ls
    go_simp
    try with_reducible rfl
  try simp only [Act.put, List.setIfInBounds_toArray, List.set_cons_zero, List.set_cons_succ]
  refine any_take (keepsBs_goes [c, P, w.heap.size]) 4 ?_ ?_ (by simp only [List.getElem?_toArray, List.getElem?_cons_succ, List.getElem?_cons_zero]; exact rfl) (by kernel_rfl) (by kernel_rfl) (by kernel_rfl) (fun _ _ _ _ _ h => h) (by rfl) ?_ ?_
  rotate_left
  · intro wl hL
    have lc := keep_at hL (by simp) FC.out; have lp := keep_at hL (by simp) FP.out; have ls := keep_at hL (by simp) FS.out; have c0 : wl.cell? ⟨c, 0, none⟩ = some (.pointer (some ⟨P, 0, none⟩)) := by (rw [cell_of_block lc]; rfl)
    have p0 : wl.cell? ⟨P, 0, none⟩ = some (.slice A1 n C1) := by (rw [cell_of_block lp]; rfl)
    have p1 : wl.cell? ⟨P, 1, none⟩ = some (.slice A2 n C2) := by (rw [cell_of_block lp]; rfl)
    have p2 : wl.cell? ⟨P, 2, none⟩ = some (.map (some Bs)) := by (rw [cell_of_block lp]; rfl)
    have p3 : wl.cell? ⟨P, 3, none⟩ = some (.map (some Bn)) := by (rw [cell_of_block lp]; rfl)
    have s0 : wl.cell? ⟨w.heap.size, 0, none⟩ = some (.int .i64 f) := by (rw [cell_of_block ls]; rfl)
    have s1 : wl.cell? ⟨w.heap.size, 1, none⟩ = some (.int .i64 o) := by (rw [cell_of_block ls]; rfl)
    have s2 : wl.cell? ⟨w.heap.size, 2, none⟩ = some (.bool u) := by (rw [cell_of_block ls]; rfl)
    have s3 : wl.cell? ⟨w.heap.size, 3, none⟩ = some (.bool v) := by (rw [cell_of_block ls]; rfl)
    clear lc lp ls
    go_simp
    try with_reducible rfl
  try simp only [Act.put, List.setIfInBounds_toArray, List.set_cons_zero, List.set_cons_succ]
  refine any_take (keepsBs_goes [c, P, w.heap.size]) 5 ?_ ?_ (by simp only [List.getElem?_toArray, List.getElem?_cons_succ, List.getElem?_cons_zero]; exact rfl) (by kernel_rfl) (by kernel_rfl) (by kernel_rfl) (fun _ _ _ _ _ h => h) (by rfl) ?_ ?_
  rotate_left
  · intro wl hL
    have lc := keep_at hL (by simp) FC.out; have lp := keep_at hL (by simp) FP.out; have ls := keep_at hL (by simp) FS.out; have c0 : wl.cell? ⟨c, 0, none⟩ = some (.pointer (some ⟨P, 0, none⟩)) := by (rw [cell_of_block lc]; rfl)
    have p0 : wl.cell? ⟨P, 0, none⟩ = some (.slice A1 n C1) := by (rw [cell_of_block lp]; rfl)
    have p1 : wl.cell? ⟨P, 1, none⟩ = some (.slice A2 n C2) := by (rw [cell_of_block lp]; rfl)
    have p2 : wl.cell? ⟨P, 2, none⟩ = some (.map (some Bs)) := by (rw [cell_of_block lp]; rfl)
    have p3 : wl.cell? ⟨P, 3, none⟩ = some (.map (some Bn)) := by (rw [cell_of_block lp]; rfl)
    have s0 : wl.cell? ⟨w.heap.size, 0, none⟩ = some (.int .i64 f) := by (rw [cell_of_block ls]; rfl)
    have s1 : wl.cell? ⟨w.heap.size, 1, none⟩ = some (.int .i64 o) := by (rw [cell_of_block ls]; rfl)
    have s2 : wl.cell? ⟨w.heap.size, 2, none⟩ = some (.bool u) := by (rw [cell_of_block ls]; rfl)
    have s3 : wl.cell? ⟨w.heap.size, 3, none⟩ = some (.bool v) := by (rw [cell_of_block ls]; rfl)
    clear lc lp ls
    go_simp
    try with_reducible rfl
  try simp only [Act.put, List.setIfInBounds_toArray, List.set_cons_zero, List.set_cons_succ]
  refine any_take (keepsBs_goes [c, P, w.heap.size]) 6 ?_ ?_ (by simp only [List.getElem?_toArray, List.getElem?_cons_succ, List.getElem?_cons_zero]; exact rfl) (by kernel_rfl) (by kernel_rfl) (by kernel_rfl) (fun _ _ _ _ _ h => h) (by rfl) ?_ ?_
  rotate_left
  · intro wl hL
    have lc := keep_at hL (by simp) FC.out; have lp := keep_at hL (by simp) FP.out; have ls := keep_at hL (by simp) FS.out; have c0 : wl.cell? ⟨c, 0, none⟩ = some (.pointer (some ⟨P, 0, none⟩)) := by (rw [cell_of_block lc]; rfl)
    have p0 : wl.cell? ⟨P, 0, none⟩ = some (.slice A1 n C1) := by (rw [cell_of_block lp]; rfl)
    have p1 : wl.cell? ⟨P, 1, none⟩ = some (.slice A2 n C2) := by (rw [cell_of_block lp]; rfl)
    have p2 : wl.cell? ⟨P, 2, none⟩ = some (.map (some Bs)) := by (rw [cell_of_block lp]; rfl)
    have p3 : wl.cell? ⟨P, 3, none⟩ = some (.map (some Bn)) := by (rw [cell_of_block lp]; rfl)
    have s0 : wl.cell? ⟨w.heap.size, 0, none⟩ = some (.int .i64 f) := by (rw [cell_of_block ls]; rfl)
    have s1 : wl.cell? ⟨w.heap.size, 1, none⟩ = some (.int .i64 o) := by (rw [cell_of_block ls]; rfl)
    have s2 : wl.cell? ⟨w.heap.size, 2, none⟩ = some (.bool u) := by (rw [cell_of_block ls]; rfl)
    have s3 : wl.cell? ⟨w.heap.size, 3, none⟩ = some (.bool v) := by (rw [cell_of_block ls]; rfl)
    clear lc lp ls
    go_simp
    try with_reducible rfl
  try simp only [Act.put, List.setIfInBounds_toArray, List.set_cons_zero, List.set_cons_succ]
  refine any_take (keepsBs_goes [c, P, w.heap.size]) 7 ?_ ?_ (by simp only [List.getElem?_toArray, List.getElem?_cons_succ, List.getElem?_cons_zero]; exact rfl) (by kernel_rfl) (by kernel_rfl) (by kernel_rfl) (fun _ _ _ _ _ h => h) (by rfl) ?_ ?_
  rotate_left
  · intro wl hL
    have lc := keep_at hL (by simp) FC.out; have lp := keep_at hL (by simp) FP.out; have ls := keep_at hL (by simp) FS.out; have c0 : wl.cell? ⟨c, 0, none⟩ = some (.pointer (some ⟨P, 0, none⟩)) := by (rw [cell_of_block lc]; rfl)
    have p0 : wl.cell? ⟨P, 0, none⟩ = some (.slice A1 n C1) := by (rw [cell_of_block lp]; rfl)
    have p1 : wl.cell? ⟨P, 1, none⟩ = some (.slice A2 n C2) := by (rw [cell_of_block lp]; rfl)
    have p2 : wl.cell? ⟨P, 2, none⟩ = some (.map (some Bs)) := by (rw [cell_of_block lp]; rfl)
    have p3 : wl.cell? ⟨P, 3, none⟩ = some (.map (some Bn)) := by (rw [cell_of_block lp]; rfl)
    have s0 : wl.cell? ⟨w.heap.size, 0, none⟩ = some (.int .i64 f) := by (rw [cell_of_block ls]; rfl)
    have s1 : wl.cell? ⟨w.heap.size, 1, none⟩ = some (.int .i64 o) := by (rw [cell_of_block ls]; rfl)
    have s2 : wl.cell? ⟨w.heap.size, 2, none⟩ = some (.bool u) := by (rw [cell_of_block ls]; rfl)
    have s3 : wl.cell? ⟨w.heap.size, 3, none⟩ = some (.bool v) := by (rw [cell_of_block ls]; rfl)
    clear lc lp ls
    go_simp
    try with_reducible rfl
  try simp only [Act.put, List.setIfInBounds_toArray, List.set_cons_zero, List.set_cons_succ]
  refine any_take (keepsBs_goes [c, P, w.heap.size]) 8 ?_ ?_ (by simp only [List.getElem?_toArray, List.getElem?_cons_succ, List.getElem?_cons_zero]; exact rfl) (by kernel_rfl) (by kernel_rfl) (by kernel_rfl) (fun _ _ _ _ _ h => h) (by rfl) ?_ ?_
  rotate_left
  · intro wl hL
    have lc := keep_at hL (by simp) FC.out; have lp := keep_at hL (by simp) FP.out; have ls := keep_at hL (by simp) FS.out; have c0 : wl.cell? ⟨c, 0, none⟩ = some (.pointer (some ⟨P, 0, none⟩)) := by (rw [cell_of_block lc]; rfl)
    have p0 : wl.cell? ⟨P, 0, none⟩ = some (.slice A1 n C1) := by (rw [cell_of_block lp]; rfl)
    have p1 : wl.cell? ⟨P, 1, none⟩ = some (.slice A2 n C2) := by (rw [cell_of_block lp]; rfl)
    have p2 : wl.cell? ⟨P, 2, none⟩ = some (.map (some Bs)) := by (rw [cell_of_block lp]; rfl)
    have p3 : wl.cell? ⟨P, 3, none⟩ = some (.map (some Bn)) := by (rw [cell_of_block lp]; rfl)
    have s0 : wl.cell? ⟨w.heap.size, 0, none⟩ = some (.int .i64 f) := by (rw [cell_of_block ls]; rfl)
    have s1 : wl.cell? ⟨w.heap.size, 1, none⟩ = some (.int .i64 o) := by (rw [cell_of_block ls]; rfl)
    have s2 : wl.cell? ⟨w.heap.size, 2, none⟩ = some (.bool u) := by (rw [cell_of_block ls]; rfl)
    have s3 : wl.cell? ⟨w.heap.size, 3, none⟩ = some (.bool v) := by (rw [cell_of_block ls]; rfl)
    clear lc lp ls
    go_simp
    try with_reducible rfl
  try simp only [Act.put, List.setIfInBounds_toArray, List.set_cons_zero, List.set_cons_succ]
  refine any_take (keepsBs_goes [c, P, w.heap.size]) 9 ?_ ?_ (by simp only [List.getElem?_toArray, List.getElem?_cons_succ, List.getElem?_cons_zero]; exact rfl) (by kernel_rfl) (by kernel_rfl) (by kernel_rfl) (fun _ _ _ _ _ h => h) (by rfl) ?_ ?_
  rotate_left
  · intro wl hL
    have lc := keep_at hL (by simp) FC.out; have lp := keep_at hL (by simp) FP.out; have ls := keep_at hL (by simp) FS.out; have c0 : wl.cell? ⟨c, 0, none⟩ = some (.pointer (some ⟨P, 0, none⟩)) := by (rw [cell_of_block lc]; rfl)
    have p0 : wl.cell? ⟨P, 0, none⟩ = some (.slice A1 n C1) := by (rw [cell_of_block lp]; rfl)
    have p1 : wl.cell? ⟨P, 1, none⟩ = some (.slice A2 n C2) := by (rw [cell_of_block lp]; rfl)
    have p2 : wl.cell? ⟨P, 2, none⟩ = some (.map (some Bs)) := by (rw [cell_of_block lp]; rfl)
    have p3 : wl.cell? ⟨P, 3, none⟩ = some (.map (some Bn)) := by (rw [cell_of_block lp]; rfl)
    have s0 : wl.cell? ⟨w.heap.size, 0, none⟩ = some (.int .i64 f) := by (rw [cell_of_block ls]; rfl)
    have s1 : wl.cell? ⟨w.heap.size, 1, none⟩ = some (.int .i64 o) := by (rw [cell_of_block ls]; rfl)
    have s2 : wl.cell? ⟨w.heap.size, 2, none⟩ = some (.bool u) := by (rw [cell_of_block ls]; rfl)
    have s3 : wl.cell? ⟨w.heap.size, 3, none⟩ = some (.bool v) := by (rw [cell_of_block ls]; rfl)
    clear lc lp ls
    go_simp
    try with_reducible rfl
  try simp only [Act.put, List.setIfInBounds_toArray, List.set_cons_zero, List.set_cons_succ]
  refine any_take (keepsBs_goes [c, P, w.heap.size]) 10 ?_ ?_ (by simp only [List.getElem?_toArray, List.getElem?_cons_succ, List.getElem?_cons_zero]; exact rfl) (by kernel_rfl) (by kernel_rfl) (by kernel_rfl) (fun _ _ _ _ _ h => h) (by rfl) ?_ ?_
  rotate_left
  · intro wl hL
    have lc := keep_at hL (by simp) FC.out; have lp := keep_at hL (by simp) FP.out; have ls := keep_at hL (by simp) FS.out; have c0 : wl.cell? ⟨c, 0, none⟩ = some (.pointer (some ⟨P, 0, none⟩)) := by (rw [cell_of_block lc]; rfl)
    have p0 : wl.cell? ⟨P, 0, none⟩ = some (.slice A1 n C1) := by (rw [cell_of_block lp]; rfl)
    have p1 : wl.cell? ⟨P, 1, none⟩ = some (.slice A2 n C2) := by (rw [cell_of_block lp]; rfl)
    have p2 : wl.cell? ⟨P, 2, none⟩ = some (.map (some Bs)) := by (rw [cell_of_block lp]; rfl)
    have p3 : wl.cell? ⟨P, 3, none⟩ = some (.map (some Bn)) := by (rw [cell_of_block lp]; rfl)
    have s0 : wl.cell? ⟨w.heap.size, 0, none⟩ = some (.int .i64 f) := by (rw [cell_of_block ls]; rfl)
    have s1 : wl.cell? ⟨w.heap.size, 1, none⟩ = some (.int .i64 o) := by (rw [cell_of_block ls]; rfl)
    have s2 : wl.cell? ⟨w.heap.size, 2, none⟩ = some (.bool u) := by (rw [cell_of_block ls]; rfl)
    have s3 : wl.cell? ⟨w.heap.size, 3, none⟩ = some (.bool v) := by (rw [cell_of_block ls]; rfl)
    clear lc lp ls
    go_simp
    try with_reducible rfl
  try simp only [Act.put, List.setIfInBounds_toArray, List.set_cons_zero, List.set_cons_succ]
  refine any_take (keepsBs_goes [c, P, w.heap.size]) 11 ?_ ?_ (by simp only [List.getElem?_toArray, List.getElem?_cons_succ, List.getElem?_cons_zero]; exact rfl) (by kernel_rfl) (by kernel_rfl) (by kernel_rfl) (fun _ _ _ _ _ h => h) (by rfl) ?_ ?_
  rotate_left
  · intro wl hL
    have lc := keep_at hL (by simp) FC.out; have lp := keep_at hL (by simp) FP.out; have ls := keep_at hL (by simp) FS.out; have c0 : wl.cell? ⟨c, 0, none⟩ = some (.pointer (some ⟨P, 0, none⟩)) := by (rw [cell_of_block lc]; rfl)
    have p0 : wl.cell? ⟨P, 0, none⟩ = some (.slice A1 n C1) := by (rw [cell_of_block lp]; rfl)
    have p1 : wl.cell? ⟨P, 1, none⟩ = some (.slice A2 n C2) := by (rw [cell_of_block lp]; rfl)
    have p2 : wl.cell? ⟨P, 2, none⟩ = some (.map (some Bs)) := by (rw [cell_of_block lp]; rfl)
    have p3 : wl.cell? ⟨P, 3, none⟩ = some (.map (some Bn)) := by (rw [cell_of_block lp]; rfl)
    have s0 : wl.cell? ⟨w.heap.size, 0, none⟩ = some (.int .i64 f) := by (rw [cell_of_block ls]; rfl)
    have s1 : wl.cell? ⟨w.heap.size, 1, none⟩ = some (.int .i64 o) := by (rw [cell_of_block ls]; rfl)
    have s2 : wl.cell? ⟨w.heap.size, 2, none⟩ = some (.bool u) := by (rw [cell_of_block ls]; rfl)
    have s3 : wl.cell? ⟨w.heap.size, 3, none⟩ = some (.bool v) := by (rw [cell_of_block ls]; rfl)
    clear lc lp ls
    go_simp
    try with_reducible rfl
  try simp only [Act.put, List.setIfInBounds_toArray, List.set_cons_zero, List.set_cons_succ]
  refine any_take (keepsBs_goes [c, P, w.heap.size]) 12 ?_ ?_ (by simp only [List.getElem?_toArray, List.getElem?_cons_succ, List.getElem?_cons_zero]; exact rfl) (by kernel_rfl) (by kernel_rfl) (by kernel_rfl) (fun _ _ _ _ _ h => h) (by rfl) ?_ ?_
  rotate_left
  · intro wl hL
    have lc := keep_at hL (by simp) FC.out; have lp := keep_at hL (by simp) FP.out; have ls := keep_at hL (by simp) FS.out; have c0 : wl.cell? ⟨c, 0, none⟩ = some (.pointer (some ⟨P, 0, none⟩)) := by (rw [cell_of_block lc]; rfl)
    have p0 : wl.cell? ⟨P, 0, none⟩ = some (.slice A1 n C1) := by (rw [cell_of_block lp]; rfl)
    have p1 : wl.cell? ⟨P, 1, none⟩ = some (.slice A2 n C2) := by (rw [cell_of_block lp]; rfl)
    have p2 : wl.cell? ⟨P, 2, none⟩ = some (.map (some Bs)) := by (rw [cell_of_block lp]; rfl)
    have p3 : wl.cell? ⟨P, 3, none⟩ = some (.map (some Bn)) := by (rw [cell_of_block lp]; rfl)
    have s0 : wl.cell? ⟨w.heap.size, 0, none⟩ = some (.int .i64 f) := by (rw [cell_of_block ls]; rfl)
    have s1 : wl.cell? ⟨w.heap.size, 1, none⟩ = some (.int .i64 o) := by (rw [cell_of_block ls]; rfl)
    have s2 : wl.cell? ⟨w.heap.size, 2, none⟩ = some (.bool u) := by (rw [cell_of_block ls]; rfl)
    have s3 : wl.cell? ⟨w.heap.size, 3, none⟩ = some (.bool v) := by (rw [cell_of_block ls]; rfl)
    clear lc lp ls
    go_simp
    try with_reducible rfl
  try simp only [Act.put, List.setIfInBounds_toArray, List.set_cons_zero, List.set_cons_succ]
  refine any_take (keepsBs_goes [c, P, w.heap.size]) 13 ?_ ?_ (by simp only [List.getElem?_toArray, List.getElem?_cons_succ, List.getElem?_cons_zero]; exact rfl) (by kernel_rfl) (by kernel_rfl) (by kernel_rfl) (fun _ _ _ _ _ h => h) (by rfl) ?_ ?_
  rotate_left
  · intro wl hL
    have lc := keep_at hL (by simp) FC.out; have lp := keep_at hL (by simp) FP.out; have ls := keep_at hL (by simp) FS.out; have c0 : wl.cell? ⟨c, 0, none⟩ = some (.pointer (some ⟨P, 0, none⟩)) := by (rw [cell_of_block lc]; rfl)
    have p0 : wl.cell? ⟨P, 0, none⟩ = some (.slice A1 n C1) := by (rw [cell_of_block lp]; rfl)
    have p1 : wl.cell? ⟨P, 1, none⟩ = some (.slice A2 n C2) := by (rw [cell_of_block lp]; rfl)
    have p2 : wl.cell? ⟨P, 2, none⟩ = some (.map (some Bs)) := by (rw [cell_of_block lp]; rfl)
    have p3 : wl.cell? ⟨P, 3, none⟩ = some (.map (some Bn)) := by (rw [cell_of_block lp]; rfl)
    have s0 : wl.cell? ⟨w.heap.size, 0, none⟩ = some (.int .i64 f) := by (rw [cell_of_block ls]; rfl)
    have s1 : wl.cell? ⟨w.heap.size, 1, none⟩ = some (.int .i64 o) := by (rw [cell_of_block ls]; rfl)
    have s2 : wl.cell? ⟨w.heap.size, 2, none⟩ = some (.bool u) := by (rw [cell_of_block ls]; rfl)
    have s3 : wl.cell? ⟨w.heap.size, 3, none⟩ = some (.bool v) := by (rw [cell_of_block ls]; rfl)
    clear lc lp ls
    go_simp
    try with_reducible rfl
  try simp only [Act.put, List.setIfInBounds_toArray, List.set_cons_zero, List.set_cons_succ]
  refine any_take (keepsBs_goes [c, P, w.heap.size]) 14 ?_ ?_ (by simp only [List.getElem?_toArray, List.getElem?_cons_succ, List.getElem?_cons_zero]; exact rfl) (by kernel_rfl) (by kernel_rfl) (by kernel_rfl) (fun _ _ _ _ _ h => h) (by rfl) ?_ ?_
  rotate_left
  · intro wl hL
    have lc := keep_at hL (by simp) FC.out; have lp := keep_at hL (by simp) FP.out; have ls := keep_at hL (by simp) FS.out; have c0 : wl.cell? ⟨c, 0, none⟩ = some (.pointer (some ⟨P, 0, none⟩)) := by (rw [cell_of_block lc]; rfl)
    have p0 : wl.cell? ⟨P, 0, none⟩ = some (.slice A1 n C1) := by (rw [cell_of_block lp]; rfl)
    have p1 : wl.cell? ⟨P, 1, none⟩ = some (.slice A2 n C2) := by (rw [cell_of_block lp]; rfl)
    have p2 : wl.cell? ⟨P, 2, none⟩ = some (.map (some Bs)) := by (rw [cell_of_block lp]; rfl)
    have p3 : wl.cell? ⟨P, 3, none⟩ = some (.map (some Bn)) := by (rw [cell_of_block lp]; rfl)
    have s0 : wl.cell? ⟨w.heap.size, 0, none⟩ = some (.int .i64 f) := by (rw [cell_of_block ls]; rfl)
    have s1 : wl.cell? ⟨w.heap.size, 1, none⟩ = some (.int .i64 o) := by (rw [cell_of_block ls]; rfl)
    have s2 : wl.cell? ⟨w.heap.size, 2, none⟩ = some (.bool u) := by (rw [cell_of_block ls]; rfl)
    have s3 : wl.cell? ⟨w.heap.size, 3, none⟩ = some (.bool v) := by (rw [cell_of_block ls]; rfl)
    clear lc lp ls
    go_simp
    try with_reducible rfl
  try simp only [Act.put, List.setIfInBounds_toArray, List.set_cons_zero, List.set_cons_succ]
  refine any_take (keepsBs_goes [c, P, w.heap.size]) 15 ?_ ?_ (by simp only [List.getElem?_toArray, List.getElem?_cons_succ, List.getElem?_cons_zero]; exact rfl) (by kernel_rfl) (by kernel_rfl) (by kernel_rfl) (fun _ _ _ _ _ h => h) (by rfl) ?_ ?_
  rotate_left
  · intro wl hL
    have lc := keep_at hL (by simp) FC.out; have lp := keep_at hL (by simp) FP.out; have ls := keep_at hL (by simp) FS.out; have c0 : wl.cell? ⟨c, 0, none⟩ = some (.pointer (some ⟨P, 0, none⟩)) := by (rw [cell_of_block lc]; rfl)
    have p0 : wl.cell? ⟨P, 0, none⟩ = some (.slice A1 n C1) := by (rw [cell_of_block lp]; rfl)
    have p1 : wl.cell? ⟨P, 1, none⟩ = some (.slice A2 n C2) := by (rw [cell_of_block lp]; rfl)
    have p2 : wl.cell? ⟨P, 2, none⟩ = some (.map (some Bs)) := by (rw [cell_of_block lp]; rfl)
    have p3 : wl.cell? ⟨P, 3, none⟩ = some (.map (some Bn)) := by (rw [cell_of_block lp]; rfl)
    have s0 : wl.cell? ⟨w.heap.size, 0, none⟩ = some (.int .i64 f) := by (rw [cell_of_block ls]; rfl)
    have s1 : wl.cell? ⟨w.heap.size, 1, none⟩ = some (.int .i64 o) := by (rw [cell_of_block ls]; rfl)
    have s2 : wl.cell? ⟨w.heap.size, 2, none⟩ = some (.bool u) := by (rw [cell_of_block ls]; rfl)
    have s3 : wl.cell? ⟨w.heap.size, 3, none⟩ = some (.bool v) := by (rw [cell_of_block ls]; rfl)
    clear lc lp ls
    go_simp
    try with_reducible rfl
  try simp only [Act.put, List.setIfInBounds_toArray, List.set_cons_zero, List.set_cons_succ]
  refine any_take (keepsBs_goes [c, P, w.heap.size]) 16 ?_ ?_ (by simp only [List.getElem?_toArray, List.getElem?_cons_succ, List.getElem?_cons_zero]; exact rfl) (by kernel_rfl) (by kernel_rfl) (by kernel_rfl) (fun _ _ _ _ _ h => h) (by rfl) ?_ ?_
  rotate_left
  · intro wl hL
    have lc := keep_at hL (by simp) FC.out; have lp := keep_at hL (by simp) FP.out; have ls := keep_at hL (by simp) FS.out; have c0 : wl.cell? ⟨c, 0, none⟩ = some (.pointer (some ⟨P, 0, none⟩)) := by (rw [cell_of_block lc]; rfl)
    have p0 : wl.cell? ⟨P, 0, none⟩ = some (.slice A1 n C1) := by (rw [cell_of_block lp]; rfl)
    have p1 : wl.cell? ⟨P, 1, none⟩ = some (.slice A2 n C2) := by (rw [cell_of_block lp]; rfl)
    have p2 : wl.cell? ⟨P, 2, none⟩ = some (.map (some Bs)) := by (rw [cell_of_block lp]; rfl)
    have p3 : wl.cell? ⟨P, 3, none⟩ = some (.map (some Bn)) := by (rw [cell_of_block lp]; rfl)
    have s0 : wl.cell? ⟨w.heap.size, 0, none⟩ = some (.int .i64 f) := by (rw [cell_of_block ls]; rfl)
    have s1 : wl.cell? ⟨w.heap.size, 1, none⟩ = some (.int .i64 o) := by (rw [cell_of_block ls]; rfl)
    have s2 : wl.cell? ⟨w.heap.size, 2, none⟩ = some (.bool u) := by (rw [cell_of_block ls]; rfl)
    have s3 : wl.cell? ⟨w.heap.size, 3, none⟩ = some (.bool v) := by (rw [cell_of_block ls]; rfl)
    clear lc lp ls
    go_simp
    try with_reducible rfl
  try simp only [Act.put, List.setIfInBounds_toArray, List.set_cons_zero, List.set_cons_succ]
  refine any_take (keepsBs_goes [c, P, w.heap.size]) 17 ?_ ?_ (by simp only [List.getElem?_toArray, List.getElem?_cons_succ, List.getElem?_cons_zero]; exact rfl) (by kernel_rfl) (by kernel_rfl) (by kernel_rfl) (fun _ _ _ _ _ h => h) (by rfl) ?_ ?_
  rotate_left
  · intro wl hL
    have lc := keep_at hL (by simp) FC.out; have lp := keep_at hL (by simp) FP.out; have ls := keep_at hL (by simp) FS.out; have c0 : wl.cell? ⟨c, 0, none⟩ = some (.pointer (some ⟨P, 0, none⟩)) := by (rw [cell_of_block lc]; rfl)
    have p0 : wl.cell? ⟨P, 0, none⟩ = some (.slice A1 n C1) := by (rw [cell_of_block lp]; rfl)
    have p1 : wl.cell? ⟨P, 1, none⟩ = some (.slice A2 n C2) := by (rw [cell_of_block lp]; rfl)
    have p2 : wl.cell? ⟨P, 2, none⟩ = some (.map (some Bs)) := by (rw [cell_of_block lp]; rfl)
    have p3 : wl.cell? ⟨P, 3, none⟩ = some (.map (some Bn)) := by (rw [cell_of_block lp]; rfl)
    have s0 : wl.cell? ⟨w.heap.size, 0, none⟩ = some (.int .i64 f) := by (rw [cell_of_block ls]; rfl)
    have s1 : wl.cell? ⟨w.heap.size, 1, none⟩ = some (.int .i64 o) := by (rw [cell_of_block ls]; rfl)
    have s2 : wl.cell? ⟨w.heap.size, 2, none⟩ = some (.bool u) := by (rw [cell_of_block ls]; rfl)
    have s3 : wl.cell? ⟨w.heap.size, 3, none⟩ = some (.bool v) := by (rw [cell_of_block ls]; rfl)
    clear lc lp ls
    go_simp
    try with_reducible rfl
  try simp only [Act.put, List.setIfInBounds_toArray, List.set_cons_zero, List.set_cons_succ]
  refine any_take (keepsBs_goes [c, P, w.heap.size]) 18 ?_ ?_ (by simp only [List.getElem?_toArray, List.getElem?_cons_succ, List.getElem?_cons_zero]; exact rfl) (by kernel_rfl) (by kernel_rfl) (by kernel_rfl) (fun _ _ _ _ _ h => h) (by rfl) ?_ ?_
  rotate_left
  · intro wl hL
    have lc := keep_at hL (by simp) FC.out; have lp := keep_at hL (by simp) FP.out; have ls := keep_at hL (by simp) FS.out; have c0 : wl.cell? ⟨c, 0, none⟩ = some (.pointer (some ⟨P, 0, none⟩)) := by (rw [cell_of_block lc]; rfl)
    have p0 : wl.cell? ⟨P, 0, none⟩ = some (.slice A1 n C1) := by (rw [cell_of_block lp]; rfl)
    have p1 : wl.cell? ⟨P, 1, none⟩ = some (.slice A2 n C2) := by (rw [cell_of_block lp]; rfl)
    have p2 : wl.cell? ⟨P, 2, none⟩ = some (.map (some Bs)) := by (rw [cell_of_block lp]; rfl)
    have p3 : wl.cell? ⟨P, 3, none⟩ = some (.map (some Bn)) := by (rw [cell_of_block lp]; rfl)
    have s0 : wl.cell? ⟨w.heap.size, 0, none⟩ = some (.int .i64 f) := by (rw [cell_of_block ls]; rfl)
    have s1 : wl.cell? ⟨w.heap.size, 1, none⟩ = some (.int .i64 o) := by (rw [cell_of_block ls]; rfl)
    have s2 : wl.cell? ⟨w.heap.size, 2, none⟩ = some (.bool u) := by (rw [cell_of_block ls]; rfl)
    have s3 : wl.cell? ⟨w.heap.size, 3, none⟩ = some (.bool v) := by (rw [cell_of_block ls]; rfl)
    clear lc lp ls
    go_simp
    try with_reducible rfl
  try simp only [Act.put, List.setIfInBounds_toArray, List.set_cons_zero, List.set_cons_succ]
  refine any_take (keepsBs_goes [c, P, w.heap.size]) 19 ?_ ?_ (by simp only [List.getElem?_toArray, List.getElem?_cons_succ, List.getElem?_cons_zero]; exact rfl) (by kernel_rfl) (by kernel_rfl) (by kernel_rfl) (fun _ _ _ _ _ h => h) (by rfl) ?_ ?_
  rotate_left
  · intro wl hL
    have lc := keep_at hL (by simp) FC.out; have lp := keep_at hL (by simp) FP.out; have ls := keep_at hL (by simp) FS.out; have c0 : wl.cell? ⟨c, 0, none⟩ = some (.pointer (some ⟨P, 0, none⟩)) := by (rw [cell_of_block lc]; rfl)
    have p0 : wl.cell? ⟨P, 0, none⟩ = some (.slice A1 n C1) := by (rw [cell_of_block lp]; rfl)
    have p1 : wl.cell? ⟨P, 1, none⟩ = some (.slice A2 n C2) := by (rw [cell_of_block lp]; rfl)
    have p2 : wl.cell? ⟨P, 2, none⟩ = some (.map (some Bs)) := by (rw [cell_of_block lp]; rfl)
    have p3 : wl.cell? ⟨P, 3, none⟩ = some (.map (some Bn)) := by (rw [cell_of_block lp]; rfl)
    have s0 : wl.cell? ⟨w.heap.size, 0, none⟩ = some (.int .i64 f) := by (rw [cell_of_block ls]; rfl)
    have s1 : wl.cell? ⟨w.heap.size, 1, none⟩ = some (.int .i64 o) := by (rw [cell_of_block ls]; rfl)
    have s2 : wl.cell? ⟨w.heap.size, 2, none⟩ = some (.bool u) := by (rw [cell_of_block ls]; rfl)
    have s3 : wl.cell? ⟨w.heap.size, 3, none⟩ = some (.bool v) := by (rw [cell_of_block ls]; rfl)
    clear lc lp ls
    go_simp
    try with_reducible rfl
  try simp only [Act.put, List.setIfInBounds_toArray, List.set_cons_zero, List.set_cons_succ]
  have l3 : Bs < W0.heap.size := block_lt mS.out
  have l4 : Bn < W0.heap.size := block_lt mN.out
  obtain ⟨q1, q2⟩ := neP
  obtain ⟨q3, q4, q5⟩ := neC
  have hrun := run_entry_new (w := W0) (t := 67) law_shape Tryz.underlying67 HZ.out mS.out HKS.out HES.out HWS.out
  simp only [goInt] at hrun
  refine any_one 20 _ (by kernel_rfl) (by simp only [List.getElem?_toArray, List.getElem?_cons_succ, List.getElem?_cons_zero]; exact rfl) (fun K hK => ?_)
  go_simp
  refine hK.out _ _ (fun b hb => setBlock_far (by
    simp only [List.mem_cons, List.not_mem_nil, or_false] at hb
    rcases hb with rfl | rfl | rfl <;> omega)) ?_
  clear hK K
  try simp only [Act.put, List.setIfInBounds_toArray, List.set_cons_zero, List.set_cons_succ]
  clear hrun
  have mS0 := mS
  generalize hW : setBlock W0 Bs _ = W1
  have FC := Lib.hid ((keep_at (l := [c, P, w.heap.size]) (w := W0) (wl := W1) (by rw [← hW]; exact fun b hb => setBlock_far (by
    simp only [List.mem_cons, List.not_mem_nil, or_false] at hb
    rcases hb with rfl | rfl | rfl <;> omega)) (by simp) FC.out))
  have FP := Lib.hid ((keep_at (l := [c, P, w.heap.size]) (w := W0) (wl := W1) (by rw [← hW]; exact fun b hb => setBlock_far (by
    simp only [List.mem_cons, List.not_mem_nil, or_false] at hb
    rcases hb with rfl | rfl | rfl <;> omega)) (by simp) FP.out))
  have FS := Lib.hid ((keep_at (l := [c, P, w.heap.size]) (w := W0) (wl := W1) (by rw [← hW]; exact fun b hb => setBlock_far (by
    simp only [List.mem_cons, List.not_mem_nil, or_false] at hb
    rcases hb with rfl | rfl | rfl <;> omega)) (by simp) FS.out))
  have mS : Aside (W1.heap[Bs]? = some (.map (eS.push ⟨(.agg #[.int .i64 f, .int .i64 o, .bool u, .bool v]), .int .i64 0, n⟩) (n + 1))) := ⟨by rw [← hW]; exact setBlock_at mS.out⟩
  have mN : Aside (W1.heap[Bn]? = some _) := ⟨by rw [← hW, setBlock_far (by omega)]; exact mN.out⟩
  have hF : Aside (FrP P Bs Bn (Value.slice A1 n C1).ownBlock (Value.slice A2 n C2).ownBlock w W1) := ⟨by rw [← hW]; exact hF.out.setBlock (.inl rfl) _⟩
  have rN : Aside (W1.ownsRow base 9 1 (.slice A1 n C1) n (keysN T)) := ⟨by rw [← hW]; exact row_setBlock rN.out (by rw [mS0.out]; intro cs e; cases e)⟩
  have rS : Aside (W1.ownsRow base 74 4 (.slice A2 n C2) n (T.flatMap fun p => shpC p.1)) := ⟨by rw [← hW]; exact row_setBlock rS.out (by rw [mS0.out]; intro cs e; cases e)⟩
  have ZW := Lib.hid (show W1.heap.size = w.heap.size + 1 by rw [← hW, setBlock_size]; exact ZW.out)
  clear hW mS0
  refine any_take (keepsBs_goes [c, P, w.heap.size]) 21 ?_ ?_ (by simp only [List.getElem?_toArray, List.getElem?_cons_succ, List.getElem?_cons_zero]; exact rfl) (by kernel_rfl) (by kernel_rfl) (by kernel_rfl) (fun _ _ _ _ _ h => h) (by rfl) ?_ ?_
  rotate_left
  · intro wl hL
    skip
    go_simp
    try with_reducible rfl
  try simp only [Act.put, List.setIfInBounds_toArray, List.set_cons_zero, List.set_cons_succ]
  have hrun := run_store_new (w := W1) (P := Tryz.prog) (t := 67) (val := .int .i64 n) mS.out HBS.out
  simp only [goInt] at hrun
  refine any_one 22 _ (by kernel_rfl) (by simp only [List.getElem?_toArray, List.getElem?_cons_succ, List.getElem?_cons_zero]; exact rfl) (fun K hK => ?_)
  go_simp
  refine hK.out _ _ (fun b hb => setBlock_far (by
    simp only [List.mem_cons, List.not_mem_nil, or_false] at hb
    rcases hb with rfl | rfl | rfl <;> omega)) ?_
  clear hK K
  try simp only [Act.put, List.setIfInBounds_toArray, List.set_cons_zero, List.set_cons_succ]
  clear hrun
  have mS0 := mS
  generalize hW : setBlock W1 Bs _ = W2
  have FC := Lib.hid ((keep_at (l := [c, P, w.heap.size]) (w := W1) (wl := W2) (by rw [← hW]; exact fun b hb => setBlock_far (by
    simp only [List.mem_cons, List.not_mem_nil, or_false] at hb
    rcases hb with rfl | rfl | rfl <;> omega)) (by simp) FC.out))
  have FP := Lib.hid ((keep_at (l := [c, P, w.heap.size]) (w := W1) (wl := W2) (by rw [← hW]; exact fun b hb => setBlock_far (by
    simp only [List.mem_cons, List.not_mem_nil, or_false] at hb
    rcases hb with rfl | rfl | rfl <;> omega)) (by simp) FP.out))
  have FS := Lib.hid ((keep_at (l := [c, P, w.heap.size]) (w := W1) (wl := W2) (by rw [← hW]; exact fun b hb => setBlock_far (by
    simp only [List.mem_cons, List.not_mem_nil, or_false] at hb
    rcases hb with rfl | rfl | rfl <;> omega)) (by simp) FS.out))
  have mS : Aside (W2.heap[Bs]? = some (.map (eS.push ⟨(.agg #[.int .i64 f, .int .i64 o, .bool u, .bool v]), .int .i64 n, n⟩) (n + 1))) := ⟨by rw [← hW]; exact setBlock_at mS.out⟩
  have mN : Aside (W2.heap[Bn]? = some _) := ⟨by rw [← hW, setBlock_far (by omega)]; exact mN.out⟩
  have hF : Aside (FrP P Bs Bn (Value.slice A1 n C1).ownBlock (Value.slice A2 n C2).ownBlock w W2) := ⟨by rw [← hW]; exact hF.out.setBlock (.inl rfl) _⟩
  have rN : Aside (W2.ownsRow base 9 1 (.slice A1 n C1) n (keysN T)) := ⟨by rw [← hW]; exact row_setBlock rN.out (by rw [mS0.out]; intro cs e; cases e)⟩
  have rS : Aside (W2.ownsRow base 74 4 (.slice A2 n C2) n (T.flatMap fun p => shpC p.1)) := ⟨by rw [← hW]; exact row_setBlock rS.out (by rw [mS0.out]; intro cs e; cases e)⟩
  have ZW := Lib.hid (show W2.heap.size = w.heap.size + 1 by rw [← hW, setBlock_size]; exact ZW.out)
  clear hW mS0
  have hrun := run_entry_new (w := W2) (t := 68) law_string Tryz.underlying68 HZ.out mN.out HKN.out HEN.out HWN.out
  simp only [goInt] at hrun
  refine any_one 23 _ (by kernel_rfl) (by simp only [List.getElem?_toArray, List.getElem?_cons_succ, List.getElem?_cons_zero]; exact rfl) (fun K hK => ?_)
  go_simp
  refine hK.out _ _ (fun b hb => setBlock_far (by
    simp only [List.mem_cons, List.not_mem_nil, or_false] at hb
    rcases hb with rfl | rfl | rfl <;> omega)) ?_
  clear hK K
  try simp only [Act.put, List.setIfInBounds_toArray, List.set_cons_zero, List.set_cons_succ]
  clear hrun
  have mN0 := mN
  generalize hW : setBlock W2 Bn _ = W3
  have FC := Lib.hid ((keep_at (l := [c, P, w.heap.size]) (w := W2) (wl := W3) (by rw [← hW]; exact fun b hb => setBlock_far (by
    simp only [List.mem_cons, List.not_mem_nil, or_false] at hb
    rcases hb with rfl | rfl | rfl <;> omega)) (by simp) FC.out))
  have FP := Lib.hid ((keep_at (l := [c, P, w.heap.size]) (w := W2) (wl := W3) (by rw [← hW]; exact fun b hb => setBlock_far (by
    simp only [List.mem_cons, List.not_mem_nil, or_false] at hb
    rcases hb with rfl | rfl | rfl <;> omega)) (by simp) FP.out))
  have FS := Lib.hid ((keep_at (l := [c, P, w.heap.size]) (w := W2) (wl := W3) (by rw [← hW]; exact fun b hb => setBlock_far (by
    simp only [List.mem_cons, List.not_mem_nil, or_false] at hb
    rcases hb with rfl | rfl | rfl <;> omega)) (by simp) FS.out))
  have mN : Aside (W3.heap[Bn]? = some (.map (eN.push ⟨(.string S), .int .i64 0, n⟩) (n + 1))) := ⟨by rw [← hW]; exact setBlock_at mN.out⟩
  have mS : Aside (W3.heap[Bs]? = some _) := ⟨by rw [← hW, setBlock_far (by omega)]; exact mS.out⟩
  have hF : Aside (FrP P Bs Bn (Value.slice A1 n C1).ownBlock (Value.slice A2 n C2).ownBlock w W3) := ⟨by rw [← hW]; exact hF.out.setBlock (.inr rfl) _⟩
  have rN : Aside (W3.ownsRow base 9 1 (.slice A1 n C1) n (keysN T)) := ⟨by rw [← hW]; exact row_setBlock rN.out (by rw [mN0.out]; intro cs e; cases e)⟩
  have rS : Aside (W3.ownsRow base 74 4 (.slice A2 n C2) n (T.flatMap fun p => shpC p.1)) := ⟨by rw [← hW]; exact row_setBlock rS.out (by rw [mN0.out]; intro cs e; cases e)⟩
  have ZW := Lib.hid (show W3.heap.size = w.heap.size + 1 by rw [← hW, setBlock_size]; exact ZW.out)
  clear hW mN0
  refine any_take (keepsBs_goes [c, P, w.heap.size]) 24 ?_ ?_ (by simp only [List.getElem?_toArray, List.getElem?_cons_succ, List.getElem?_cons_zero]; exact rfl) (by kernel_rfl) (by kernel_rfl) (by kernel_rfl) (fun _ _ _ _ _ h => h) (by rfl) ?_ ?_
  rotate_left
  · intro wl hL
    skip
    go_simp
    try with_reducible rfl
  try simp only [Act.put, List.setIfInBounds_toArray, List.set_cons_zero, List.set_cons_succ]
  have hrun := run_store_new (w := W3) (P := Tryz.prog) (t := 68) (val := .int .i64 n) mN.out HBN.out
  simp only [goInt] at hrun
  refine any_one 25 _ (by kernel_rfl) (by simp only [List.getElem?_toArray, List.getElem?_cons_succ, List.getElem?_cons_zero]; exact rfl) (fun K hK => ?_)
  go_simp
  refine hK.out _ _ (fun b hb => setBlock_far (by
    simp only [List.mem_cons, List.not_mem_nil, or_false] at hb
    rcases hb with rfl | rfl | rfl <;> omega)) ?_
  clear hK K
  try simp only [Act.put, List.setIfInBounds_toArray, List.set_cons_zero, List.set_cons_succ]
  clear hrun
  have mN0 := mN
  generalize hW : setBlock W3 Bn _ = W4
  have FC := Lib.hid ((keep_at (l := [c, P, w.heap.size]) (w := W3) (wl := W4) (by rw [← hW]; exact fun b hb => setBlock_far (by
    simp only [List.mem_cons, List.not_mem_nil, or_false] at hb
    rcases hb with rfl | rfl | rfl <;> omega)) (by simp) FC.out))
  have FP := Lib.hid ((keep_at (l := [c, P, w.heap.size]) (w := W3) (wl := W4) (by rw [← hW]; exact fun b hb => setBlock_far (by
    simp only [List.mem_cons, List.not_mem_nil, or_false] at hb
    rcases hb with rfl | rfl | rfl <;> omega)) (by simp) FP.out))
  have FS := Lib.hid ((keep_at (l := [c, P, w.heap.size]) (w := W3) (wl := W4) (by rw [← hW]; exact fun b hb => setBlock_far (by
    simp only [List.mem_cons, List.not_mem_nil, or_false] at hb
    rcases hb with rfl | rfl | rfl <;> omega)) (by simp) FS.out))
  have mN : Aside (W4.heap[Bn]? = some (.map (eN.push ⟨(.string S), .int .i64 n, n⟩) (n + 1))) := ⟨by rw [← hW]; exact setBlock_at mN.out⟩
  have mS : Aside (W4.heap[Bs]? = some _) := ⟨by rw [← hW, setBlock_far (by omega)]; exact mS.out⟩
  have hF : Aside (FrP P Bs Bn (Value.slice A1 n C1).ownBlock (Value.slice A2 n C2).ownBlock w W4) := ⟨by rw [← hW]; exact hF.out.setBlock (.inr rfl) _⟩
  have rN : Aside (W4.ownsRow base 9 1 (.slice A1 n C1) n (keysN T)) := ⟨by rw [← hW]; exact row_setBlock rN.out (by rw [mN0.out]; intro cs e; cases e)⟩
  have rS : Aside (W4.ownsRow base 74 4 (.slice A2 n C2) n (T.flatMap fun p => shpC p.1)) := ⟨by rw [← hW]; exact row_setBlock rS.out (by rw [mN0.out]; intro cs e; cases e)⟩
  have ZW := Lib.hid (show W4.heap.size = w.heap.size + 1 by rw [← hW, setBlock_size]; exact ZW.out)
  clear hW mN0
  refine any_done (by kernel_rfl) ?_ _
  go_wp2_with fail
  obtain ⟨iS, iS1, iS2, iS3, iS4⟩ := info_parts shape_info
  obtain ⟨iN, iN1, iN2, iN3, iN4⟩ := info_parts str_info
  have IS1 := Lib.hid iS1; have IS2 := Lib.hid iS2; have IS3 := Lib.hid iS3; have IS4 := Lib.hid iS4
  have IN1 := Lib.hid iN1; have IN2 := Lib.hid iN2; have IN3 := Lib.hid iN3; have IN4 := Lib.hid iN4
  clear iS1 iS2 iS3 iS4 iN1 iN2 iN3 iN4
  have rN1 : ∀ b, w.heap.size ≤ b → some b ≠ (Value.slice A1 n C1).ownBlock := fun b hb e => by have := (RN.out.lt b e.symm).2; omega
  have rS1 : ∀ b, w.heap.size ≤ b → some b ≠ (Value.slice A2 n C2).ownBlock := fun b hb e => by have := (RS.out.lt b e.symm).2; omega
  have rNC := row_ne RN.out HC.out (by intro cs e; cases e)
  have rSC := row_ne RS.out HC.out (by intro cs e; cases e)
  have rNP := row_ne RN.out HP.out (by intro cs e; cases e)
  have rSP := row_ne RS.out HP.out (by intro cs e; cases e)
  have rNs := row_ne RN.out MS.out (by intro cs e; cases e)
  have rSs := row_ne RS.out MS.out (by intro cs e; cases e)
  have rNn := row_ne RN.out MN.out (by intro cs e; cases e)
  have rSn := row_ne RS.out MN.out (by intro cs e; cases e)
  have gN : ∀ b ∈ [c, w.heap.size], some b ≠ (Value.slice A1 n C1).ownBlock := by
    intro b hb
    simp only [List.mem_cons, List.not_mem_nil, or_false] at hb
    rcases hb with rfl | rfl
    · exact rNC
    · exact rN1 _ (Nat.le_refl _)
  have gS : ∀ b ∈ [c, w.heap.size], some b ≠ (Value.slice A2 n C2).ownBlock := by
    intro b hb
    simp only [List.mem_cons, List.not_mem_nil, or_false] at hb
    rcases hb with rfl | rfl
    · exact rSC
    · exact rS1 _ (Nat.le_refl _)
  have gNP : ∀ b ∈ [P], some b ≠ (Value.slice A1 n C1).ownBlock := by
    intro b hb
    rw [List.mem_singleton.1 hb]
    exact rNP
  have gSP : ∀ b ∈ [P], some b ≠ (Value.slice A2 n C2).ownBlock := by
    intro b hb
    rw [List.mem_singleton.1 hb]
    exact rSP
  have RN1 := Aside.mk rN1; have RS1 := Aside.mk rS1; have RNC := Aside.mk rNC; have RSC := Aside.mk rSC; have RNP := Aside.mk rNP; have RSP := Aside.mk rSP
  have RNs := Aside.mk rNs; have RSs := Aside.mk rSs; have RNn := Aside.mk rNn; have RSn := Aside.mk rSn; have GN := Aside.mk gN; have GS := Aside.mk gS; have GNP := Aside.mk gNP; have GSP := Aside.mk gSP
  clear rN1 rS1 rNC rSC rNP rSP rNs rSs rNn rSn gN gS gNP gSP rC HP HC RN RS MS MN
  have sz : ∀ b ∈ [c, w.heap.size], b < w.heap.size + 1 := by
    intro b hb
    simp only [List.mem_cons, List.not_mem_nil, or_false] at hb
    omega
  have szP : ∀ b ∈ [P], b < w.heap.size + 1 := by
    intro b hb
    rw [List.mem_singleton.1 hb]; omega
  have SZ := Aside.mk sz; have SZP := Aside.mk szP
  clear sz szP
  refine anyw_begin (fun j x y => KeepsBs [c, w.heap.size] x y ∧ (j ∉ [18, 21] → KeepsBs [P] x y)) (by kernel_rfl) ?_
  have hS : ∀ (j : Nat) (x : World), KeepsBs [c, w.heap.size] x x ∧ (j ∉ [18, 21] → KeepsBs [P] x x) := fun j x => ⟨(keepsBs_goes _).refl x, fun _ => (keepsBs_goes _).refl x⟩
  have HS := Aside.mk hS
  clear hS
  generalize hW : World.drew _ = V0
  replace FC := Lib.hid (show V0.heap[c]? = some _ by rw [← hW]; exact FC.out)
  replace FP := Lib.hid (show V0.heap[P]? = some _ by rw [← hW]; exact FP.out)
  replace FS := Lib.hid (show V0.heap[w.heap.size]? = some _ by rw [← hW]; exact FS.out)
  replace mS := Aside.mk (show V0.heap[Bs]? = some _ by rw [← hW]; exact mS.out)
  replace mN := Aside.mk (show V0.heap[Bn]? = some _ by rw [← hW]; exact mN.out)
  replace rN := Aside.mk (show World.ownsRow V0 _ _ _ _ _ _ by rw [← hW]; exact rN.out.drew)
  replace rS := Aside.mk (show World.ownsRow V0 _ _ _ _ _ _ by rw [← hW]; exact rS.out.drew)
  replace hF := Aside.mk (show FrP P Bs Bn _ _ w V0 by rw [← hW]; exact hF.out.drew)
  replace ZW := Lib.hid (show w.heap.size + 1 ≤ V0.heap.size by rw [← hW]; exact Nat.le_of_eq ZW.out.symm)
  clear hW
  refine anyw_take (R := KeepsBs [c, w.heap.size]) (keepsBs_goes _) (fun _ _ _ h => h.1) HS.out 0 ?_ ?_ (by simp only [List.getElem?_toArray, List.getElem?_cons_succ, List.getElem?_cons_zero]; exact rfl) (by kernel_rfl) (by kernel_rfl) (by kernel_rfl) (fun _ _ _ _ _ h => h) (by rfl) ?_ ?_
  rotate_left
  · intro wl hL
    have lc := keep_at hL (by simp) FC.out; have ls := keep_at hL (by simp) FS.out; have c0 : wl.cell? ⟨c, 0, none⟩ = some (.pointer (some ⟨P, 0, none⟩)) := by (rw [cell_of_block lc]; rfl)
    have s0 : wl.cell? ⟨w.heap.size, 0, none⟩ = some (.int .i64 f) := by (rw [cell_of_block ls]; rfl)
    have s1 : wl.cell? ⟨w.heap.size, 1, none⟩ = some (.int .i64 o) := by (rw [cell_of_block ls]; rfl)
    have s2 : wl.cell? ⟨w.heap.size, 2, none⟩ = some (.bool u) := by (rw [cell_of_block ls]; rfl)
    have s3 : wl.cell? ⟨w.heap.size, 3, none⟩ = some (.bool v) := by (rw [cell_of_block ls]; rfl)
    clear lc ls
    go_simp
    try with_reducible rfl
  try simp only [Act.put, List.setIfInBounds_toArray, List.set_cons_zero, List.set_cons_succ]
  refine anyw_take (R := KeepsBs [c, w.heap.size]) (keepsBs_goes _) (fun _ _ _ h => h.1) HS.out 1 ?_ ?_ (by simp only [List.getElem?_toArray, List.getElem?_cons_succ, List.getElem?_cons_zero]; exact rfl) (by kernel_rfl) (by kernel_rfl) (by kernel_rfl) (fun _ _ _ _ _ h => h) (by rfl) ?_ ?_
  rotate_left
  · intro wl hL
    have lc := keep_at hL (by simp) FC.out; have ls := keep_at hL (by simp) FS.out; have c0 : wl.cell? ⟨c, 0, none⟩ = some (.pointer (some ⟨P, 0, none⟩)) := by (rw [cell_of_block lc]; rfl)
    have s0 : wl.cell? ⟨w.heap.size, 0, none⟩ = some (.int .i64 f) := by (rw [cell_of_block ls]; rfl)
    have s1 : wl.cell? ⟨w.heap.size, 1, none⟩ = some (.int .i64 o) := by (rw [cell_of_block ls]; rfl)
    have s2 : wl.cell? ⟨w.heap.size, 2, none⟩ = some (.bool u) := by (rw [cell_of_block ls]; rfl)
    have s3 : wl.cell? ⟨w.heap.size, 3, none⟩ = some (.bool v) := by (rw [cell_of_block ls]; rfl)
    clear lc ls
    go_simp
    try with_reducible rfl
  try simp only [Act.put, List.setIfInBounds_toArray, List.set_cons_zero, List.set_cons_succ]
  refine anyw_take (R := KeepsBs [c, w.heap.size]) (keepsBs_goes _) (fun _ _ _ h => h.1) HS.out 2 ?_ ?_ (by simp only [List.getElem?_toArray, List.getElem?_cons_succ, List.getElem?_cons_zero]; exact rfl) (by kernel_rfl) (by kernel_rfl) (by kernel_rfl) (fun _ _ _ _ _ h => h) (by rfl) ?_ ?_
  rotate_left
  · intro wl hL
    have lc := keep_at hL (by simp) FC.out; have ls := keep_at hL (by simp) FS.out; have c0 : wl.cell? ⟨c, 0, none⟩ = some (.pointer (some ⟨P, 0, none⟩)) := by (rw [cell_of_block lc]; rfl)
    have s0 : wl.cell? ⟨w.heap.size, 0, none⟩ = some (.int .i64 f) := by (rw [cell_of_block ls]; rfl)
    have s1 : wl.cell? ⟨w.heap.size, 1, none⟩ = some (.int .i64 o) := by (rw [cell_of_block ls]; rfl)
    have s2 : wl.cell? ⟨w.heap.size, 2, none⟩ = some (.bool u) := by (rw [cell_of_block ls]; rfl)
    have s3 : wl.cell? ⟨w.heap.size, 3, none⟩ = some (.bool v) := by (rw [cell_of_block ls]; rfl)
    clear lc ls
    go_simp
    try with_reducible rfl
  try simp only [Act.put, List.setIfInBounds_toArray, List.set_cons_zero, List.set_cons_succ]
  refine anyw_take (R := KeepsBs [c, w.heap.size]) (keepsBs_goes _) (fun _ _ _ h => h.1) HS.out 3 ?_ ?_ (by simp only [List.getElem?_toArray, List.getElem?_cons_succ, List.getElem?_cons_zero]; exact rfl) (by kernel_rfl) (by kernel_rfl) (by kernel_rfl) (fun _ _ _ _ _ h => h) (by rfl) ?_ ?_
  rotate_left
  · intro wl hL
    have lc := keep_at hL (by simp) FC.out; have ls := keep_at hL (by simp) FS.out; have c0 : wl.cell? ⟨c, 0, none⟩ = some (.pointer (some ⟨P, 0, none⟩)) := by (rw [cell_of_block lc]; rfl)
    have s0 : wl.cell? ⟨w.heap.size, 0, none⟩ = some (.int .i64 f) := by (rw [cell_of_block ls]; rfl)
    have s1 : wl.cell? ⟨w.heap.size, 1, none⟩ = some (.int .i64 o) := by (rw [cell_of_block ls]; rfl)
    have s2 : wl.cell? ⟨w.heap.size, 2, none⟩ = some (.bool u) := by (rw [cell_of_block ls]; rfl)
    have s3 : wl.cell? ⟨w.heap.size, 3, none⟩ = some (.bool v) := by (rw [cell_of_block ls]; rfl)
    clear lc ls
    go_simp
    try with_reducible rfl
  try simp only [Act.put, List.setIfInBounds_toArray, List.set_cons_zero, List.set_cons_succ]
  refine anyw_take (R := KeepsBs [c, w.heap.size]) (keepsBs_goes _) (fun _ _ _ h => h.1) HS.out 4 ?_ ?_ (by simp only [List.getElem?_toArray, List.getElem?_cons_succ, List.getElem?_cons_zero]; exact rfl) (by kernel_rfl) (by kernel_rfl) (by kernel_rfl) (fun _ _ _ _ _ h => h) (by rfl) ?_ ?_
  rotate_left
  · intro wl hL
    have lc := keep_at hL (by simp) FC.out; have ls := keep_at hL (by simp) FS.out; have c0 : wl.cell? ⟨c, 0, none⟩ = some (.pointer (some ⟨P, 0, none⟩)) := by (rw [cell_of_block lc]; rfl)
    have s0 : wl.cell? ⟨w.heap.size, 0, none⟩ = some (.int .i64 f) := by (rw [cell_of_block ls]; rfl)
    have s1 : wl.cell? ⟨w.heap.size, 1, none⟩ = some (.int .i64 o) := by (rw [cell_of_block ls]; rfl)
    have s2 : wl.cell? ⟨w.heap.size, 2, none⟩ = some (.bool u) := by (rw [cell_of_block ls]; rfl)
    have s3 : wl.cell? ⟨w.heap.size, 3, none⟩ = some (.bool v) := by (rw [cell_of_block ls]; rfl)
    clear lc ls
    go_simp
    try with_reducible rfl
  try simp only [Act.put, List.setIfInBounds_toArray, List.set_cons_zero, List.set_cons_succ]
  refine anyw_take (R := KeepsBs [c, w.heap.size]) (keepsBs_goes _) (fun _ _ _ h => h.1) HS.out 6 ?_ ?_ (by simp only [List.getElem?_toArray, List.getElem?_cons_succ, List.getElem?_cons_zero]; exact rfl) (by kernel_rfl) (by kernel_rfl) (by kernel_rfl) (fun _ _ _ _ _ h => h) (by rfl) ?_ ?_
  rotate_left
  · intro wl hL
    have lc := keep_at hL (by simp) FC.out; have ls := keep_at hL (by simp) FS.out; have c0 : wl.cell? ⟨c, 0, none⟩ = some (.pointer (some ⟨P, 0, none⟩)) := by (rw [cell_of_block lc]; rfl)
    have s0 : wl.cell? ⟨w.heap.size, 0, none⟩ = some (.int .i64 f) := by (rw [cell_of_block ls]; rfl)
    have s1 : wl.cell? ⟨w.heap.size, 1, none⟩ = some (.int .i64 o) := by (rw [cell_of_block ls]; rfl)
    have s2 : wl.cell? ⟨w.heap.size, 2, none⟩ = some (.bool u) := by (rw [cell_of_block ls]; rfl)
    have s3 : wl.cell? ⟨w.heap.size, 3, none⟩ = some (.bool v) := by (rw [cell_of_block ls]; rfl)
    clear lc ls
    go_simp
    try with_reducible rfl
  try simp only [Act.put, List.setIfInBounds_toArray, List.set_cons_zero, List.set_cons_succ]
  refine anyw_take (R := KeepsBs [c, w.heap.size]) (keepsBs_goes _) (fun _ _ _ h => h.1) HS.out 9 ?_ ?_ (by simp only [List.getElem?_toArray, List.getElem?_cons_succ, List.getElem?_cons_zero]; exact rfl) (by kernel_rfl) (by kernel_rfl) (by kernel_rfl) (fun _ _ _ _ _ h => h) (by rfl) ?_ ?_
  rotate_left
  · intro wl hL
    have lc := keep_at hL (by simp) FC.out; have ls := keep_at hL (by simp) FS.out; have c0 : wl.cell? ⟨c, 0, none⟩ = some (.pointer (some ⟨P, 0, none⟩)) := by (rw [cell_of_block lc]; rfl)
    have s0 : wl.cell? ⟨w.heap.size, 0, none⟩ = some (.int .i64 f) := by (rw [cell_of_block ls]; rfl)
    have s1 : wl.cell? ⟨w.heap.size, 1, none⟩ = some (.int .i64 o) := by (rw [cell_of_block ls]; rfl)
    have s2 : wl.cell? ⟨w.heap.size, 2, none⟩ = some (.bool u) := by (rw [cell_of_block ls]; rfl)
    have s3 : wl.cell? ⟨w.heap.size, 3, none⟩ = some (.bool v) := by (rw [cell_of_block ls]; rfl)
    clear lc ls
    go_simp
    try with_reducible rfl
  try simp only [Act.put, List.setIfInBounds_toArray, List.set_cons_zero, List.set_cons_succ]
  refine anyw_take (R := KeepsBs [c, w.heap.size]) (keepsBs_goes _) (fun _ _ _ h => h.1) HS.out 10 ?_ ?_ (by simp only [List.getElem?_toArray, List.getElem?_cons_succ, List.getElem?_cons_zero]; exact rfl) (by kernel_rfl) (by kernel_rfl) (by kernel_rfl) (fun _ _ _ _ _ h => h) (by rfl) ?_ ?_
  rotate_left
  · intro wl hL
    have lc := keep_at hL (by simp) FC.out; have ls := keep_at hL (by simp) FS.out; have c0 : wl.cell? ⟨c, 0, none⟩ = some (.pointer (some ⟨P, 0, none⟩)) := by (rw [cell_of_block lc]; rfl)
    have s0 : wl.cell? ⟨w.heap.size, 0, none⟩ = some (.int .i64 f) := by (rw [cell_of_block ls]; rfl)
    have s1 : wl.cell? ⟨w.heap.size, 1, none⟩ = some (.int .i64 o) := by (rw [cell_of_block ls]; rfl)
    have s2 : wl.cell? ⟨w.heap.size, 2, none⟩ = some (.bool u) := by (rw [cell_of_block ls]; rfl)
    have s3 : wl.cell? ⟨w.heap.size, 3, none⟩ = some (.bool v) := by (rw [cell_of_block ls]; rfl)
    clear lc ls
    go_simp
    try with_reducible rfl
  try simp only [Act.put, List.setIfInBounds_toArray, List.set_cons_zero, List.set_cons_succ]
  refine anyw_take (R := KeepsBs [c, w.heap.size]) (keepsBs_goes _) (fun _ _ _ h => h.1) HS.out 11 ?_ ?_ (by simp only [List.getElem?_toArray, List.getElem?_cons_succ, List.getElem?_cons_zero]; exact rfl) (by kernel_rfl) (by kernel_rfl) (by kernel_rfl) (fun _ _ _ _ _ h => h) (by rfl) ?_ ?_
  rotate_left
  · intro wl hL
    have lc := keep_at hL (by simp) FC.out; have ls := keep_at hL (by simp) FS.out; have c0 : wl.cell? ⟨c, 0, none⟩ = some (.pointer (some ⟨P, 0, none⟩)) := by (rw [cell_of_block lc]; rfl)
    have s0 : wl.cell? ⟨w.heap.size, 0, none⟩ = some (.int .i64 f) := by (rw [cell_of_block ls]; rfl)
    have s1 : wl.cell? ⟨w.heap.size, 1, none⟩ = some (.int .i64 o) := by (rw [cell_of_block ls]; rfl)
    have s2 : wl.cell? ⟨w.heap.size, 2, none⟩ = some (.bool u) := by (rw [cell_of_block ls]; rfl)
    have s3 : wl.cell? ⟨w.heap.size, 3, none⟩ = some (.bool v) := by (rw [cell_of_block ls]; rfl)
    clear lc ls
    go_simp
    try with_reducible rfl
  try simp only [Act.put, List.setIfInBounds_toArray, List.set_cons_zero, List.set_cons_succ]
  refine anyw_take (R := KeepsBs [c, w.heap.size]) (keepsBs_goes _) (fun _ _ _ h => h.1) HS.out 13 ?_ ?_ (by simp only [List.getElem?_toArray, List.getElem?_cons_succ, List.getElem?_cons_zero]; exact rfl) (by kernel_rfl) (by kernel_rfl) (by kernel_rfl) (fun _ _ _ _ _ h => h) (by rfl) ?_ ?_
  rotate_left
  · intro wl hL
    have lc := keep_at hL (by simp) FC.out; have ls := keep_at hL (by simp) FS.out; have c0 : wl.cell? ⟨c, 0, none⟩ = some (.pointer (some ⟨P, 0, none⟩)) := by (rw [cell_of_block lc]; rfl)
    have s0 : wl.cell? ⟨w.heap.size, 0, none⟩ = some (.int .i64 f) := by (rw [cell_of_block ls]; rfl)
    have s1 : wl.cell? ⟨w.heap.size, 1, none⟩ = some (.int .i64 o) := by (rw [cell_of_block ls]; rfl)
    have s2 : wl.cell? ⟨w.heap.size, 2, none⟩ = some (.bool u) := by (rw [cell_of_block ls]; rfl)
    have s3 : wl.cell? ⟨w.heap.size, 3, none⟩ = some (.bool v) := by (rw [cell_of_block ls]; rfl)
    clear lc ls
    go_simp
    try with_reducible rfl
  try simp only [Act.put, List.setIfInBounds_toArray, List.set_cons_zero, List.set_cons_succ]
  refine anyw_take2 (R := KeepsBs [P]) (keepsBs_goes _) [18, 21] #[true, true, true, true, true, false, true, true, false, true, true, true, true, true, true, false, false, false, false, false, false, false] (fun _ _ _ hj h => h.2 hj) HS.out 5 ?_ ?_ (by kernel_rfl) (by kernel_rfl) ⟨by simp, by simp⟩ (by simp only [List.getElem?_toArray, List.getElem?_cons_succ, List.getElem?_cons_zero]; exact rfl) (by kernel_rfl) (by kernel_rfl) (by kernel_rfl) (fun _ _ _ _ _ h => h) (by rfl) ?_ ?_
  rotate_left
  · intro wl hL
    have lp := keep_at hL (by simp) FP.out; have p0 : wl.cell? ⟨P, 0, none⟩ = some (.slice A1 n C1) := by (rw [cell_of_block lp]; rfl)
    have p1 : wl.cell? ⟨P, 1, none⟩ = some (.slice A2 n C2) := by (rw [cell_of_block lp]; rfl)
    clear lp
    go_simp
    try with_reducible rfl
  try simp only [Act.put, List.setIfInBounds_toArray, List.set_cons_zero, List.set_cons_succ]
  refine anyw_take2 (R := KeepsBs [P]) (keepsBs_goes _) [18, 21] #[true, true, true, true, true, true, true, true, true, true, true, true, false, true, true, false, false, false, false, false, false, false] (fun _ _ _ hj h => h.2 hj) HS.out 12 ?_ ?_ (by kernel_rfl) (by kernel_rfl) ⟨by simp, by simp⟩ (by simp only [List.getElem?_toArray, List.getElem?_cons_succ, List.getElem?_cons_zero]; exact rfl) (by kernel_rfl) (by kernel_rfl) (by kernel_rfl) (fun _ _ _ _ _ h => h) (by rfl) ?_ ?_
  rotate_left
  · intro wl hL
    have lp := keep_at hL (by simp) FP.out; have p0 : wl.cell? ⟨P, 0, none⟩ = some (.slice A1 n C1) := by (rw [cell_of_block lp]; rfl)
    have p1 : wl.cell? ⟨P, 1, none⟩ = some (.slice A2 n C2) := by (rw [cell_of_block lp]; rfl)
    clear lp
    go_simp
    try with_reducible rfl
  try simp only [Act.put, List.setIfInBounds_toArray, List.set_cons_zero, List.set_cons_succ]
  replace HS := trivial
  have FS' := FS
  clear FS FS'
  refine anyw_two 7 14 _ _ (by kernel_rfl) (by simp only [List.getElem?_toArray, List.getElem?_cons_succ, List.getElem?_cons_zero]; exact rfl) (by simp only [List.getElem?_toArray, List.getElem?_cons_succ, List.getElem?_cons_zero]; exact rfl) (fun K hK => ?_) (fun K hK => ?_)
  · go_simp
    refine hK.out _ _ ⟨keeps_alloc (fun b hb => Nat.lt_of_lt_of_le (SZ.out b hb) ZW.out) _, fun _ => keeps_alloc (fun b hb => Nat.lt_of_lt_of_le (SZP.out b hb) ZW.out) _⟩ ?_
    clear hK K
    try simp only [Act.put, List.setIfInBounds_toArray, List.set_cons_zero, List.set_cons_succ]
    generalize hW : World.alloc _ _ = V1
    replace FC := Lib.hid (show V1.heap[c]? = some _ by rw [← hW]; exact b_alloc FC.out _)
    replace FP := Lib.hid (show V1.heap[P]? = some _ by rw [← hW]; exact b_alloc FP.out _)
    replace mS := Aside.mk (show V1.heap[Bs]? = some _ by rw [← hW]; exact b_alloc mS.out _)
    replace mN := Aside.mk (show V1.heap[Bn]? = some _ by rw [← hW]; exact b_alloc mN.out _)
    replace rN := Aside.mk (show World.ownsRow V1 _ _ _ _ _ _ by rw [← hW]; exact rN.out.alloc _)
    replace rS := Aside.mk (show World.ownsRow V1 _ _ _ _ _ _ by rw [← hW]; exact rS.out.alloc _)
    replace hF := Aside.mk (show FrP P Bs Bn _ _ w V1 by rw [← hW]; exact hF.out.alloc _)
    have BN := Lib.hid (show V1.heap[V0.heap.size]? = some (.cells #[.string S] 9 (0, 0)) by rw [← hW]; exact b_new _ _)
    have LBN := Lib.hid (Nat.le_of_succ_le ZW.out)
    replace ZW := Lib.hid (show w.heap.size + 1 ≤ V1.heap.size by rw [← hW]; have := ZW.out; simp; omega)
    clear hW
    refine anyw_two 8 14 _ _ (by kernel_rfl) (by simp only [List.getElem?_toArray, List.getElem?_cons_succ, List.getElem?_cons_zero]; exact rfl) (by simp only [List.getElem?_toArray, List.getElem?_cons_succ, List.getElem?_cons_zero]; exact rfl) (fun K hK => ?_) (fun K hK => ?_)
    · rw [if_pos (by kernel_rfl)]
      refine wp_append_at (.tmp 34) (.tmp 36) 69 rfl base 9 iN (.string ⟨#[]⟩) 1 16 Tryz.underlying69 IN1.out IN2.out IN3.out IN4.out rfl (by decide) (.slice A1 n C1) n (keysN T) rfl rN.out ⟨V0.heap.size, 0, none⟩ 1 1 [.string S] rfl rfl (cells_news BN.out) (by intro x hx; rw [List.mem_singleton] at hx; rw [hx]; rfl) (by unfold maxLen; omega) (by omega) (by have := hlo.1; have := ZW.out; omega) ?_
      intro v1 V2 hown hg hblk
      obtain ⟨A3, C3, rfl⟩ := own_slice hown
      refine hK.out _ _ ⟨keeps_grown hg (fun b hb => ⟨Nat.lt_of_lt_of_le (SZ.out b hb) ZW.out, GN.out b hb⟩), fun _ => keeps_grown hg (fun b hb => ⟨Nat.lt_of_lt_of_le (SZP.out b hb) ZW.out, GNP.out b hb⟩)⟩ ?_
      clear hK K
      try simp only [Act.put, List.setIfInBounds_toArray, List.set_cons_zero, List.set_cons_succ]
      have k1 : Aside ((Value.slice A3 (n + 1) C3).ownBlock = (Value.slice A1 n C1).ownBlock ∨ ∃ g, (Value.slice A3 (n + 1) C3).ownBlock = some g ∧ w.heap.size ≤ g) := ⟨hblk.imp id (fun h => ⟨_, h, Nat.le_of_succ_le ZW.out⟩)⟩
      replace FC := Lib.hid (grownBy_block hg FC.out RNC.out)
      replace FP := Lib.hid (grownBy_block hg FP.out RNP.out)
      replace mS := Aside.mk (grownBy_block hg mS.out RNs.out)
      replace mN := Aside.mk (grownBy_block hg mN.out RNn.out)
      replace rS := Aside.mk (rS.out.kept hg (rows_ne rS.out rN.out (by decide)))
      replace rN := Aside.mk hown
      replace hF := Aside.mk (hF.out.grown hg (.inl rfl))
      replace ZW := Lib.hid (Nat.le_trans ZW.out hg.size)
      clear hown hg hblk
      refine anyw_one 14 _ (by kernel_rfl) (by simp only [List.getElem?_toArray, List.getElem?_cons_succ, List.getElem?_cons_zero]; exact rfl) (fun K hK => ?_)
      go_simp
      refine hK.out _ _ ⟨keeps_alloc (fun b hb => Nat.lt_of_lt_of_le (SZ.out b hb) ZW.out) _, fun _ => keeps_alloc (fun b hb => Nat.lt_of_lt_of_le (SZP.out b hb) ZW.out) _⟩ ?_
      clear hK K
      try simp only [Act.put, List.setIfInBounds_toArray, List.set_cons_zero, List.set_cons_succ]
      generalize hW : World.alloc _ _ = V3
      replace FC := Lib.hid (show V3.heap[c]? = some _ by rw [← hW]; exact b_alloc FC.out _)
      replace FP := Lib.hid (show V3.heap[P]? = some _ by rw [← hW]; exact b_alloc FP.out _)
      replace mS := Aside.mk (show V3.heap[Bs]? = some _ by rw [← hW]; exact b_alloc mS.out _)
      replace mN := Aside.mk (show V3.heap[Bn]? = some _ by rw [← hW]; exact b_alloc mN.out _)
      replace rN := Aside.mk (show World.ownsRow V3 _ _ _ _ _ _ by rw [← hW]; exact rN.out.alloc _)
      replace rS := Aside.mk (show World.ownsRow V3 _ _ _ _ _ _ by rw [← hW]; exact rS.out.alloc _)
      replace hF := Aside.mk (show FrP P Bs Bn _ _ w V3 by rw [← hW]; exact hF.out.alloc _)
      have BS := Lib.hid (show V3.heap[V2.heap.size]? = some (.cells #[.int .i64 f, .int .i64 o, .bool u, .bool v] 74 (0, 0)) by rw [← hW]; exact b_new _ _)
      have LBS := Lib.hid (Nat.le_of_succ_le ZW.out)
      replace ZW := Lib.hid (show w.heap.size + 1 ≤ V3.heap.size by rw [← hW]; have := ZW.out; simp; omega)
      clear hW
      refine anyw_one 15 _ (by kernel_rfl) (by simp only [List.getElem?_toArray, List.getElem?_cons_succ, List.getElem?_cons_zero]; exact rfl) (fun K hK => ?_)
      rw [if_pos (by kernel_rfl)]
      refine wp_append_at (.tmp 41) (.tmp 43) 70 rfl base 74 iS (.agg #[.int .i64 0, .int .i64 0, .bool false, .bool false]) 4 24 Tryz.underlying70 IS1.out IS2.out IS3.out IS4.out rfl (by decide) (.slice A2 n C2) n (T.flatMap fun p => shpC p.1) rfl rS.out ⟨V2.heap.size, 0, none⟩ 1 1 [.int .i64 f, .int .i64 o, .bool u, .bool v] rfl rfl (cells_news BS.out) (by intro x hx; simp only [List.mem_cons, List.not_mem_nil, or_false] at hx; rcases hx with rfl | rfl | rfl | rfl <;> rfl) (by unfold maxLen; omega) (by omega) (by have := hlo.1; have := ZW.out; omega) ?_
      intro v1 V4 hown hg hblk
      obtain ⟨A4, C4, rfl⟩ := own_slice hown
      refine hK.out _ _ ⟨keeps_grown hg (fun b hb => ⟨Nat.lt_of_lt_of_le (SZ.out b hb) ZW.out, GS.out b hb⟩), fun _ => keeps_grown hg (fun b hb => ⟨Nat.lt_of_lt_of_le (SZP.out b hb) ZW.out, GSP.out b hb⟩)⟩ ?_
      clear hK K
      try simp only [Act.put, List.setIfInBounds_toArray, List.set_cons_zero, List.set_cons_succ]
      have k2 : Aside ((Value.slice A4 (n + 1) C4).ownBlock = (Value.slice A2 n C2).ownBlock ∨ ∃ g, (Value.slice A4 (n + 1) C4).ownBlock = some g ∧ w.heap.size ≤ g) := ⟨hblk.imp id (fun h => ⟨_, h, Nat.le_of_succ_le ZW.out⟩)⟩
      replace FC := Lib.hid (grownBy_block hg FC.out RSC.out)
      replace FP := Lib.hid (grownBy_block hg FP.out RSP.out)
      replace mS := Aside.mk (grownBy_block hg mS.out RSs.out)
      replace mN := Aside.mk (grownBy_block hg mN.out RSn.out)
      replace rN := Aside.mk (rN.out.kept hg (rows_ne rN.out rS.out (by decide)))
      replace rS := Aside.mk hown
      replace hF := Aside.mk (hF.out.grown hg (.inr rfl))
      replace ZW := Lib.hid (Nat.le_trans ZW.out hg.size)
      clear hown hg hblk
      refine anyw_take (R := KeepsBs [c, w.heap.size]) (keepsBs_goes _) (fun _ _ _ h => h.1) (fun _ _ => ⟨(keepsBs_goes _).refl _, fun _ => (keepsBs_goes _).refl _⟩) 16 ?_ ?_ (by simp only [List.getElem?_toArray, List.getElem?_cons_succ, List.getElem?_cons_zero]; exact rfl) (by kernel_rfl) (by kernel_rfl) (by kernel_rfl) (fun _ _ _ _ _ h => h) (by rfl) ?_ ?_
      rotate_left
      · intro wl hL
        skip
        go_simp
        try with_reducible rfl
      try simp only [Act.put, List.setIfInBounds_toArray, List.set_cons_zero, List.set_cons_succ]
      refine anyw_take (R := KeepsBs [c, w.heap.size]) (keepsBs_goes _) (fun _ _ _ h => h.1) (fun _ _ => ⟨(keepsBs_goes _).refl _, fun _ => (keepsBs_goes _).refl _⟩) 17 ?_ ?_ (by simp only [List.getElem?_toArray, List.getElem?_cons_succ, List.getElem?_cons_zero]; exact rfl) (by kernel_rfl) (by kernel_rfl) (by kernel_rfl) (fun _ _ _ _ _ h => h) (by rfl) ?_ ?_
      rotate_left
      · intro wl hL
        skip
        go_simp
        try with_reducible rfl
      try simp only [Act.put, List.setIfInBounds_toArray, List.set_cons_zero, List.set_cons_succ]
      have pc := cell_of_block FP.out 0
      have pf := frozen_of_block FP.out 0
      refine anyw_one 18 _ (by kernel_rfl) (by simp only [List.getElem?_toArray, List.getElem?_cons_succ, List.getElem?_cons_zero]; exact rfl) (fun K hK => ?_)
      go_simp
      refine hK.out _ _ ⟨keeps_setCell (by intro b hb; simp only [List.mem_cons, List.not_mem_nil, or_false] at hb; rcases hb with rfl | rfl <;> omega), fun h => absurd (by simp) h⟩ ?_
      clear hK K pc pf
      try simp only [Act.put, List.setIfInBounds_toArray, List.set_cons_zero, List.set_cons_succ]
      generalize hW : World.setCell _ _ _ = Y1
      replace mS := Aside.mk (show Y1.heap[Bs]? = some _ by rw [← hW]; exact b_far mS.out (p := ⟨P, 0, none⟩) (by show Bs ≠ P; omega) _)
      replace mN := Aside.mk (show Y1.heap[Bn]? = some _ by rw [← hW]; exact b_far mN.out (p := ⟨P, 0, none⟩) (by show Bn ≠ P; omega) _)
      replace rN := Aside.mk (show World.ownsRow Y1 _ _ _ _ _ _ by rw [← hW]; exact row_setCell rN.out (by rw [FP.out]; intro cs e; cases e))
      replace rS := Aside.mk (show World.ownsRow Y1 _ _ _ _ _ _ by rw [← hW]; exact row_setCell rS.out (by rw [FP.out]; intro cs e; cases e))
      replace FP := Lib.hid (show Y1.heap[P]? = some (.cells #[.slice A3 (n + 1) C3, .slice A2 n C2, .map (some Bs), .map (some Bn)] 72 (0, 0)) by rw [← hW]; exact b_put FP.out 0 _ rfl)
      replace hF := Aside.mk (show FrP P Bs Bn _ _ w Y1 by rw [← hW]; exact hF.out.setCell _ _)
      clear hW
      refine anyw_take (R := KeepsBs [c, w.heap.size]) (keepsBs_goes _) (fun _ _ _ h => h.1) (fun _ _ => ⟨(keepsBs_goes _).refl _, fun _ => (keepsBs_goes _).refl _⟩) 19 ?_ ?_ (by simp only [List.getElem?_toArray, List.getElem?_cons_succ, List.getElem?_cons_zero]; exact rfl) (by kernel_rfl) (by kernel_rfl) (by kernel_rfl) (fun _ _ _ _ _ h => h) (by rfl) ?_ ?_
      rotate_left
      · intro wl hL
        skip
        go_simp
        try with_reducible rfl
      try simp only [Act.put, List.setIfInBounds_toArray, List.set_cons_zero, List.set_cons_succ]
      refine anyw_take (R := KeepsBs [c, w.heap.size]) (keepsBs_goes _) (fun _ _ _ h => h.1) (fun _ _ => ⟨(keepsBs_goes _).refl _, fun _ => (keepsBs_goes _).refl _⟩) 20 ?_ ?_ (by simp only [List.getElem?_toArray, List.getElem?_cons_succ, List.getElem?_cons_zero]; exact rfl) (by kernel_rfl) (by kernel_rfl) (by kernel_rfl) (fun _ _ _ _ _ h => h) (by rfl) ?_ ?_
      rotate_left
      · intro wl hL
        skip
        go_simp
        try with_reducible rfl
      try simp only [Act.put, List.setIfInBounds_toArray, List.set_cons_zero, List.set_cons_succ]
      have pc := cell_of_block FP.out 1
      have pf := frozen_of_block FP.out 1
      refine anyw_one 21 _ (by kernel_rfl) (by simp only [List.getElem?_toArray, List.getElem?_cons_succ, List.getElem?_cons_zero]; exact rfl) (fun K hK => ?_)
      go_simp
      refine hK.out _ _ ⟨keeps_setCell (by intro b hb; simp only [List.mem_cons, List.not_mem_nil, or_false] at hb; rcases hb with rfl | rfl <;> omega), fun h => absurd (by simp) h⟩ ?_
      clear hK K pc pf
      try simp only [Act.put, List.setIfInBounds_toArray, List.set_cons_zero, List.set_cons_succ]
      generalize hW : World.setCell _ _ _ = Y2
      replace mS := Aside.mk (show Y2.heap[Bs]? = some _ by rw [← hW]; exact b_far mS.out (p := ⟨P, 1, none⟩) (by show Bs ≠ P; omega) _)
      replace mN := Aside.mk (show Y2.heap[Bn]? = some _ by rw [← hW]; exact b_far mN.out (p := ⟨P, 1, none⟩) (by show Bn ≠ P; omega) _)
      replace rN := Aside.mk (show World.ownsRow Y2 _ _ _ _ _ _ by rw [← hW]; exact row_setCell rN.out (by rw [FP.out]; intro cs e; cases e))
      replace rS := Aside.mk (show World.ownsRow Y2 _ _ _ _ _ _ by rw [← hW]; exact row_setCell rS.out (by rw [FP.out]; intro cs e; cases e))
      replace FP := Lib.hid (show Y2.heap[P]? = some (.cells #[.slice A3 (n + 1) C3, .slice A4 (n + 1) C4, .map (some Bs), .map (some Bn)] 72 (0, 0)) by rw [← hW]; exact b_put FP.out 1 _ rfl)
      replace hF := Aside.mk (show FrP P Bs Bn _ _ w Y2 by rw [← hW]; exact hF.out.setCell _ _)
      clear hW
      refine anyw_done (by kernel_rfl) ?_ _
      go_wp2_with fail
      go_end0
      exact put_end rfl FP.out rN.out rS.out mS.out mN.out HT1.out HT2.out HLT.out HKD.out HNV.out (by omega) hlo hF.out k1.out k2.out
    · go_simp
      refine hK.out _ _ ⟨keeps_alloc (fun b hb => Nat.lt_of_lt_of_le (SZ.out b hb) ZW.out) _, fun _ => keeps_alloc (fun b hb => Nat.lt_of_lt_of_le (SZP.out b hb) ZW.out) _⟩ ?_
      clear hK K
      try simp only [Act.put, List.setIfInBounds_toArray, List.set_cons_zero, List.set_cons_succ]
      generalize hW : World.alloc _ _ = V2
      replace FC := Lib.hid (show V2.heap[c]? = some _ by rw [← hW]; exact b_alloc FC.out _)
      replace FP := Lib.hid (show V2.heap[P]? = some _ by rw [← hW]; exact b_alloc FP.out _)
      replace mS := Aside.mk (show V2.heap[Bs]? = some _ by rw [← hW]; exact b_alloc mS.out _)
      replace mN := Aside.mk (show V2.heap[Bn]? = some _ by rw [← hW]; exact b_alloc mN.out _)
      replace rN := Aside.mk (show World.ownsRow V2 _ _ _ _ _ _ by rw [← hW]; exact rN.out.alloc _)
      replace rS := Aside.mk (show World.ownsRow V2 _ _ _ _ _ _ by rw [← hW]; exact rS.out.alloc _)
      replace hF := Aside.mk (show FrP P Bs Bn _ _ w V2 by rw [← hW]; exact hF.out.alloc _)
      have BS := Lib.hid (show V2.heap[V1.heap.size]? = some (.cells #[.int .i64 f, .int .i64 o, .bool u, .bool v] 74 (0, 0)) by rw [← hW]; exact b_new _ _)
      have LBS := Lib.hid (Nat.le_of_succ_le ZW.out)
      replace BN := Lib.hid (show V2.heap[_]? = some _ by rw [← hW]; exact b_alloc BN.out _)
      replace ZW := Lib.hid (show w.heap.size + 1 ≤ V2.heap.size by rw [← hW]; have := ZW.out; simp; omega)
      clear hW
      refine anyw_one 8 _ (by kernel_rfl) (by simp only [List.getElem?_toArray, List.getElem?_cons_succ, List.getElem?_cons_zero]; exact rfl) (fun K hK => ?_)
      rw [if_pos (by kernel_rfl)]
      refine wp_append_at (.tmp 34) (.tmp 36) 69 rfl base 9 iN (.string ⟨#[]⟩) 1 16 Tryz.underlying69 IN1.out IN2.out IN3.out IN4.out rfl (by decide) (.slice A1 n C1) n (keysN T) rfl rN.out ⟨V0.heap.size, 0, none⟩ 1 1 [.string S] rfl rfl (cells_news BN.out) (by intro x hx; rw [List.mem_singleton] at hx; rw [hx]; rfl) (by unfold maxLen; omega) (by omega) (by have := hlo.1; have := ZW.out; omega) ?_
      intro v1 V3 hown hg hblk
      obtain ⟨A3, C3, rfl⟩ := own_slice hown
      refine hK.out _ _ ⟨keeps_grown hg (fun b hb => ⟨Nat.lt_of_lt_of_le (SZ.out b hb) ZW.out, GN.out b hb⟩), fun _ => keeps_grown hg (fun b hb => ⟨Nat.lt_of_lt_of_le (SZP.out b hb) ZW.out, GNP.out b hb⟩)⟩ ?_
      clear hK K
      try simp only [Act.put, List.setIfInBounds_toArray, List.set_cons_zero, List.set_cons_succ]
      have k1 : Aside ((Value.slice A3 (n + 1) C3).ownBlock = (Value.slice A1 n C1).ownBlock ∨ ∃ g, (Value.slice A3 (n + 1) C3).ownBlock = some g ∧ w.heap.size ≤ g) := ⟨hblk.imp id (fun h => ⟨_, h, Nat.le_of_succ_le ZW.out⟩)⟩
      replace FC := Lib.hid (grownBy_block hg FC.out RNC.out)
      replace FP := Lib.hid (grownBy_block hg FP.out RNP.out)
      replace mS := Aside.mk (grownBy_block hg mS.out RNs.out)
      replace mN := Aside.mk (grownBy_block hg mN.out RNn.out)
      replace rS := Aside.mk (rS.out.kept hg (rows_ne rS.out rN.out (by decide)))
      replace rN := Aside.mk hown
      replace hF := Aside.mk (hF.out.grown hg (.inl rfl))
      replace BS := Lib.hid (grownBy_block hg BS.out (RN1.out _ LBS.out))
      replace ZW := Lib.hid (Nat.le_trans ZW.out hg.size)
      clear hown hg hblk
      refine anyw_one 15 _ (by kernel_rfl) (by simp only [List.getElem?_toArray, List.getElem?_cons_succ, List.getElem?_cons_zero]; exact rfl) (fun K hK => ?_)
      rw [if_pos (by kernel_rfl)]
      refine wp_append_at (.tmp 41) (.tmp 43) 70 rfl base 74 iS (.agg #[.int .i64 0, .int .i64 0, .bool false, .bool false]) 4 24 Tryz.underlying70 IS1.out IS2.out IS3.out IS4.out rfl (by decide) (.slice A2 n C2) n (T.flatMap fun p => shpC p.1) rfl rS.out ⟨V1.heap.size, 0, none⟩ 1 1 [.int .i64 f, .int .i64 o, .bool u, .bool v] rfl rfl (cells_news BS.out) (by intro x hx; simp only [List.mem_cons, List.not_mem_nil, or_false] at hx; rcases hx with rfl | rfl | rfl | rfl <;> rfl) (by unfold maxLen; omega) (by omega) (by have := hlo.1; have := ZW.out; omega) ?_
      intro v1 V4 hown hg hblk
      obtain ⟨A4, C4, rfl⟩ := own_slice hown
      refine hK.out _ _ ⟨keeps_grown hg (fun b hb => ⟨Nat.lt_of_lt_of_le (SZ.out b hb) ZW.out, GS.out b hb⟩), fun _ => keeps_grown hg (fun b hb => ⟨Nat.lt_of_lt_of_le (SZP.out b hb) ZW.out, GSP.out b hb⟩)⟩ ?_
      clear hK K
      try simp only [Act.put, List.setIfInBounds_toArray, List.set_cons_zero, List.set_cons_succ]
      have k2 : Aside ((Value.slice A4 (n + 1) C4).ownBlock = (Value.slice A2 n C2).ownBlock ∨ ∃ g, (Value.slice A4 (n + 1) C4).ownBlock = some g ∧ w.heap.size ≤ g) := ⟨hblk.imp id (fun h => ⟨_, h, Nat.le_of_succ_le ZW.out⟩)⟩
      replace FC := Lib.hid (grownBy_block hg FC.out RSC.out)
      replace FP := Lib.hid (grownBy_block hg FP.out RSP.out)
      replace mS := Aside.mk (grownBy_block hg mS.out RSs.out)
      replace mN := Aside.mk (grownBy_block hg mN.out RSn.out)
      replace rN := Aside.mk (rN.out.kept hg (rows_ne rN.out rS.out (by decide)))
      replace rS := Aside.mk hown
      replace hF := Aside.mk (hF.out.grown hg (.inr rfl))
      replace ZW := Lib.hid (Nat.le_trans ZW.out hg.size)
      clear hown hg hblk
      refine anyw_take (R := KeepsBs [c, w.heap.size]) (keepsBs_goes _) (fun _ _ _ h => h.1) (fun _ _ => ⟨(keepsBs_goes _).refl _, fun _ => (keepsBs_goes _).refl _⟩) 16 ?_ ?_ (by simp only [List.getElem?_toArray, List.getElem?_cons_succ, List.getElem?_cons_zero]; exact rfl) (by kernel_rfl) (by kernel_rfl) (by kernel_rfl) (fun _ _ _ _ _ h => h) (by rfl) ?_ ?_
      rotate_left
      · intro wl hL
        skip
        go_simp
        try with_reducible rfl
      try simp only [Act.put, List.setIfInBounds_toArray, List.set_cons_zero, List.set_cons_succ]
      refine anyw_take (R := KeepsBs [c, w.heap.size]) (keepsBs_goes _) (fun _ _ _ h => h.1) (fun _ _ => ⟨(keepsBs_goes _).refl _, fun _ => (keepsBs_goes _).refl _⟩) 17 ?_ ?_ (by simp only [List.getElem?_toArray, List.getElem?_cons_succ, List.getElem?_cons_zero]; exact rfl) (by kernel_rfl) (by kernel_rfl) (by kernel_rfl) (fun _ _ _ _ _ h => h) (by rfl) ?_ ?_
      rotate_left
      · intro wl hL
        skip
        go_simp
        try with_reducible rfl
      try simp only [Act.put, List.setIfInBounds_toArray, List.set_cons_zero, List.set_cons_succ]
      have pc := cell_of_block FP.out 0
      have pf := frozen_of_block FP.out 0
      refine anyw_one 18 _ (by kernel_rfl) (by simp only [List.getElem?_toArray, List.getElem?_cons_succ, List.getElem?_cons_zero]; exact rfl) (fun K hK => ?_)
      go_simp
      refine hK.out _ _ ⟨keeps_setCell (by intro b hb; simp only [List.mem_cons, List.not_mem_nil, or_false] at hb; rcases hb with rfl | rfl <;> omega), fun h => absurd (by simp) h⟩ ?_
      clear hK K pc pf
      try simp only [Act.put, List.setIfInBounds_toArray, List.set_cons_zero, List.set_cons_succ]
      generalize hW : World.setCell _ _ _ = Y1
      replace mS := Aside.mk (show Y1.heap[Bs]? = some _ by rw [← hW]; exact b_far mS.out (p := ⟨P, 0, none⟩) (by show Bs ≠ P; omega) _)
      replace mN := Aside.mk (show Y1.heap[Bn]? = some _ by rw [← hW]; exact b_far mN.out (p := ⟨P, 0, none⟩) (by show Bn ≠ P; omega) _)
      replace rN := Aside.mk (show World.ownsRow Y1 _ _ _ _ _ _ by rw [← hW]; exact row_setCell rN.out (by rw [FP.out]; intro cs e; cases e))
      replace rS := Aside.mk (show World.ownsRow Y1 _ _ _ _ _ _ by rw [← hW]; exact row_setCell rS.out (by rw [FP.out]; intro cs e; cases e))
      replace FP := Lib.hid (show Y1.heap[P]? = some (.cells #[.slice A3 (n + 1) C3, .slice A2 n C2, .map (some Bs), .map (some Bn)] 72 (0, 0)) by rw [← hW]; exact b_put FP.out 0 _ rfl)
      replace hF := Aside.mk (show FrP P Bs Bn _ _ w Y1 by rw [← hW]; exact hF.out.setCell _ _)
      clear hW
      refine anyw_take (R := KeepsBs [c, w.heap.size]) (keepsBs_goes _) (fun _ _ _ h => h.1) (fun _ _ => ⟨(keepsBs_goes _).refl _, fun _ => (keepsBs_goes _).refl _⟩) 19 ?_ ?_ (by simp only [List.getElem?_toArray, List.getElem?_cons_succ, List.getElem?_cons_zero]; exact rfl) (by kernel_rfl) (by kernel_rfl) (by kernel_rfl) (fun _ _ _ _ _ h => h) (by rfl) ?_ ?_
      rotate_left
      · intro wl hL
        skip
        go_simp
        try with_reducible rfl
      try simp only [Act.put, List.setIfInBounds_toArray, List.set_cons_zero, List.set_cons_succ]
      refine anyw_take (R := KeepsBs [c, w.heap.size]) (keepsBs_goes _) (fun _ _ _ h => h.1) (fun _ _ => ⟨(keepsBs_goes _).refl _, fun _ => (keepsBs_goes _).refl _⟩) 20 ?_ ?_ (by simp only [List.getElem?_toArray, List.getElem?_cons_succ, List.getElem?_cons_zero]; exact rfl) (by kernel_rfl) (by kernel_rfl) (by kernel_rfl) (fun _ _ _ _ _ h => h) (by rfl) ?_ ?_
      rotate_left
      · intro wl hL
        skip
        go_simp
        try with_reducible rfl
      try simp only [Act.put, List.setIfInBounds_toArray, List.set_cons_zero, List.set_cons_succ]
      have pc := cell_of_block FP.out 1
      have pf := frozen_of_block FP.out 1
      refine anyw_one 21 _ (by kernel_rfl) (by simp only [List.getElem?_toArray, List.getElem?_cons_succ, List.getElem?_cons_zero]; exact rfl) (fun K hK => ?_)
      go_simp
      refine hK.out _ _ ⟨keeps_setCell (by intro b hb; simp only [List.mem_cons, List.not_mem_nil, or_false] at hb; rcases hb with rfl | rfl <;> omega), fun h => absurd (by simp) h⟩ ?_
      clear hK K pc pf
      try simp only [Act.put, List.setIfInBounds_toArray, List.set_cons_zero, List.set_cons_succ]
      generalize hW : World.setCell _ _ _ = Y2
      replace mS := Aside.mk (show Y2.heap[Bs]? = some _ by rw [← hW]; exact b_far mS.out (p := ⟨P, 1, none⟩) (by show Bs ≠ P; omega) _)
      replace mN := Aside.mk (show Y2.heap[Bn]? = some _ by rw [← hW]; exact b_far mN.out (p := ⟨P, 1, none⟩) (by show Bn ≠ P; omega) _)
      replace rN := Aside.mk (show World.ownsRow Y2 _ _ _ _ _ _ by rw [← hW]; exact row_setCell rN.out (by rw [FP.out]; intro cs e; cases e))
      replace rS := Aside.mk (show World.ownsRow Y2 _ _ _ _ _ _ by rw [← hW]; exact row_setCell rS.out (by rw [FP.out]; intro cs e; cases e))
      replace FP := Lib.hid (show Y2.heap[P]? = some (.cells #[.slice A3 (n + 1) C3, .slice A4 (n + 1) C4, .map (some Bs), .map (some Bn)] 72 (0, 0)) by rw [← hW]; exact b_put FP.out 1 _ rfl)
      replace hF := Aside.mk (show FrP P Bs Bn _ _ w Y2 by rw [← hW]; exact hF.out.setCell _ _)
      clear hW
      refine anyw_done (by kernel_rfl) ?_ _
      go_wp2_with fail
      go_end0
      exact put_end rfl FP.out rN.out rS.out mS.out mN.out HT1.out HT2.out HLT.out HKD.out HNV.out (by omega) hlo hF.out k1.out k2.out
  · go_simp
    refine hK.out _ _ ⟨keeps_alloc (fun b hb => Nat.lt_of_lt_of_le (SZ.out b hb) ZW.out) _, fun _ => keeps_alloc (fun b hb => Nat.lt_of_lt_of_le (SZP.out b hb) ZW.out) _⟩ ?_
    clear hK K
    try simp only [Act.put, List.setIfInBounds_toArray, List.set_cons_zero, List.set_cons_succ]
    generalize hW : World.alloc _ _ = V1
    replace FC := Lib.hid (show V1.heap[c]? = some _ by rw [← hW]; exact b_alloc FC.out _)
    replace FP := Lib.hid (show V1.heap[P]? = some _ by rw [← hW]; exact b_alloc FP.out _)
    replace mS := Aside.mk (show V1.heap[Bs]? = some _ by rw [← hW]; exact b_alloc mS.out _)
    replace mN := Aside.mk (show V1.heap[Bn]? = some _ by rw [← hW]; exact b_alloc mN.out _)
    replace rN := Aside.mk (show World.ownsRow V1 _ _ _ _ _ _ by rw [← hW]; exact rN.out.alloc _)
    replace rS := Aside.mk (show World.ownsRow V1 _ _ _ _ _ _ by rw [← hW]; exact rS.out.alloc _)
    replace hF := Aside.mk (show FrP P Bs Bn _ _ w V1 by rw [← hW]; exact hF.out.alloc _)
    have BS := Lib.hid (show V1.heap[V0.heap.size]? = some (.cells #[.int .i64 f, .int .i64 o, .bool u, .bool v] 74 (0, 0)) by rw [← hW]; exact b_new _ _)
    have LBS := Lib.hid (Nat.le_of_succ_le ZW.out)
    replace ZW := Lib.hid (show w.heap.size + 1 ≤ V1.heap.size by rw [← hW]; have := ZW.out; simp; omega)
    clear hW
    refine anyw_one 7 _ (by kernel_rfl) (by simp only [List.getElem?_toArray, List.getElem?_cons_succ, List.getElem?_cons_zero]; exact rfl) (fun K hK => ?_)
    go_simp
    refine hK.out _ _ ⟨keeps_alloc (fun b hb => Nat.lt_of_lt_of_le (SZ.out b hb) ZW.out) _, fun _ => keeps_alloc (fun b hb => Nat.lt_of_lt_of_le (SZP.out b hb) ZW.out) _⟩ ?_
    clear hK K
    try simp only [Act.put, List.setIfInBounds_toArray, List.set_cons_zero, List.set_cons_succ]
    generalize hW : World.alloc _ _ = V2
    replace FC := Lib.hid (show V2.heap[c]? = some _ by rw [← hW]; exact b_alloc FC.out _)
    replace FP := Lib.hid (show V2.heap[P]? = some _ by rw [← hW]; exact b_alloc FP.out _)
    replace mS := Aside.mk (show V2.heap[Bs]? = some _ by rw [← hW]; exact b_alloc mS.out _)
    replace mN := Aside.mk (show V2.heap[Bn]? = some _ by rw [← hW]; exact b_alloc mN.out _)
    replace rN := Aside.mk (show World.ownsRow V2 _ _ _ _ _ _ by rw [← hW]; exact rN.out.alloc _)
    replace rS := Aside.mk (show World.ownsRow V2 _ _ _ _ _ _ by rw [← hW]; exact rS.out.alloc _)
    replace hF := Aside.mk (show FrP P Bs Bn _ _ w V2 by rw [← hW]; exact hF.out.alloc _)
    have BN := Lib.hid (show V2.heap[V1.heap.size]? = some (.cells #[.string S] 9 (0, 0)) by rw [← hW]; exact b_new _ _)
    have LBN := Lib.hid (Nat.le_of_succ_le ZW.out)
    replace BS := Lib.hid (show V2.heap[_]? = some _ by rw [← hW]; exact b_alloc BS.out _)
    replace ZW := Lib.hid (show w.heap.size + 1 ≤ V2.heap.size by rw [← hW]; have := ZW.out; simp; omega)
    clear hW
    refine anyw_one 8 _ (by kernel_rfl) (by simp only [List.getElem?_toArray, List.getElem?_cons_succ, List.getElem?_cons_zero]; exact rfl) (fun K hK => ?_)
    rw [if_pos (by kernel_rfl)]
    refine wp_append_at (.tmp 34) (.tmp 36) 69 rfl base 9 iN (.string ⟨#[]⟩) 1 16 Tryz.underlying69 IN1.out IN2.out IN3.out IN4.out rfl (by decide) (.slice A1 n C1) n (keysN T) rfl rN.out ⟨V1.heap.size, 0, none⟩ 1 1 [.string S] rfl rfl (cells_news BN.out) (by intro x hx; rw [List.mem_singleton] at hx; rw [hx]; rfl) (by unfold maxLen; omega) (by omega) (by have := hlo.1; have := ZW.out; omega) ?_
    intro v1 V3 hown hg hblk
    obtain ⟨A3, C3, rfl⟩ := own_slice hown
    refine hK.out _ _ ⟨keeps_grown hg (fun b hb => ⟨Nat.lt_of_lt_of_le (SZ.out b hb) ZW.out, GN.out b hb⟩), fun _ => keeps_grown hg (fun b hb => ⟨Nat.lt_of_lt_of_le (SZP.out b hb) ZW.out, GNP.out b hb⟩)⟩ ?_
    clear hK K
    try simp only [Act.put, List.setIfInBounds_toArray, List.set_cons_zero, List.set_cons_succ]
    have k1 : Aside ((Value.slice A3 (n + 1) C3).ownBlock = (Value.slice A1 n C1).ownBlock ∨ ∃ g, (Value.slice A3 (n + 1) C3).ownBlock = some g ∧ w.heap.size ≤ g) := ⟨hblk.imp id (fun h => ⟨_, h, Nat.le_of_succ_le ZW.out⟩)⟩
    replace FC := Lib.hid (grownBy_block hg FC.out RNC.out)
    replace FP := Lib.hid (grownBy_block hg FP.out RNP.out)
    replace mS := Aside.mk (grownBy_block hg mS.out RNs.out)
    replace mN := Aside.mk (grownBy_block hg mN.out RNn.out)
    replace rS := Aside.mk (rS.out.kept hg (rows_ne rS.out rN.out (by decide)))
    replace rN := Aside.mk hown
    replace hF := Aside.mk (hF.out.grown hg (.inl rfl))
    replace BS := Lib.hid (grownBy_block hg BS.out (RN1.out _ LBS.out))
    replace ZW := Lib.hid (Nat.le_trans ZW.out hg.size)
    clear hown hg hblk
    refine anyw_one 15 _ (by kernel_rfl) (by simp only [List.getElem?_toArray, List.getElem?_cons_succ, List.getElem?_cons_zero]; exact rfl) (fun K hK => ?_)
    rw [if_pos (by kernel_rfl)]
    refine wp_append_at (.tmp 41) (.tmp 43) 70 rfl base 74 iS (.agg #[.int .i64 0, .int .i64 0, .bool false, .bool false]) 4 24 Tryz.underlying70 IS1.out IS2.out IS3.out IS4.out rfl (by decide) (.slice A2 n C2) n (T.flatMap fun p => shpC p.1) rfl rS.out ⟨V0.heap.size, 0, none⟩ 1 1 [.int .i64 f, .int .i64 o, .bool u, .bool v] rfl rfl (cells_news BS.out) (by intro x hx; simp only [List.mem_cons, List.not_mem_nil, or_false] at hx; rcases hx with rfl | rfl | rfl | rfl <;> rfl) (by unfold maxLen; omega) (by omega) (by have := hlo.1; have := ZW.out; omega) ?_
    intro v1 V4 hown hg hblk
    obtain ⟨A4, C4, rfl⟩ := own_slice hown
    refine hK.out _ _ ⟨keeps_grown hg (fun b hb => ⟨Nat.lt_of_lt_of_le (SZ.out b hb) ZW.out, GS.out b hb⟩), fun _ => keeps_grown hg (fun b hb => ⟨Nat.lt_of_lt_of_le (SZP.out b hb) ZW.out, GSP.out b hb⟩)⟩ ?_
    clear hK K
    try simp only [Act.put, List.setIfInBounds_toArray, List.set_cons_zero, List.set_cons_succ]
    have k2 : Aside ((Value.slice A4 (n + 1) C4).ownBlock = (Value.slice A2 n C2).ownBlock ∨ ∃ g, (Value.slice A4 (n + 1) C4).ownBlock = some g ∧ w.heap.size ≤ g) := ⟨hblk.imp id (fun h => ⟨_, h, Nat.le_of_succ_le ZW.out⟩)⟩
    replace FC := Lib.hid (grownBy_block hg FC.out RSC.out)
    replace FP := Lib.hid (grownBy_block hg FP.out RSP.out)
    replace mS := Aside.mk (grownBy_block hg mS.out RSs.out)
    replace mN := Aside.mk (grownBy_block hg mN.out RSn.out)
    replace rN := Aside.mk (rN.out.kept hg (rows_ne rN.out rS.out (by decide)))
    replace rS := Aside.mk hown
    replace hF := Aside.mk (hF.out.grown hg (.inr rfl))
    replace ZW := Lib.hid (Nat.le_trans ZW.out hg.size)
    clear hown hg hblk
    refine anyw_take (R := KeepsBs [c, w.heap.size]) (keepsBs_goes _) (fun _ _ _ h => h.1) (fun _ _ => ⟨(keepsBs_goes _).refl _, fun _ => (keepsBs_goes _).refl _⟩) 16 ?_ ?_ (by simp only [List.getElem?_toArray, List.getElem?_cons_succ, List.getElem?_cons_zero]; exact rfl) (by kernel_rfl) (by kernel_rfl) (by kernel_rfl) (fun _ _ _ _ _ h => h) (by rfl) ?_ ?_
    rotate_left
    · intro wl hL
      skip
      go_simp
      try with_reducible rfl
    try simp only [Act.put, List.setIfInBounds_toArray, List.set_cons_zero, List.set_cons_succ]
    refine anyw_take (R := KeepsBs [c, w.heap.size]) (keepsBs_goes _) (fun _ _ _ h => h.1) (fun _ _ => ⟨(keepsBs_goes _).refl _, fun _ => (keepsBs_goes _).refl _⟩) 17 ?_ ?_ (by simp only [List.getElem?_toArray, List.getElem?_cons_succ, List.getElem?_cons_zero]; exact rfl) (by kernel_rfl) (by kernel_rfl) (by kernel_rfl) (fun _ _ _ _ _ h => h) (by rfl) ?_ ?_
    rotate_left
    · intro wl hL
      skip
      go_simp
      try with_reducible rfl
    try simp only [Act.put, List.setIfInBounds_toArray, List.set_cons_zero, List.set_cons_succ]
    have pc := cell_of_block FP.out 0
    have pf := frozen_of_block FP.out 0
    refine anyw_one 18 _ (by kernel_rfl) (by simp only [List.getElem?_toArray, List.getElem?_cons_succ, List.getElem?_cons_zero]; exact rfl) (fun K hK => ?_)
    go_simp
    refine hK.out _ _ ⟨keeps_setCell (by intro b hb; simp only [List.mem_cons, List.not_mem_nil, or_false] at hb; rcases hb with rfl | rfl <;> omega), fun h => absurd (by simp) h⟩ ?_
    clear hK K pc pf
    try simp only [Act.put, List.setIfInBounds_toArray, List.set_cons_zero, List.set_cons_succ]
    generalize hW : World.setCell _ _ _ = Y1
    replace mS := Aside.mk (show Y1.heap[Bs]? = some _ by rw [← hW]; exact b_far mS.out (p := ⟨P, 0, none⟩) (by show Bs ≠ P; omega) _)
    replace mN := Aside.mk (show Y1.heap[Bn]? = some _ by rw [← hW]; exact b_far mN.out (p := ⟨P, 0, none⟩) (by show Bn ≠ P; omega) _)
    replace rN := Aside.mk (show World.ownsRow Y1 _ _ _ _ _ _ by rw [← hW]; exact row_setCell rN.out (by rw [FP.out]; intro cs e; cases e))
    replace rS := Aside.mk (show World.ownsRow Y1 _ _ _ _ _ _ by rw [← hW]; exact row_setCell rS.out (by rw [FP.out]; intro cs e; cases e))
    replace FP := Lib.hid (show Y1.heap[P]? = some (.cells #[.slice A3 (n + 1) C3, .slice A2 n C2, .map (some Bs), .map (some Bn)] 72 (0, 0)) by rw [← hW]; exact b_put FP.out 0 _ rfl)
    replace hF := Aside.mk (show FrP P Bs Bn _ _ w Y1 by rw [← hW]; exact hF.out.setCell _ _)
    clear hW
    refine anyw_take (R := KeepsBs [c, w.heap.size]) (keepsBs_goes _) (fun _ _ _ h => h.1) (fun _ _ => ⟨(keepsBs_goes _).refl _, fun _ => (keepsBs_goes _).refl _⟩) 19 ?_ ?_ (by simp only [List.getElem?_toArray, List.getElem?_cons_succ, List.getElem?_cons_zero]; exact rfl) (by kernel_rfl) (by kernel_rfl) (by kernel_rfl) (fun _ _ _ _ _ h => h) (by rfl) ?_ ?_
    rotate_left
    · intro wl hL
      skip
      go_simp
      try with_reducible rfl
    try simp only [Act.put, List.setIfInBounds_toArray, List.set_cons_zero, List.set_cons_succ]
    refine anyw_take (R := KeepsBs [c, w.heap.size]) (keepsBs_goes _) (fun _ _ _ h => h.1) (fun _ _ => ⟨(keepsBs_goes _).refl _, fun _ => (keepsBs_goes _).refl _⟩) 20 ?_ ?_ (by simp only [List.getElem?_toArray, List.getElem?_cons_succ, List.getElem?_cons_zero]; exact rfl) (by kernel_rfl) (by kernel_rfl) (by kernel_rfl) (fun _ _ _ _ _ h => h) (by rfl) ?_ ?_
    rotate_left
    · intro wl hL
      skip
      go_simp
      try with_reducible rfl
    try simp only [Act.put, List.setIfInBounds_toArray, List.set_cons_zero, List.set_cons_succ]
    have pc := cell_of_block FP.out 1
    have pf := frozen_of_block FP.out 1
    refine anyw_one 21 _ (by kernel_rfl) (by simp only [List.getElem?_toArray, List.getElem?_cons_succ, List.getElem?_cons_zero]; exact rfl) (fun K hK => ?_)
    go_simp
    refine hK.out _ _ ⟨keeps_setCell (by intro b hb; simp only [List.mem_cons, List.not_mem_nil, or_false] at hb; rcases hb with rfl | rfl <;> omega), fun h => absurd (by simp) h⟩ ?_
    clear hK K pc pf
    try simp only [Act.put, List.setIfInBounds_toArray, List.set_cons_zero, List.set_cons_succ]
    generalize hW : World.setCell _ _ _ = Y2
    replace mS := Aside.mk (show Y2.heap[Bs]? = some _ by rw [← hW]; exact b_far mS.out (p := ⟨P, 1, none⟩) (by show Bs ≠ P; omega) _)
    replace mN := Aside.mk (show Y2.heap[Bn]? = some _ by rw [← hW]; exact b_far mN.out (p := ⟨P, 1, none⟩) (by show Bn ≠ P; omega) _)
    replace rN := Aside.mk (show World.ownsRow Y2 _ _ _ _ _ _ by rw [← hW]; exact row_setCell rN.out (by rw [FP.out]; intro cs e; cases e))
    replace rS := Aside.mk (show World.ownsRow Y2 _ _ _ _ _ _ by rw [← hW]; exact row_setCell rS.out (by rw [FP.out]; intro cs e; cases e))
    replace FP := Lib.hid (show Y2.heap[P]? = some (.cells #[.slice A3 (n + 1) C3, .slice A4 (n + 1) C4, .map (some Bs), .map (some Bn)] 72 (0, 0)) by rw [← hW]; exact b_put FP.out 1 _ rfl)
    replace hF := Aside.mk (show FrP P Bs Bn _ _ w Y2 by rw [← hW]; exact hF.out.setCell _ _)
    clear hW
    refine anyw_done (by kernel_rfl) ?_ _
    go_wp2_with fail
    go_end0
    exact put_end rfl FP.out rN.out rS.out mS.out mN.out HT1.out HT2.out HLT.out HKD.out HNV.out (by omega) hlo hF.out k1.out k2.out
end Go.Proofs.YtjjgjadfnongfaaGreatDoor
