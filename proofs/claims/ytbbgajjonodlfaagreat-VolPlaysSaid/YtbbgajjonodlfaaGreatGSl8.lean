/-
  Facts on types out of one closed equation each; small words for the walks. It proves nothing of the program by itself.
-/
import Derived.Test.YtbbgajjonodlfaaGreatGSl7
set_option linter.unusedVariables false
set_option linter.unusedSimpArgs false
namespace Go.Sl
open Go
section tys
variable {P : Program}
theorem TyInfo.of {t sz bytes : Nat} {z : List Value} (h : (P.info? t).map (fun i => (i.size, i.bytes, i.zero.map (·.cells.toList))) = some (sz, bytes, some z)) : TyInfo P t sz bytes z := by
  cases hi : P.info? t with
  | none => rw [hi] at h; cases h
  | some i =>
    rw [hi] at h
    simp only [Option.map_some, Option.some.injEq, Prod.mk.injEq] at h
    obtain ⟨h1, h2, h3⟩ := h
    cases hz : i.zero with
    | none => rw [hz] at h3; cases h3
    | some zv =>
      rw [hz] at h3
      simp only [Option.map_some, Option.some.injEq] at h3
      exact ⟨i, zv, hi, h1, h2, hz, h3⟩
theorem TySize.of {t sz : Nat} (h : (P.info? t).map (·.size) = some sz) : TySize P t sz := by
  cases hi : P.info? t with
  | none => rw [hi] at h; cases h
  | some i => rw [hi] at h; simp only [Option.map_some, Option.some.injEq] at h; exact ⟨i, hi, h⟩
theorem FieldAt.of {t f off : Nat} {ft : TypeId} (h : (match P.underlying t with | some (.struct fs) => (fs[f]?).map fun fd => (fd.offset, fd.type, ((P.info? fd.type).map fun i => !(Nat.beq i.size 0)).getD false) | _ => none) = some (off, ft, true)) : FieldAt P t f off ft := by
  split at h
  · rename_i fs hfs
    cases hfd : fs[f]? with
    | none => rw [hfd] at h; cases h
    | some fd =>
      rw [hfd] at h
      simp only [Option.map_some, Option.some.injEq, Prod.mk.injEq] at h
      obtain ⟨h1, h2, h3⟩ := h
      rw [h2] at h3
      cases hi : P.info? ft with
      | none => rw [hi] at h3; cases h3
      | some i =>
        rw [hi] at h3
        simp only [Option.map_some, Option.getD_some, Bool.not_eq_true'] at h3
        exact ⟨fs, fd, i, hfs, hfd, h1, h2, hi, fun g => by rw [g] at h3; cases h3⟩
  · cases h
theorem Scalar.of {t : TypeId} {d : TypeDesc} (h : P.underlying t = some d) (hd : (match d with | .struct _ => false | .array _ _ => false | _ => true) = true) : Scalar P t := ⟨d, h, by cases d <;> first | rfl | cases hd⟩
theorem IsAgg.of {t : TypeId} {d : TypeDesc} (h : P.underlying t = some d) (hd : (match d with | .struct _ => true | .array _ _ => true | _ => false) = true) : IsAgg P t := ⟨d, h, by cases d <;> first | rfl | cases hd⟩
theorem Places.of {t : TypeId} {fs : Array Field} {places : List (Nat × Nat)} (h : P.underlying t = some (.struct fs)) (h2 : fs.toList.map (fun f => (P.info? f.type).map fun i => (f.offset, i.size)) = places.map some) : Places P t places := by
  refine ⟨fs, h, fun w => ?_⟩
  have key : ∀ (l : List Field) (ps : List (Nat × Nat)), l.map (fun f => (P.info? f.type).map fun i => (f.offset, i.size)) = ps.map some →
      (l.mapM fun f => do pure (f.offset, ← sizeOf f.type) : Sem (List (Nat × Nat))).run P w = .ok ps w := by
    intro l
    induction l with
    | nil => intro ps h; cases ps with
      | nil => rfl
      | cons p ps => cases h
    | cons f l ih =>
      intro ps h
      cases ps with
      | nil => cases h
      | cons p ps =>
        simp only [List.map_cons, List.cons.injEq] at h
        cases hi : P.info? f.type with
        | none => rw [hi] at h; exact absurd h.1 (by simp)
        | some i =>
          rw [hi] at h
          have h1 : (f.offset, i.size) = p := by simpa using h.1
          rw [List.mapM_cons]
          simp only [Sem.run_bind, sizeOf, typeInfo, run_program, Result.andThen_ok, hi, Sem.run_pure]
          have := ih ps h.2
          simp only [sizeOf, typeInfo] at this
          rw [this]
          simp only [Result.andThen_ok, h1]
  obtain ⟨l⟩ := fs
  rw [List.mapM_toArray]
  simp only [Sem.run_map]
  rw [key l places h2]
  rfl
theorem notInt_of {t : TypeId} {d : TypeDesc} (h : P.underlying t = some d) (hd : (match d with | .int _ => false | _ => true) = true) : ∃ d, P.underlying t = some d ∧ ∀ k, d ≠ .int k :=
  ⟨d, h, fun k e => by subst e; cases hd⟩
end tys
theorem LiveIs.nil {e : Env} : LiveIs e [] := trivial
theorem LiveIs.cons {e : Env} {t : Nat} {v : Value} {l : List (Nat × Value)} (h : e t = v) (k : LiveIs e l) : LiveIs e ((t, v) :: l) := ⟨h, k⟩
theorem Post.block_hit {id : Nat} {Q : Post} {e : Env} {H : List Assn} (h : Q .normal e H) : Post.block id Q (.exit id) e H := by
  show (if id = id then Q .normal e H else Q (.exit id) e H)
  rw [if_pos rfl]
  exact h
theorem Post.block_miss {id id' : Nat} {Q : Post} {e : Env} {H : List Assn} (hne : Nat.beq id' id = false) (h : Q (.exit id') e H) : Post.block id Q (.exit id') e H := by
  show (if id' = id then Q .normal e H else Q (.exit id') e H)
  rw [if_neg (fun g => by rw [g] at hne; simp at hne)]
  exact h
theorem Post.seq_x {id : Nat} {K : Env → List Assn → Prop} {Q : Post} {e : Env} {H : List Assn} (h : Q (.exit id) e H) : Post.seq K Q (.exit id) e H := h
theorem Post.seq_r {K : Env → List Assn → Prop} {Q : Post} {e : Env} {H : List Assn} (h : Q .ret e H) : Post.seq K Q .ret e H := h
theorem Post.block_r {id : Nat} {Q : Post} {e : Env} {H : List Assn} (h : Q .ret e H) : Post.block id Q .ret e H := h
theorem bodyQ_ret {P : Program} {post : Value → List Assn → Prop} {Fr : Assn} {rs : List ResultVar} {e : Env} {H : List Assn} {vs : List Value} (Ps : List Assn) (h1 : RetRun P rs e H vs) (h2 : post (tupled vs) Ps) (h3 : Ent (sep H) (sep (Ps ++ [Fr]))) :
    bodyQ P post Fr rs .ret e H := ⟨vs, Ps, h1, h2, h3⟩
theorem bodyQ_end {P : Program} {post : Value → List Assn → Prop} {Fr : Assn} {rs : List ResultVar} {e : Env} {H : List Assn} {vs : List Value} (Ps : List Assn) (h1 : RetRun P rs e H vs) (h2 : post (tupled vs) Ps) (h3 : Ent (sep H) (sep (Ps ++ [Fr]))) :
    bodyQ P post Fr rs .normal e H := ⟨vs, Ps, h1, h2, h3⟩
/-- A cut: what stands between two pieces is told by g. -/
theorem T.cut {P : Program} {N : Nat} {Q : Post} {e : Env} {Hs : List Assn} {G : Type} {x y : Code} (inv : G → Prop) (live : G → List (Nat × Value)) (res : G → List Assn)
    (hx : T P N x (Post.seq (fun e1 H1 => ∃ g, inv g ∧ LiveIs e1 (live g) ∧ Ent (sep H1) (sep (res g))) Q) e Hs)
    (hy : ∀ g e', inv g → T P N y Q (updAll e' (live g)) (res g)) : T P N (.seq x y) Q e Hs := by
  refine T.seq fun K hK => hx.mono ?_
  rintro x e1 H1 h
  cases x with
  | normal =>
    obtain ⟨g, hi, hl, he⟩ := h
    obtain ⟨e2, rfl⟩ := live_ex hl
    exact hK _ _ ((hy g e2 hi).ent he)
  | exit id => exact h
  | goto l => exact h
  | ret => exact h
  | panic c => exact h
  | outgrown => exact h
/-- A resource is opened: the i-th is taken apart to some x and a list in its place. -/
theorem Ent.open' {Hs : List Assn} {i : Nat} {A : Assn} {α : Type} {B : α → List Assn} (hn : nth Hs i = some A) (hA : ∀ h, A h → ∃ x, sep (B x) h) : Ent (sep Hs) (Sl.ex fun x => sep (B x ++ delN Hs i)) := by
  intro h hh
  obtain ⟨h', hle, h1, h2, d, rfl, ha, hl⟩ := Ent.perm (perm_nth hn) h hh
  obtain ⟨x, hx⟩ := hA h1 ha
  obtain ⟨h3, hle3, hs⟩ := Ent.flat (B x) (delN Hs i) _ ⟨h1, h2, d, rfl, hx, hl⟩
  exact ⟨h3, Frag.le_trans hle3 hle, x, hs⟩
theorem Sat.open' {W0 w : World} {Hs : List Assn} {i : Nat} {A : Assn} {α : Type} {B : α → List Assn} (s : Sat W0 (sep Hs) w) (hn : nth Hs i = some A) (hA : ∀ h, A h → ∃ x, sep (B x) h) : ∃ x, Sat W0 (sep (B x ++ delN Hs i)) w := by
  obtain ⟨k, y, hy, x, hx⟩ := s.mono (Ent.open' hn hA)
  exact ⟨x, k, y, hy, hx⟩
theorem T.opn {P : Program} {N : Nat} {Q : Post} {e : Env} {Hs : List Assn} {c : Code} (i : Nat) {A : Assn} {α : Type} {B : α → List Assn} (hn : nth Hs i = some A) (hA : ∀ h, A h → ∃ x, sep (B x) h) (h : ∀ x, T P N c Q e (B x ++ delN Hs i)) : T P N c Q e Hs :=
  fun W0 a w ha hs => let ⟨x, hx⟩ := hs.open' hn hA; h x W0 a w ha hx
theorem RN.opn {P : Program} {N : Nat} {ops : Array Oper} {Q : Next1} {l : List Nat} {e : Env} {Hs : List Assn} (i : Nat) {A : Assn} {α : Type} {B : α → List Assn} (hn : nth Hs i = some A) (hA : ∀ h, A h → ∃ x, sep (B x) h) (h : ∀ x, RN P N ops Q l e (B x ++ delN Hs i)) : RN P N ops Q l e Hs :=
  fun W0 a w ha hs => let ⟨x, hx⟩ := hs.open' hn hA; h x W0 a w ha hx
theorem RD.opn {P : Program} {N : Nat} {ops : Array Oper} {Bs : List Assn} {z : Nat} {Q : Next1} {l : List (Nat × Kd3)} {e : Env} {Hs : List Assn} (i : Nat) {A : Assn} {α : Type} {B : α → List Assn} (hn : nth Hs i = some A) (hA : ∀ h, A h → ∃ x, sep (B x) h) (h : ∀ x, RD P N ops Bs z Q l e (B x ++ delN Hs i)) : RD P N ops Bs z Q l e Hs :=
  fun W0 a w ha hs => let ⟨x, hx⟩ := hs.open' hn hA; h x W0 a w ha hx

/-! Bools that are known, or not -/
theorem upd_same {e : Env} {d : Nat} {v : Value} (h : e d = v) : upd e d v = e := by
  funext t
  unfold upd
  cases hb : Nat.beq t d with
  | false => rfl
  | true => rw [Nat.eq_of_beq_eq_true hb, h]; rfl
section known
variable {P : Program} {N : Nat} {ops : Array Oper} {Q : Next1} {l : List Nat} {e : Env} {Hs : List Assn} {Bs : List Assn} {z : Nat} {ld : List (Nat × Kd3)}
theorem RN.known (d : Nat) {v u : Value} (h : e d = v) (hu : v = u) (k : RN P N ops Q l (upd e d u) Hs) : RN P N ops Q l e Hs := by
  rwa [upd_same (h.trans hu)] at k
theorem RD.known (d : Nat) {v u : Value} (h : e d = v) (hu : v = u) (k : RD P N ops Bs z Q ld (upd e d u) Hs) : RD P N ops Bs z Q ld e Hs := by
  rwa [upd_same (h.trans hu)] at k
theorem T.known {c : Code} {R : Post} (d : Nat) {v u : Value} (h : e d = v) (hu : v = u) (k : T P N c R (upd e d u) Hs) : T P N c R e Hs := by
  rwa [upd_same (h.trans hu)] at k
theorem RN.split_dec (d : Nat) {p : Prop} [Decidable p] (h : e d = .bool (decide p)) (ht : p → RN P N ops Q l (upd e d (.bool true)) Hs) (hf : ¬ p → RN P N ops Q l (upd e d (.bool false)) Hs) : RN P N ops Q l e Hs :=
  RN.split d h (fun g => ht (of_decide_eq_true g)) (fun g => hf (of_decide_eq_false g))
theorem RD.split_dec (d : Nat) {p : Prop} [Decidable p] (h : e d = .bool (decide p)) (ht : p → RD P N ops Bs z Q ld (upd e d (.bool true)) Hs) (hf : ¬ p → RD P N ops Bs z Q ld (upd e d (.bool false)) Hs) : RD P N ops Bs z Q ld e Hs :=
  RD.split d h (fun g => ht (of_decide_eq_true g)) (fun g => hf (of_decide_eq_false g))
theorem T.cond_t {c : Operand} {x y : Code} {R : Post} (hc : ev e c = .bool true) (h : T P N x R e Hs) : T P N (.cond c x y) R e Hs := T.cond hc (fun _ => h) (fun g => by cases g)
theorem T.cond_f {c : Operand} {x y : Code} {R : Post} (hc : ev e c = .bool false) (h : T P N y R e Hs) : T P N (.cond c x y) R e Hs := T.cond hc (fun g => by cases g) (fun _ => h)
end known
/-! conversions in range -/
section conv
variable {P : Program} {e : Env} {o : Oper} {src dst : TypeId} {x : Operand} {ks : IntKind} {a : Int}
theorem wrap_u32 {a : Int} (h1 : 0 ≤ a) (h2 : a ≤ 4294967295) : IntKind.u32.wrap a = a := by unfold IntKind.wrap; simp [IntKind.bits, IntKind.signed]; omega
theorem wrap_u64 {a : Int} (h1 : 0 ≤ a) (h2 : a ≤ 18446744073709551615) : IntKind.u64.wrap a = a := by unfold IntKind.wrap; simp [IntKind.bits, IntKind.signed]; omega
theorem p_conv_id {kd : IntKind} (hop : o.op = .convert src dst x) (hs : P.underlying src = some (.int ks)) (hd : P.underlying dst = some (.int kd)) (hx : ev e x = .int ks a) (hw : kd.wrap a = a) : PRun P e o (.int kd a) := by
  have := p_conv (P := P) hop hs hd hx; rwa [hw] at this
theorem p_conv_u32 (hop : o.op = .convert src dst x) (hs : P.underlying src = some (.int ks)) (hd : P.underlying dst = some (.int .u32)) (hx : ev e x = .int ks a) (h : 0 ≤ a ∧ a ≤ 4294967295) : PRun P e o (.int .u32 a) := p_conv_id hop hs hd hx (wrap_u32 h.1 h.2)
theorem p_conv_u64 (hop : o.op = .convert src dst x) (hs : P.underlying src = some (.int ks)) (hd : P.underlying dst = some (.int .u64)) (hx : ev e x = .int ks a) (h : 0 ≤ a ∧ a ≤ 18446744073709551615) : PRun P e o (.int .u64 a) := p_conv_id hop hs hd hx (wrap_u64 h.1 h.2)
theorem p_conv_i64 (hop : o.op = .convert src dst x) (hs : P.underlying src = some (.int ks)) (hd : P.underlying dst = some (.int .i64)) (hx : ev e x = .int ks a) (h : -9223372036854775808 ≤ a ∧ a ≤ 9223372036854775807) : PRun P e o (.int .i64 a) := p_conv_id hop hs hd hx (wrap64_in h.1 h.2)
end conv

/-! borrowing out of a list of assertions, and vec -/
theorem Ent.bor {L R : List Assn} {i : Nat} {A : Assn} (h : nth L i = some A) : Ent (sep (sep L :: R)) (sep (A :: sep (delN L i) :: R)) := by
  refine (Ent.cons (Ent.perm (perm_nth h)) (Ent.refl _)).trans ?_
  refine (Ent.flat _ _).trans ?_
  exact Ent.cons (Ent.refl _) (Ent.unflat _ _)
theorem Ent.unbor {L R : List Assn} {i : Nat} {A B : Assn} (h : nth L i = some A) : Ent (sep (B :: sep (delN L i) :: R)) (sep (sep (setN L i B) :: R)) := by
  refine (Ent.cons (Ent.refl _) (Ent.flat _ _)).trans ?_
  refine (Ent.unflat (B :: delN L i) R).trans ?_
  exact Ent.cons (Ent.perm (perm_setN h)) (Ent.refl _)
theorem setN_same {α : Type} : ∀ {L : List α} {i : Nat} {A : α}, nth L i = some A → setN L i A = L
  | [], _, _, h => by cases h
  | B :: L, 0, A, h => by simp only [nth, Option.some.injEq] at h; subst h; rfl
  | B :: L, i + 1, A, h => congrArg (B :: ·) (setN_same (L := L) (i := i) h)
theorem setN_eq {α : Type} : ∀ (L : List α) (i : Nat) (A : α), setN L i A = L.set i A
  | [], _, _ => rfl
  | _ :: _, 0, _ => rfl
  | B :: L, i + 1, A => congrArg (B :: ·) (setN_eq L i A)
theorem Ent.vec_nil' {el sz : Nat} {L : List Assn} : Ent (sep L) (sep (vec el sz (.slice none 0 0) 0 [] :: L)) := by
  intro h hh
  refine ⟨h, Frag.le_refl h, fun _ => none, h, fun _ => .inl rfl, ?_, ⟨by simp, .inl ⟨rfl, rfl⟩⟩, hh⟩
  funext b
  rfl
theorem vec_of_row {el sz b n cap : Nat} {xs rest : List Value} (hx : xs.length = n * sz) (hn : n ≤ cap) (hc : cap ≤ 9223372036854775807) (hl : (xs ++ rest).length = cap * sz) : Ent (row b el (xs ++ rest)) (vec el sz (slc b 0 n cap) n xs) :=
  Ent.of_imp fun _ h => ⟨hx, .inr ⟨b, cap, rest, rfl, hn, hc, hl, h⟩⟩
theorem T.openVec {P : Program} {N : Nat} {Q : Post} {e : Env} {Hs : List Assn} {c : Code} (i : Nat) {el sz n : Nat} {v : Value} {xs : List Value} (hn : nth Hs i = some (vec el sz v n xs)) (h0 : 0 < n)
    (h : ∀ b cap rest, v = slc b 0 n cap → n ≤ cap → cap ≤ 9223372036854775807 → (xs ++ rest).length = cap * sz → T P N c Q e (setN Hs i (row b el (xs ++ rest)))) : T P N c Q e Hs := by
  intro W0 a w ha hs
  obtain ⟨kk, y, hy, f1, f2, dj, rfl, ⟨_, hc⟩, hl⟩ := hs.mono (Ent.perm (perm_nth hn))
  rcases hc with ⟨_, h1⟩ | ⟨b, cap, rest, rfl, h1, h2, h3, h4⟩
  · omega
  · exact h b cap rest rfl h1 h2 h3 W0 a w ha (Sat.mono (Ent.perm (perm_setN hn)) ⟨kk, _, hy, f1, f2, dj, rfl, h4, hl⟩)
theorem RN.openVec {P : Program} {N : Nat} {ops : Array Oper} {Q : Next1} {l : List Nat} {e : Env} {Hs : List Assn} (i : Nat) {el sz n : Nat} {v : Value} {xs : List Value} (hn : nth Hs i = some (vec el sz v n xs)) (h0 : 0 < n)
    (h : ∀ b cap rest, v = slc b 0 n cap → n ≤ cap → cap ≤ 9223372036854775807 → (xs ++ rest).length = cap * sz → RN P N ops Q l e (setN Hs i (row b el (xs ++ rest)))) : RN P N ops Q l e Hs := by
  intro W0 a w ha hs
  obtain ⟨kk, y, hy, f1, f2, dj, rfl, ⟨_, hc⟩, hl⟩ := hs.mono (Ent.perm (perm_nth hn))
  rcases hc with ⟨_, h1⟩ | ⟨b, cap, rest, rfl, h1, h2, h3, h4⟩
  · omega
  · exact h b cap rest rfl h1 h2 h3 W0 a w ha (Sat.mono (Ent.perm (perm_setN hn)) ⟨kk, _, hy, f1, f2, dj, rfl, h4, hl⟩)
theorem RD.openVec {P : Program} {N : Nat} {ops : Array Oper} {Bs : List Assn} {z : Nat} {Q : Next1} {l : List (Nat × Kd3)} {e : Env} {Hs : List Assn} (i : Nat) {el sz n : Nat} {v : Value} {xs : List Value} (hn : nth Hs i = some (vec el sz v n xs)) (h0 : 0 < n)
    (h : ∀ b cap rest, v = slc b 0 n cap → n ≤ cap → cap ≤ 9223372036854775807 → (xs ++ rest).length = cap * sz → RD P N ops Bs z Q l e (setN Hs i (row b el (xs ++ rest)))) : RD P N ops Bs z Q l e Hs := by
  intro W0 a w ha hs
  obtain ⟨kk, y, hy, f1, f2, dj, rfl, ⟨_, hc⟩, hl⟩ := hs.mono (Ent.perm (perm_nth hn))
  rcases hc with ⟨_, h1⟩ | ⟨b, cap, rest, rfl, h1, h2, h3, h4⟩
  · omega
  · exact h b cap rest rfl h1 h2 h3 W0 a w ha (Sat.mono (Ent.perm (perm_setN hn)) ⟨kk, _, hy, f1, f2, dj, rfl, h4, hl⟩)

theorem nth_map {α β : Type} (f : α → β) : ∀ (L : List α) (i : Nat), nth (L.map f) i = (nth L i).map f
  | [], _ => rfl
  | _ :: _, 0 => rfl
  | _ :: L, i + 1 => nth_map f L i
theorem nth_get {α : Type} {L : List α} {i : Nat} (h : i < L.length) : nth L i = some L[i] := by rw [nth_eq, List.getElem?_eq_getElem h]
/-! slices and pointers against nil -/
section nils
variable {P : Program} {e : Env} {o : Oper} {t t' : TypeId} {x y : Operand} {a : Option Addr} {n cap : Nat}
theorem p_ptreql_nil {el : TypeId} {a : Option Addr} (hop : o.op = .binOp .eql t x y t') (hx : ev e x = .pointer a) (hy : ev e y = .pointer none) (ht : P.underlying t = some (.pointer el)) : PRun P e o (.bool a.isNone) := by
  intro w; unfold execOp; rw [hop]; simp only [hx, hy]
  have : (Op.equal t (.pointer a) (.pointer none)).run P w = .ok a.isNone w := by
    have key : ∀ d, (Op.equalIn (d + 1) t (.pointer a) (.pointer none)).run P w = .ok a.isNone w := by
      intro d
      cases a <;> simp [Op.equalIn, run_underlying' ht]
    exact key 9999
  have hb : (binOp .eql t (.pointer a) (.pointer none)).run P w = .ok (.bool (a.isNone)) w := by
    unfold binOp
    simp only [Sem.run_bind, this, Result.andThen_ok, Sem.run_pure]
  simp only [eqGuard, Sem.run_bind]
  show ((binOp .eql t (.pointer a) (.pointer none)).run P w).andThen _ = _
  rw [hb]
  rfl
end nils

/-! the rules once more, the slot told -/
section told
variable {P : Program} {N : Nat} {Q : Next1} {e : Env} {Hs : List Assn} {ops : Array Oper} {i d : Nat} {l : List Nat} {o : Oper} {v : Value} {Bs : List Assn} {z : Nat} {ld : List (Nat × Kd3)}
theorem RN.qq (hi : nth ops.toList i = some o) (hw : wantE ops.toList e o = true) (hdst : o.dst = some d) (hb : Nat.blt d N = true) (hq : QRun P e Hs o v) (h : RN P N ops Q l (upd e d v) Hs) : RN P N ops Q (i :: l) e Hs := RN.q hi hw (by rw [hdst]; exact hb) hq (by rw [hdst]; exact h)
theorem RN.E {K : Value → List Assn → Prop} (hi : nth ops.toList i = some o) (hw : wantE ops.toList e o = true) (hdst : o.dst = some d) (hb : Nat.blt d N = true) (hq : ERun P e Hs o K) (h : ∀ v Hs', K v Hs' → RN P N ops Q l (upd e d v) Hs') : RN P N ops Q (i :: l) e Hs := RN.eff hi hw (by rw [hdst]; exact hb) hq (by rw [hdst]; exact h)
theorem RN.C {f : FuncId} {args : List Value} {pre R : List Assn} {post : Value → List Assn → Prop} (is : List Nat) (hi : nth ops.toList i = some o) (hw : wantE ops.toList e o = true) (hdst : o.dst = some d) (hb : Nat.blt d N = true) (hc : CRun P e o f args) (hp : Ctr P f args pre post) (hpl : pull is Hs = some (pre, R)) (h : ∀ v Ps, post v Ps → RN P N ops Q l (upd e d v) (Ps ++ R)) : RN P N ops Q (i :: l) e Hs := RN.c is hi hw (by rw [hdst]; exact hb) hc hp hpl (by rw [hdst]; exact h)
theorem RD.E {K : Value → List Assn → Prop} (hi : nth ops.toList i = some o) (hw : wantE ops.toList e o = true) (hdst : o.dst = some d) (hb : Nat.blt d N = true) (hq : ERun P e Hs o K) (hB : ∀ v Hs', K v Hs' → (Ent (sep Hs') (sep Bs) ∨ i = z)) (h : ∀ v Hs', K v Hs' → RD P N ops Bs z Q ld (upd e d v) Hs') : RD P N ops Bs z Q ((i, .eff) :: ld) e Hs := RD.eff hi hw (by rw [hdst]; exact hb) hq hB (by rw [hdst]; exact h)
theorem RD.C {f : FuncId} {args : List Value} {pre R : List Assn} {post : Value → List Assn → Prop} (is : List Nat) (hi : nth ops.toList i = some o) (hw : wantE ops.toList e o = true) (hdst : o.dst = some d) (hb : Nat.blt d N = true) (hc : CRun P e o f args) (hp : Ctr P f args pre post) (hpl : pull is Hs = some (pre, R)) (hB : ∀ v Ps, post v Ps → (Ent (sep (Ps ++ R)) (sep Bs) ∨ i = z)) (h : ∀ v Ps, post v Ps → RD P N ops Bs z Q ld (upd e d v) (Ps ++ R)) : RD P N ops Bs z Q ((i, .eff) :: ld) e Hs := RD.c is hi hw (by rw [hdst]; exact hb) hc hp hpl hB (by rw [hdst]; exact h)
theorem RN.O (hi : nth ops.toList i = some o) (hw : wantE ops.toList e o = false) (hdst : o.dst = some d) (hb : Nat.blt d N = true) (h : RN P N ops Q l (upd e d undef) Hs) : RN P N ops Q (i :: l) e Hs := RN.no hi hw (by rw [hdst]; exact hb) (by rw [hdst]; exact h)
theorem RD.OP (hi : nth ops.toList i = some o) (hw : wantE ops.toList e o = false) (hdst : o.dst = some d) (hb : Nat.blt d N = true) (h : RD P N ops Bs z Q ld (upd e d undef) Hs) : RD P N ops Bs z Q ((i, .pure) :: ld) e Hs := RD.no_p hi hw (by rw [hdst]; exact hb) (by rw [hdst]; exact h)
theorem RD.OL (hi : nth ops.toList i = some o) (hw : wantE ops.toList e o = false) (hdst : o.dst = some d) (hb : Nat.blt d N = true) (hB : Ent (sep Hs) (sep Bs)) (h : RD P N ops Bs z Q ld (upd e d undef) Hs) : RD P N ops Bs z Q ((i, .load) :: ld) e Hs := RD.no_l hi hw (by rw [hdst]; exact hb) hB (by rw [hdst]; exact h)
theorem RD.OE (hi : nth ops.toList i = some o) (hw : wantE ops.toList e o = false) (hdst : o.dst = some d) (hb : Nat.blt d N = true) (hB : Ent (sep Hs) (sep Bs) ∨ i = z) (h : RD P N ops Bs z Q ld (upd e d undef) Hs) : RD P N ops Bs z Q ((i, .eff) :: ld) e Hs := RD.no_e hi hw (by rw [hdst]; exact hb) hB (by rw [hdst]; exact h)
theorem RN.EN {K : Value → List Assn → Prop} (hi : nth ops.toList i = some o) (hw : wantE ops.toList e o = true) (hdst : o.dst = none) (hq : ERun P e Hs o K) (h : ∀ v Hs', K v Hs' → RN P N ops Q l e Hs') : RN P N ops Q (i :: l) e Hs := RN.eff hi hw (by rw [hdst]) hq (by rw [hdst]; exact h)
theorem RD.EN {K : Value → List Assn → Prop} (hi : nth ops.toList i = some o) (hw : wantE ops.toList e o = true) (hdst : o.dst = none) (hq : ERun P e Hs o K) (hB : ∀ v Hs', K v Hs' → (Ent (sep Hs') (sep Bs) ∨ i = z)) (h : ∀ v Hs', K v Hs' → RD P N ops Bs z Q ld e Hs') : RD P N ops Bs z Q ((i, .eff) :: ld) e Hs := RD.eff hi hw (by rw [hdst]) hq hB (by rw [hdst]; exact h)
theorem RD.pp (hi : nth ops.toList i = some o) (hw : wantE ops.toList e o = true) (hdst : o.dst = some d) (hb : Nat.blt d N = true) (hq : PRun P e o v) (h : RD P N ops Bs z Q ld (upd e d v) Hs) : RD P N ops Bs z Q ((i, .pure) :: ld) e Hs := RD.p hi hw (by rw [hdst]; exact hb) hq (by rw [hdst]; exact h)
theorem RD.qq (hi : nth ops.toList i = some o) (hw : wantE ops.toList e o = true) (hdst : o.dst = some d) (hb : Nat.blt d N = true) (hq : QRun P e Bs o v) (hB : Ent (sep Hs) (sep Bs)) (h : RD P N ops Bs z Q ld (upd e d v) Hs) : RD P N ops Bs z Q ((i, .load) :: ld) e Hs := RD.q hi hw (by rw [hdst]; exact hb) hq hB (by rw [hdst]; exact h)
end told

/-! the same with numbers that are casts -/
section nats
variable {P : Program} {e : Env} {o : Oper} {Hs : List Assn}
theorem p_indexAddrN {t el : TypeId} {x ix : Operand} {b off n cap sz i : Nat} {k : IntKind} (hop : o.op = .indexAddr t x ix) (ht : P.underlying t = some (.slice el)) (hsz : TySize P el sz)
    (hx : ev e x = slc b off n cap) (hi : ev e ix = .int k (i : Int)) (hb : i < n) : PRun P e o (ptr b (off + i * sz)) := by
  have := p_indexAddr (P := P) hop ht hsz hx hi ⟨by omega, by omega⟩
  simpa using this
theorem p_indexAddrN_a {t el : TypeId} {x ix : Operand} {b off n sz i : Nat} {k : IntKind} (hop : o.op = .indexAddr t x ix) (ht : P.underlying t = some (.array n el)) (hsz : TySize P el sz)
    (hx : ev e x = ptr b off) (hi : ev e ix = .int k (i : Int)) (hb : i < n) : PRun P e o (ptr b (off + i * sz)) := by
  have := p_indexAddr_a (P := P) hop ht hsz hx hi ⟨by omega, by omega⟩
  simpa using this
theorem p_sliceN_s {t : TypeId} {x : Operand} {lo hi : Option Operand} {s : List UInt8} {l h : Nat} (hop : o.op = .slice t x lo hi none) (ht : P.underlying t = some .string) (hx : ev e x = strV s)
    (hl : loOf e lo = some (l : Int)) (hh : hiOf e s.length hi = some (h : Int)) (hb : l ≤ h ∧ h ≤ s.length) : PRun P e o (strV ((s.take h).drop l)) := by
  have := p_slice_s (P := P) hop ht hx hl hh ⟨by omega, by omega, by omega⟩
  simpa using this
theorem p_sliceN {t el : TypeId} {x : Operand} {lo hi : Option Operand} {b off n cap sz : Nat} {l h : Nat} (hop : o.op = .slice t x lo hi none) (ht : P.underlying t = some (.slice el)) (hsz : TySize P el sz) (hx : ev e x = slc b off n cap)
    (hl : loOf e lo = some (l : Int)) (hh : hiOf e n hi = some (h : Int)) (hb : l ≤ h ∧ h ≤ cap) : PRun P e o (slc b (if cap = l then off else off + l * sz) (h - l) (cap - l)) := by
  have := p_slice (P := P) hop ht hsz hx hl hh ⟨by omega, by omega, by omega⟩
  simpa using this
theorem p_sliceN_a {t el : TypeId} {x : Operand} {lo hi : Option Operand} {b off n sz : Nat} {l h : Nat} (hop : o.op = .slice t x lo hi none) (ht : P.underlying t = some (.array n el)) (hsz : TySize P el sz) (hx : ev e x = ptr b off)
    (hl : loOf e lo = some (l : Int)) (hh : hiOf e n hi = some (h : Int)) (hb : l ≤ h ∧ h ≤ n) : PRun P e o (slc b (if n = l then off else off + l * sz) (h - l) (n - l)) := by
  have := p_slice_a (P := P) hop ht hsz hx hl hh ⟨by omega, by omega, by omega⟩
  simpa using this
theorem e_makeSliceN {t el : TypeId} {x y : Operand} {sz bytes : Nat} {z : List Value} {n c : Nat} (hop : o.op = .makeSlice t x y) (ht : P.underlying t = some (.slice el)) (hi : TyInfo P el sz bytes z) (hzl : z.length = sz)
    (hx : ev e x = .int .i64 (n : Int)) (hy : ev e y = .int .i64 (c : Int)) (hb : n ≤ c ∧ c ≤ 9223372036854775807 ∧ bytes * c ≤ 281474976710656) :
    ERun P e Hs o (fun u H => ∃ b, u = slc b 0 n c ∧ H = row b el (zeros c z) :: Hs) := by
  have := e_makeSlice (P := P) (Hs := Hs) hop ht hi hzl hx hy ⟨by omega, by omega, by omega, by have := hb.2.2; rw [← Int.natCast_mul]; omega⟩
  simpa using this
theorem p_indexN_s {t : TypeId} {x i : Operand} {k : IntKind} {n : Nat} {l : List UInt8} {b : UInt8} (hop : o.op = .index t x i) (ht : P.underlying t = some .string) (hx : ev e x = strV l) (hi : ev e i = .int k (n : Int)) (hb : l[n]? = some b) : PRun P e o (u8V b) :=
  p_index_s hop ht hx hi (by omega) (by simpa using hb)
end nats
end Go.Sl
