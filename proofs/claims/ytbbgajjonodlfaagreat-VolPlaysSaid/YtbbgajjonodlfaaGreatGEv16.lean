/-
  Calls that the evaluator answers by themselves. It proves nothing of the program by itself.
-/
import Derived.Test.YtbbgajjonodlfaaGreatGEv15
import Derived.Lib.Bytealg
set_option linter.unusedVariables false
set_option linter.unusedSimpArgs false
namespace Go.Evl
open Go Go.Sl
noncomputable def noZeroF (el : TypeId) : CallF := fun _ l H K => asCons l fun v t => asNil t (asI v fun k a => andK (Nat.beq (kc k) 3) (nn a 0 (fun n _ => andK (Nat.ble n 281474976710656) (natK n fun n => newK H el 1 (.bu n 0 0) fun id H => K (.sv id 0 n 0) H)) fun _ _ => false))
theorem noZero_ok {P : Program} {f : FuncId} {fn : Func} {t el : TypeId} {ps : Array TypeId} (hf : P.funcs[f]? = some fn) (hname : (fn.name == "runtime.NumGoroutine") = false) (hb : fn.body.isNone = true) (hn : Extern.findNext fn = none)
    (he : Extern.find fn = some (Extern.BytealgMakeNoZero.makeNoZero ps #[t])) (ht : P.underlying t = some (.slice el)) :
    ∀ l H K m w W0 Fr vs, Inv1 m H → Mem W0 m H Fr w → relL m l vs → noZeroF el f l H K = true → CallRes P f vs w W0 Fr m K := by
  intro l H K m w W0 Fr vs hi hs hr h
  obtain ⟨v, t', rfl, h1⟩ := asCons_sound h
  obtain ⟨rfl, h2⟩ := asNil_sound h1
  obtain ⟨k, a, rfl, h3⟩ := asI_sound h2
  obtain ⟨hk, h3⟩ := andK_sound h3
  have hk : k = .i64 := kc_inj (k' := .i64) hk
  subst hk
  rcases nn_sound h3 with ⟨n0, _, rfl, _, h3⟩ | h3
  rotate_left
  · cases h3
  obtain ⟨h4, h5⟩ := andK_sound h3
  rw [natK_eq, newK_eq] at h5
  obtain ⟨u, us, r1, r2, rfl⟩ := hr
  have hu : u = .int .i64 (n0 : Int) := r1
  have hus : us = [] := r2
  subst hu hus
  have hle : n0 ≤ 281474976710656 := Nat.le_of_ble_eq_true h4
  obtain ⟨cs, k1, k2, k3⟩ := Go.Lib.run_makeNoZero w ps t el ht n0 hle
  have k3 : cs.size ≤ 9223372036854775807 := by have := k3 (by unfold maxLen; omega); unfold maxLen at this; simpa using this
  right
  have hrun : (callFunc f ([Value.int .i64 (n0 : Int)] : List Value).toArray).run P w = .ok (.value (slc w.heap.size 0 n0 cs.size)) (w.drew.drew.alloc (.cells cs el)) := by
    simp only [callFunc, Sem.run_bind, run_program, Result.andThen_ok, hf, hname, Bool.false_eq_true, if_false, hb, if_true, hn, he]
    simp [k1]
  have s1 := hs.drew.drew.newRow el cs.toList
  have s2 : Sat W0 (sep (row w.heap.size el (cs.toList.take n0 ++ cs.toList.drop n0) :: (hpA m H.t ++ [Fr]))) (w.drew.drew.alloc (.cells cs el)) := by
    rw [List.take_append_drop]
    simpa using s1
  have hl : cs.toList.length = cs.size := by simp
  obtain ⟨q1, q2, q3, q4⟩ := Mem.new (z := 1) (cap := cs.size) (c := .bu n0 0 0) hi s2 (show bodyRel m (.bu n0 0 0) _ from ⟨by rw [List.length_take]; omega, Nat.zero_le _, by simp [bytesOf]⟩)
    (show restOk 1 cs.size _ _ from ⟨fun h => (by cases h), fun _ => ⟨by simp, k3, n0, by rw [List.length_take]; omega⟩⟩)
  exact ⟨_, _, hrun, _, _, .sv H.next 0 n0 0, q1, q2, ⟨w.heap.size, cs.size, q3, by omega, rfl⟩, q4, h5⟩
/-- How often a byte stands among n bytes. -/
noncomputable def cntB (c : Nat) (n : Nat) : Nat → Nat := Nat.rec (motive := fun _ => Nat → Nat) (fun _ => 0) (fun _ ih num => Nat.add (ih (Nat.div num 256)) (Bool.rec (motive := fun _ => Nat) 0 1 (Nat.beq (Nat.mod num 256) c))) n
theorem cntB_eq {c : Nat} (hc : c < 256) : ∀ (n num : Nat), cntB c n num = (bytesOf n num).count (UInt8.ofNat c)
  | 0, _ => rfl
  | n + 1, num => by
    show cntB c n (num / 256) + Bool.rec (motive := fun _ => Nat) 0 1 (Nat.beq (num % 256) c) = _
    rw [cntB_eq hc n (num / 256), bytesOf, List.count_cons]
    congr 1
    have hm : (UInt8.ofNat num == UInt8.ofNat c) = Nat.beq (num % 256) c := by
      have h1 : (UInt8.ofNat num).toNat = num % 256 := UInt8.toNat_ofNat'
      have h2 : (UInt8.ofNat c).toNat = c := by rw [UInt8.toNat_ofNat']; exact Nat.mod_eq_of_lt hc
      by_cases g : num % 256 = c
      · have e1 : UInt8.ofNat num = UInt8.ofNat c := UInt8.toNat_inj.1 (by rw [h1, h2, g])
        rw [e1, g]; simp
      · have e1 : ¬ UInt8.ofNat num = UInt8.ofNat c := fun e => g (by rw [← h1, e, h2])
        rw [beq_ne g]
        exact beq_eq_false_iff_ne.2 e1
    rw [hm]
    cases Nat.beq (num % 256) c <;> rfl
noncomputable def slcK (v : AV) (K : Nat → Nat → Nat → Bool) : Bool := AV.rec (motive := fun _ => (Nat → Nat → Nat → Bool) → Bool) (fun _ => false) (fun _ _ => false) (fun _ _ _ => false) (fun _ _ _ => false) (fun _ => false) (fun _ _ _ => false) (fun _ => false) (fun _ => false) (fun id off n _ K => K id off n) (fun id off n _ K => K id off n) (fun _ => false) (fun _ _ => false) (fun _ _ _ _ => false) (fun _ => false) (fun _ => false) (fun _ _ _ _ => false) (fun _ => false) (fun _ _ _ _ _ => false) (fun _ _ _ => false) (fun _ _ _ => false) v K
theorem slcK_sound {v : AV} {K : Nat → Nat → Nat → Bool} {m : Map} {u : Value} (hr : rel m v u) (h : slcK v K = true) : ∃ id off n b c cap, m id = some (b, c) ∧ u = slc b off n cap ∧ K id off n = true := by
  cases v with
  | sl id off n cap => obtain ⟨b, c, r1, r2, _⟩ := hr; exact ⟨id, off, n, b, c, cap, r1, r2, h⟩
  | sv id off n k => obtain ⟨b, c, r1, _, r2⟩ := hr; exact ⟨id, off, n, b, c, c - k, r1, r2, h⟩
  | _ => cases h
theorem run_lb {P : Program} {w : World} {b : Nat} : ∀ (l : List UInt8) (off : Nat) (acc : ByteArray), (∀ (j : Nat) (x : UInt8), l[j]? = some x → w.cell? ⟨b, off + j, none⟩ = some (.int .u8 x.toNat)) →
    (Extern.Bytes.loadBytes ⟨b, off, none⟩ l.length acc).run P w = .ok ⟨acc.data ++ l.toArray⟩ w
  | [], off, acc, _ => by simp [Extern.Bytes.loadBytes]
  | x :: l, off, acc, h => by
    have h0 : w.cell? ⟨b, off, none⟩ = some (.int .u8 x.toNat) := h 0 x rfl
    have ih := run_lb (P := P) l (off + 1) (acc.push x) (fun j y hy => by
      have := h (j + 1) y (by simpa using hy)
      rwa [show off + (j + 1) = off + 1 + j from by omega] at this)
    have hx : ((x.toNat : Int).toNat).toUInt8 = x := by simp
    simp only [List.length_cons, Extern.Bytes.loadBytes, Sem.run_bind, run_load, h0, Result.andThen, hx, addr_add]
    rw [ih]
    congr 1
    apply ByteArray.ext
    simp [ByteArray.push]
noncomputable def cntF : CallF := fun _ l H K => asCons l fun s t => asCons t fun cv t2 => asNil t2 (asByte cv fun c => slcK s fun id off n => blkK H id fun _ _ b => bytesK b off n fun num => natK (cntB c n num) fun r => K (.i .i64 (Int.ofNat r)) H)
theorem cnt_ok {P : Program} {f : FuncId} {fn : Func} (hf : P.funcs[f]? = some fn) (hname : (fn.name == "runtime.NumGoroutine") = false) (hb : fn.body.isNone = true) (hn : Extern.findNext fn = none)
    (he : Extern.find fn = some Extern.BytealgCount.count) : ∀ l H K m w W0 Fr vs, Inv1 m H → Mem W0 m H Fr w → relL m l vs → cntF f l H K = true → CallRes P f vs w W0 Fr m K := by
  intro l H K m w W0 Fr vs hi hs hr h
  obtain ⟨s, t, rfl, h1⟩ := asCons_sound h
  obtain ⟨cv, t2, rfl, h2⟩ := asCons_sound h1
  obtain ⟨rfl, h3⟩ := asNil_sound h2
  obtain ⟨c, rfl, hc, h4⟩ := asByte_sound h3
  obtain ⟨u, us, r1, ⟨u2, us2, r2, r3, rfl⟩, rfl⟩ := hr
  have r3 : us2 = [] := r3
  subst r3
  have r2 : u2 = .int .u8 (c : Int) := r2
  subst r2
  obtain ⟨id, off, n, b, cc, cap, g1, rfl, h5⟩ := slcK_sound r1 h4
  obtain ⟨T, z, bd, h6, h7⟩ := blkK_sound h5
  obtain ⟨R, b', cap', vs, rest, k1, k2, k3, k4, _, _⟩ := hs.opn (hi.1.pos hi.2 g1) h6
  have hbb : b = b' := by rw [k1] at g1; cases g1; rfl
  subst hbb
  obtain ⟨h8, num, h9, h10⟩ := bytesK_sound h7 k2
  rw [natK_eq, cntB_eq hc] at h9
  have hlen : (bytesOf n num).length = n := bytesOf_length n num
  have hcell : ∀ (j : Nat) (x : UInt8), (bytesOf n num)[j]? = some x → w.cell? ⟨b, off + j, none⟩ = some (.int .u8 x.toNat) := fun j x hj => by
    have hj' : j < n := by
      rcases Nat.lt_or_ge j n with g | g
      · exact g
      · rw [List.getElem?_eq_none (by omega)] at hj; cases hj
    have hle : off + n ≤ vs.length := by rcases h8 with g | g <;> omega
    have e1 : (vs ++ rest)[off + j]? = some (u8V x) := by
      rw [List.getElem?_append_left (by omega)]
      have := congrArg (fun l => l[j]?) h10
      simp only [List.getElem?_take, hj', if_true, List.getElem?_drop, List.getElem?_map, hj, Option.map_some] at this
      exact this
    exact k4.cell (i := 0) rfl e1
  have hlb := run_lb (P := P) (bytesOf n num) off .empty hcell
  rw [hlen] at hlb
  have hempty : (⟨ByteArray.empty.data ++ (bytesOf n num).toArray⟩ : ByteArray) = ⟨(bytesOf n num).toArray⟩ := by
    apply ByteArray.ext
    show (#[] : Array UInt8) ++ (bytesOf n num).toArray = _
    simp
  rw [hempty] at hlb
  have hcs := Go.Lib.run_countString (P := P) ⟨(bytesOf n num).toArray⟩ (c : Int) w
  have hrun : (Extern.BytealgCount.count #[slc b off n cap, .int .u8 (c : Int)]).run P w = .ok (.int .i64 ((bytesOf n num).count (UInt8.ofNat c) : Nat)) w := by
    have e1 : (Extern.BytealgCount.count #[slc b off n cap, .int .u8 (c : Int)]).run P w = (Extern.BytealgCount.count #[.string ⟨(bytesOf n num).toArray⟩, .int .u8 (c : Int)]).run P w := by
      change Sem.run P (do
        let b ← Extern.Bytes.bytesOf (slc b off n cap)
        let c' ← Extern.Bytes.asByte (.int .u8 (c : Int))
        pure (goInt (b.foldl (fun n x => if x == c' then n + 1 else n) (0 : Nat)))) w = Sem.run P (do
        let b ← Extern.Bytes.bytesOf (.string ⟨(bytesOf n num).toArray⟩)
        let c' ← Extern.Bytes.asByte (.int .u8 (c : Int))
        pure (goInt (b.foldl (fun n x => if x == c' then n + 1 else n) (0 : Nat)))) w
      simp only [Extern.Bytes.bytesOf, slc, Sem.run_bind, Sem.run_pure, hlb, Result.andThen_ok]
    rw [e1, hcs]
    unfold Go.Lib.countByte
    simp
  right
  have hcall : (callFunc f ([slc b off n cap, Value.int .u8 (c : Int)] : List Value).toArray).run P w = .ok (.value (.int .i64 ((bytesOf n num).count (UInt8.ofNat c) : Nat))) w := by
    simp only [callFunc, Sem.run_bind, run_program, Result.andThen_ok, hf, hname, Bool.false_eq_true, if_false, hb, if_true, hn, he]
    simp [hrun]
  exact ⟨_, w, hcall, m, H, .i .i64 (Int.ofNat ((bytesOf n num).count (UInt8.ofNat c))), Map.le_refl m, hi, rfl, hs, h9⟩
end Go.Evl
