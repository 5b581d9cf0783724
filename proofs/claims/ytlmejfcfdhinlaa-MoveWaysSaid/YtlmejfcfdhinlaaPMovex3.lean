import Derived.Test.YtlmejfcfdhinlaaPMovex0
import Derived.Test.YtlmejfcfdhinlaaPMovex1
import Derived.Test.YtlmejfcfdhinlaaPMovex2
namespace Go.Proofs.Ytlmejfcfdhinlaa.PMove
open Go.RowKit Go.Proofs.YtlmejfcfdhinlaaW.PrintWords Go.Proofs.YtlmejfcfdhinlaaW.PrintLast Go.Proofs.YtlmejfcfdhinlaaW.PrintMore
attribute [local go_sem] max2_int min2_int max_two min_two max_three min_three max_four min_four
set_option linter.unusedVariables false
set_option linter.unusedSimpArgs false
attribute [local go_sem] setCell_drewN
def isAt (v : Int) : Bool := decide (v % 2 = 0 ∧ 0 ≤ v ∧ v ≤ 2097150)
theorem At_eq (v : Int) : value_At.f v = some (if isAt v then (v / 2, true) else (0, false)) := by
 unfold value_At.f value_object.f isAt
 rw [bits_and_one]
 by_cases h0 : v % 2 = 0
 ·rw [if_pos h0]
  by_cases h1 : v / 2 ≥ 0
  ·rw [if_pos h1]
   simp only [Option.bind_some]
   by_cases h2 : v / 2 < 1048576
   ·rw [if_pos (by simpa using h2), if_pos (by simp only [decide_eq_true_eq]; omega)]
   ·rw [if_neg (by simpa using h2), if_neg (by simp only [decide_eq_true_eq]; omega)]
  ·rw [if_neg h1, if_neg (by simp only [decide_eq_true_eq]; omega)]; rfl
 ·rw [if_neg h0, if_neg (by simp only [decide_eq_true_eq]; omega)]
theorem vMay_eq (v : Int) : value_May.f v = some (isSmall v || isAt v) := by
 unfold value_May.f
 rw [N_eq, At_eq]
 cases isSmall v <;> cases isAt v <;> rfl
def MarkS (w0 W : World) (G M : Nat) (A : Option Addr) (c : Nat) (objs : List S44) (AS : Option Addr) (cS : Nat) (marked : List Bool) (stack : List Int) : Prop :=
 w0.heap.size ≤ G ∧ W.heap[G]? = some (.cells #[.slice A objs.length c, .slice (some ⟨M, 0, none⟩) marked.length marked.length, .slice AS stack.length cS] 62 (0, 0)) ∧
 Kd.R Kd.bool 4 W w0.heap.size (fun _ => True) (.slice (some ⟨M, 0, none⟩) marked.length marked.length) marked ∧
 Kd.R (Kd.int .i64) 3 W w0.heap.size (fun _ => True) (.slice AS stack.length cS) stack ∧ Below w0.heap.size w0 W
theorem MarkS.drewN {w0 W : World} {G M : Nat} {A : Option Addr} {c : Nat} {objs : List S44} {AS : Option Addr} {cS : Nat} {marked : List Bool} {stack : List Int} (h : MarkS w0 W G M A c objs AS cS marked stack) (n : Nat) : MarkS w0 (W.drewN n) G M A c objs AS cS marked stack :=
 ⟨h.1, h.2.1, Kd.R_drewN h.2.2.1 n, Kd.R_drewN h.2.2.2.1 n, pw_below_drewN h.2.2.2.2 n⟩
def Keep44 (W w' : World) : Prop := ∀ (k : Nat) (cells : Array Value), W.heap[k]? = some (.cells cells 44 (0, 0)) → w'.heap[k]? = some (.cells cells 44 (0, 0))
theorem Keep44.drewN (W : World) (n : Nat) : Keep44 W (W.drewN n) := fun _ _ h => h
def pushF (n : Int) (v : Int) (marked : List Bool) (stack : List Int) : Option (Bool × List Bool × List Int) :=
 if isAt v = true then
  (if v / 2 ≥ n then some (false, marked, stack)
   else if v / 2 < (marked.length : Int) then
    (if rdOf false marked (v / 2) = true then some (true, marked, stack)
    else if stack.length < 17592186044416 then some (true, marked.set (v / 2).toNat true, stack ++ [v / 2]) else none)
   else none)
 else some (isSmall v, marked, stack)
def PushPost (w0 W : World) (G M : Nat) (A : Option Addr) (c : Nat) (objs : List S44) (r : Bool × List Bool × List Int) (e : Ending) (w' : World) : Prop :=
 ∃ AS' cS', e = .returned (.bool r.1) ∧ MarkS w0 w' G M A c objs AS' cS' r.2.1 r.2.2 ∧ Keep44 W w'
theorem push_after {w0 W1 w1 : World} {G M : Nat} {A AS : Option Addr} {c cS : Nat} {objs : List S44} {marked m2 : List Bool} {stack : List Int} {i : Int} {v1 : Value} (hl : m2.length = marked.length) (hG : w0.heap.size ≤ G)
  (hM : Kd.R Kd.bool 4 W1 w0.heap.size (fun _ => True) (.slice (some ⟨M, 0, none⟩) marked.length marked.length) m2)
  (hK : Kd.R (Kd.int .i64) 3 W1 w0.heap.size (fun _ => True) (.slice AS stack.length cS) stack)
  (hB : W1.heap[G]? = some (.cells #[.slice A objs.length c, .slice (some ⟨M, 0, none⟩) marked.length marked.length, .slice AS stack.length cS] 62 (0, 0)))
  (ho : Kd.R (Kd.int .i64) 3 w1 w0.heap.size (fun _ => True) v1 (stack ++ [i])) (hb : Below w0.heap.size w0 w1) (hg : W1.grownBy w1 (Value.slice AS stack.length cS).ownBlock) :
  ∃ AS' cS', v1 = .slice AS' (stack ++ [i]).length cS' ∧ w1.cell? ⟨G, 2, none⟩ = some (.slice AS stack.length cS) ∧ w1.frozen? ⟨G, 2, none⟩ = false ∧
   Aside0 (MarkS w0 (w1.setCell ⟨G, 2, none⟩ (.slice AS' (stack ++ [i]).length cS')) G M A c objs AS' cS' m2 (stack ++ [i])) ∧ Aside0 (Keep44 W1 (w1.setCell ⟨G, 2, none⟩ (.slice AS' (stack ++ [i]).length cS'))) := by
 have hB2 := blk_grown hB hg (Kd.R_ne hK hB (by decide))
 have hM2 : Kd.R Kd.bool 4 w1 w0.heap.size (fun _ => True) (.slice (some ⟨M, 0, none⟩) marked.length marked.length) m2 :=
  Kd.R_mono (Kd.R_grown (Kd.R_apartR hM hK (by decide)) hg (fun k hk => hk.2)) (fun k _ => trivial)
 obtain ⟨AS', cS', rfl⟩ := Kd.R_slice ho
 refine ⟨AS', cS', rfl, (blk_cell hB2 2).trans rfl, blk_frozen hB2 2, ⟨hG, ?_, ?_, ?_, below_set hb hG⟩, ⟨fun k cells hk => ?_⟩⟩
 rotate_right
 ·have h1 : w1.heap[k]? = some (.cells cells 44 (0, 0)) := blk_grown hk hg (Kd.R_ne hK hk (by decide))
  exact blk_far h1 (p := ⟨G, 2, none⟩) (fun e => by
   have e' : k = G := e
   subst e'
   rw [h1] at hB2
   injection hB2 with hB2
   injection hB2 with _ hB2
   cases hB2) _
 ·have := blk_put hB2 2 (.slice AS' (stack ++ [i]).length cS') rfl
  rw [hl]
  exact this
 ·rw [hl]
  exact Kd.R_set hM2 hB2 (by decide) 2 _
 ·exact Kd.R_set ho hB2 (by decide) 2 _
set_option maxHeartbeats 4000000 in
theorem push_calls (w0 W : World) (G M : Nat) (A : Option Addr) (c : Nat) (objs : List S44) (AS : Option Addr) (cS : Nat) (marked : List Bool) (stack : List Int) (v : Int) (r : Bool × List Bool × List Int)
  (hS : MarkS w0 W G M A c objs AS cS marked stack) (h : pushF objs.length v marked stack = some r) :
  Calls Try.prog 41 #[.pointer (some ⟨G, 0, none⟩), .int .i64 v] W (PushPost w0 W G M A c objs r) := by
 have HS := Aside0.mk hS
 obtain ⟨hG, hB, hM, hK, hBel⟩ := hS
 have c0 : W.cell? ⟨G, 0, none⟩ = some (.slice A objs.length c) := (blk_cell hB 0).trans rfl
 have c1 : W.cell? ⟨G, 1, none⟩ = some (.slice (some ⟨M, 0, none⟩) marked.length marked.length) := (blk_cell hB 1).trans rfl
 have c2 : W.cell? ⟨G, 2, none⟩ = some (.slice AS stack.length cS) := (blk_cell hB 2).trans rfl
 cases ha : isAt v with
 | false =>
  have hat := Aside0.mk (show value_At.f v = some (0, false) from by rw [At_eq, ha]; rfl)
  have hr : r = (isSmall v, marked, stack) := by
   unfold pushF at h
   rw [ha, if_neg (by decide)] at h
   exact (Option.some.inj h).symm
  subst hr
  have hmay := Aside0.mk (show value_May.f v = some (isSmall v) from by rw [vMay_eq, ha, Bool.or_false])
  clear h hB hM hK hBel c0 c1 c2 hG
  go_enter Try.func41, Try.ntmps41
  go_wp2_with (first | (go_at_call 31; (with_reducible refine (value_At.calls v 0 false _ hat.out).mono ?_); rintro e w' ⟨rfl, ⟨nd, rfl⟩⟩) | (go_at_call 50; (with_reducible refine (value_May.calls v _ _ hmay.out).mono ?_); rintro e w' ⟨rfl, ⟨nd, rfl⟩⟩))
  go_ret
  exact ⟨AS, cS, rfl, by repeat (first | exact HS.out | apply MarkS.drewN), Keep44.drewN _ _⟩
 | true =>
  have hat := Aside0.mk (show value_At.f v = some (v / 2, true) from by rw [At_eq, ha]; rfl)
  unfold pushF at h
  rw [if_pos ha] at h
  by_cases h1 : v / 2 ≥ (objs.length : Int)
  ·rw [if_pos h1] at h
   have hr := (Option.some.inj h).symm
   subst hr
   have h1b : decide ((objs.length : Int) ≤ v / 2) = true := decide_eq_true h1
   clear h hB hM hK hBel hG h1
   go_enter Try.func41, Try.ntmps41
   go_wp2_with (first | (go_at_call 31; (with_reducible refine (value_At.calls v (v / 2) true _ hat.out).mono ?_); rintro e w' ⟨rfl, ⟨nd, rfl⟩⟩))
   go_ret
   exact ⟨AS, cS, rfl, by repeat (first | exact HS.out | apply MarkS.drewN), Keep44.drewN _ _⟩
  ·rw [if_neg h1] at h
   have h1b : decide ((objs.length : Int) ≤ v / 2) = false := decide_eq_false h1
   have h0 : 0 ≤ v / 2 := by
    unfold isAt at ha
    simp only [decide_eq_true_eq] at ha
    omega
   by_cases h2 : v / 2 < (marked.length : Int)
   ·rw [if_pos h2] at h
    have hcell := Kd.R_celln false hM (v / 2) h0 h2
    by_cases h3 : rdOf false marked (v / 2) = true
    ·rw [if_pos h3] at h
     have hr := (Option.some.inj h).symm
     subst hr
     rw [h3] at hcell
     obtain ⟨hx, hf⟩ := hcell
     clear h hB hM hK hBel hG h1 h3 ha
     have h0b := eq_true h0
     have h2b := eq_true h2
     generalize hq : v / 2 = i at *
     have Hq := Aside0.mk hq
     clear hq
     go_enter Try.func41, Try.ntmps41
     go_wp2_with (first | (go_at_call 31; (with_reducible refine (value_At.calls v i true _ hat.out).mono ?_); rintro e w' ⟨rfl, ⟨nd, rfl⟩⟩))
     go_ret
     exact ⟨AS, cS, rfl, by repeat (first | exact HS.out | apply MarkS.drewN), Keep44.drewN _ _⟩
    ·rw [if_neg h3] at h
     by_cases h4 : stack.length < 17592186044416
     ·rw [if_pos h4] at h
      have hr := (Option.some.inj h).symm
      subst hr
      have h3' : rdOf false marked (v / 2) = false := by simpa using h3
      rw [h3'] at hcell
      obtain ⟨hx, hf⟩ := hcell
      have hMG : some G ≠ (Value.slice (some ⟨M, 0, none⟩) marked.length marked.length).ownBlock := Kd.R_ne hM hB (by decide)
      have hne : ¬ (M = G) := fun e => hMG (by rw [← e]; rfl)
      have hne' : ¬ (G = M) := fun e => hne e.symm
      have hMb : ∃ cells, W.heap[M]? = some (.cells cells 4 (0, 0)) := by
       obtain ⟨inner, ho⟩ := Kd.R_own hM
       exact own_typed ho M rfl
      have HM := Aside0.mk hM
      have HK := Aside0.mk hK
      have HB := Aside0.mk hB
      have HBel := Aside0.mk hBel
      have hMle : w0.heap.size ≤ M := by
       rcases Kd.R_base2 hM with h | ⟨k, h, hk⟩
       ·cases h
       ·have : M = k := by simpa [Value.ownBlock] using h
        omega
      generalize hq : v / 2 = i at *
      have HM1 : Aside0 (∀ n, Kd.R Kd.bool 4 ((W.drewN n).setCell ⟨M, i.toNat, none⟩ (.bool true)) w0.heap.size (fun _ => True) (.slice (some ⟨M, 0, none⟩) marked.length marked.length) (marked.set i.toNat true)) :=
       ⟨fun n => Kd.R_putn (enc := Value.bool) (Kd.R_drewN hM n) i true⟩
      have HK1 : Aside0 (∀ n, Kd.R (Kd.int .i64) 3 ((W.drewN n).setCell ⟨M, i.toNat, none⟩ (.bool true)) w0.heap.size (fun _ => True) (.slice AS stack.length cS) stack) :=
       ⟨fun n => by obtain ⟨cells, hc⟩ := hMb; exact Kd.R_set (Kd.R_drewN hK n) (g := M) (t := 4) (cells := cells) hc (by decide) i.toNat _⟩
      have HB1 : Aside0 (∀ n, ((W.drewN n).setCell ⟨M, i.toNat, none⟩ (.bool true)).heap[G]? = some (.cells #[.slice A objs.length c, .slice (some ⟨M, 0, none⟩) marked.length marked.length, .slice AS stack.length cS] 62 (0, 0))) :=
       ⟨fun n => blk_far (blk_drewN hB n) hne' _⟩
      have HBel1 : Aside0 (∀ n, Below w0.heap.size w0 ((W.drewN n).setCell ⟨M, i.toNat, none⟩ (.bool true))) :=
       ⟨fun n => below_set (pw_below_drewN hBel n) hMle⟩
      have H4 := Aside0.mk h4
      have HG := Aside0.mk hG
      have hlen : (marked.set i.toNat true).length = marked.length := by simp
      have HL := Aside0.mk hlen
      have HMb := Aside0.mk hMb
      clear hlen
      clear h hB hM hK hBel h1 h3 h3' ha h4 hG hMb hMle
      have h0b := eq_true h0
      have h2b := eq_true h2
      have Hq := Aside0.mk hq
      clear hq
      go_enter Try.func41, Try.ntmps41
      go_wp2_with (first | (go_at_call 31; (with_reducible refine (value_At.calls v i true _ hat.out).mono ?_); rintro e w' ⟨rfl, ⟨nd, rfl⟩⟩) | ((with_reducible refine gate_builtin (b := .append) (xs := #[.tmp 41, .tmp 43]) rfl ?_); at_builtin; go_loud (refine Kd.R_append (Kd.int .i64) (w0 := w0) w0.heap.size rfl (.tmp 41) (.tmp 43) 25 3 (.int .i64 0) 8 rfl Try.underlying25 info3 rfl (by decide) (by omega) (.slice AS stack.length cS) stack i [.int .i64 i] (fun _ => True) (fun _ => False) rfl ?aX ?aP (fun _ hk => hk.elim) ?aF ?aO ?aB ?aS ?aL ?_); (case aX => go_loud (go_simp)); (case aP => exact rfl); go_loud (case aF => exact fun _ _ => trivial); go_loud (case aO => exact HK1.out _); go_loud (case aB => exact HBel1.out _); go_loud (case aS => exact (HBel1.out _).size); go_loud (case aL => have := H4.out; omega); intro v1 w1 ho hb hg hat1; obtain ⟨AS', cS', rfl, hc2, hf2, HF, HKP⟩ := push_after HL.out HG.out (HM1.out _) (HK1.out _) (HB1.out _) ho hb hg; clear ho hb hg hat1))
      go_ret
      have hfin := HF.out
      have hkp := HKP.out
      simp only [List.length_append, List.length_singleton] at hfin hkp
      refine ⟨AS', cS', rfl, hfin, fun k cells hk => hkp k cells ?_⟩
      have hk' : (W.drewN nd).heap[k]? = some (.cells cells 44 (0, 0)) := hk
      refine blk_far hk' (p := ⟨M, i.toNat, none⟩) (fun e => ?_) _
      have e' : k = M := e
      subst e'
      obtain ⟨cells2, hc⟩ := HMb.out
      rw [hk] at hc
      injection hc with hc
      injection hc with _ hc
      cases hc
     ·rw [if_neg h4] at h
      cases h
   ·rw [if_neg h2] at h
    cases h
def collectTo (m : List Bool) (j : Nat) : List Int := ((List.range j).filter (fun i => m.getD i false)).map (fun i : Nat => (i : Int))
theorem collectTo_le (m : List Bool) (j : Nat) : (collectTo m j).length ≤ j := by
 unfold collectTo
 rw [List.length_map]
 exact Nat.le_trans (List.length_filter_le _ _) (by simp)
theorem collectTo_no {m : List Bool} {j : Nat} (h : rdOf false m (j : Int) = false) : collectTo m (j + 1) = collectTo m j := by
 have h' : m[j]?.getD false = false := by simpa [rdOf, List.getD_eq_getElem?_getD] using h
 unfold collectTo
 rw [List.range_succ, List.filter_append, List.map_append]
 simp [List.filter_cons, h']
theorem collectTo_yes {m : List Bool} {j : Nat} (h : rdOf false m (j : Int) = true) : collectTo m (j + 1) = collectTo m j ++ [(j : Int)] := by
 have h' : m[j]?.getD false = true := by simpa [rdOf, List.getD_eq_getElem?_getD] using h
 unfold collectTo
 rw [List.range_succ, List.filter_append, List.map_append]
 simp [List.filter_cons, h']
def pushAll (n : Int) : List Int → List Bool → List Int → Option (List Bool × List Int)
 | [], m, s => some (m, s)
 | v :: vs, m, s => (pushF n v m s).bind fun r => pushAll n vs r.2.1 r.2.2
def rootsF (n : Int) : List Int → List Bool → List Int → Option (Option (List Bool × List Int))
 | [], m, s => some (some (m, s))
 | v :: vs, m, s => (pushF n v m s).bind fun r => if r.1 = true then rootsF n vs r.2.1 r.2.2 else some none
def markLoop (objs : List S44) : Nat → List Bool → List Int → Option (List Bool)
 | 0, _, _ => none
 | k + 1, m, s => match s.getLast? with
  | none => some m
  | some i => if 0 ≤ i then (if i < (objs.length : Int) then (pushF objs.length (rd_T44 objs i).f0 m s.dropLast).bind fun r => (pushAll objs.length (rd_T44 objs i).f2 r.2.1 r.2.2).bind fun q => markLoop objs k q.1 q.2 else none) else none
def liveEnd (m : List Bool) : Option (List Int × Int) := some (collectTo m m.length, 0)
def liveRest (objs : List S44) (x : Option (List Bool × List Int)) : Option (List Int × Int) :=
 match x with
 | none => some ([], 31)
 | some q => (markLoop objs (objs.length + 1) q.1 q.2).bind liveEnd
def mark_Live.f (l0_0 : List S44) (a0_1 : Int) (a0_2 : Int) (l1 : List Int) : Option (List Int × Int) :=
 if mayB l0_0 a0_1 a0_2 = true then (rootsF l0_0.length l1 (List.replicate l0_0.length false) []).bind (liveRest l0_0) else some ([], 1)
theorem pushF_len {n v : Int} {m : List Bool} {s : List Int} {r : Bool × List Bool × List Int} (h : pushF n v m s = some r) : r.2.1.length = m.length := by
 unfold pushF at h
 split at h
 ·split at h
  ·obtain rfl := Option.some.inj h; rfl
  ·split at h
   ·split at h
    ·obtain rfl := Option.some.inj h; rfl
    ·split at h
     ·obtain rfl := Option.some.inj h; simp
     ·cases h
   ·cases h
 ·obtain rfl := Option.some.inj h; rfl
theorem rd_drop (l : List Int) (j : Nat) (h : j < l.length) : l.drop j = rd l (j : Int) :: l.drop (j + 1) := by
 rw [List.drop_eq_getElem_cons h]
 congr 1
 simp [rd, List.getD_eq_getElem?_getD, List.getElem?_eq_getElem h]
theorem stack_top {W : World} {base : Nat} {AS : Option Addr} {cS : Nat} {s' : List Int} {i : Int} (h : Kd.R (Kd.int .i64) 3 W base (fun _ => True) (.slice AS (s' ++ [i]).length cS) (s' ++ [i])) : ∃ ad, AS = some ad ∧ W.cell? (ad.add s'.length) = some (.int .i64 i) := by
 obtain ⟨A, c, he, hl, hC⟩ := Kd.R_reads h
 injection he with he _ _
 subst he
 obtain ⟨ad, e, hx⟩ := Kd.at_int hC (s'.length : Int) (by omega) (by simp; omega)
 refine ⟨ad, e, ?_⟩
 rw [Int.toNat_natCast] at hx
 rw [hx]
 congr 2
 simp [rd]
theorem stack_cap {W : World} {base : Nat} {AS : Option Addr} {cS : Nat} {s' : List Int} {i : Int} (h : Kd.R (Kd.int .i64) 3 W base (fun _ => True) (.slice AS (s' ++ [i]).length cS) (s' ++ [i])) : s'.length ≤ cS := by
 obtain ⟨A, c, he, hl, hC⟩ := Kd.R_reads h
 injection he with _ _ he
 subst he
 simp at hl
 omega
theorem stack_le {W : World} {base : Nat} {AS : Option Addr} {cS : Nat} {s' : List Int} {i : Int} (h : Kd.R (Kd.int .i64) 3 W base (fun _ => True) (.slice AS (s' ++ [i]).length cS) (s' ++ [i])) : s'.length ≤ 9223372036854775806 := by
 obtain ⟨A, c, he, hl, hC⟩ := Kd.R_reads h
 have := hC.2.1
 simp at this
 omega
def LivePost (w : World) (r1 : List Int) (r2 : Int) (e : Ending) (w' : World) : Prop :=
 ∃ v0_ : Value, e = .returned (.tuple #[v0_, .int .i64 r2]) ∧ Kd.R (Kd.int .i64) 3 w' w.heap.size (fun _ => True) v0_ r1 ∧ Below w.heap.size w w'
theorem MarkS.below {w0 W W1 : World} {G M : Nat} {A AS : Option Addr} {c cS : Nat} {objs : List S44} {m : List Bool} {s : List Int} (h : MarkS w0 W G M A c objs AS cS m s) (hb : Below W.heap.size W W1) : MarkS w0 W1 G M A c objs AS cS m s := by
 obtain ⟨h1, h2, h3, h4, h5⟩ := h
 exact ⟨h1, (hb.block G (blk_lt h2)).trans h2, Kd.R_below h3 hb, Kd.R_below h4 hb, below_step h5 hb⟩
theorem MarkS.pop {w0 W : World} {G M : Nat} {A AS : Option Addr} {c cS : Nat} {objs : List S44} {m : List Bool} {s' : List Int} {i : Int} (h : MarkS w0 W G M A c objs AS cS m (s' ++ [i])) : MarkS w0 (W.setCell ⟨G, 2, none⟩ (.slice AS s'.length cS)) G M A c objs AS cS m s' := by
 obtain ⟨h1, h2, h3, h4, h5⟩ := h
 refine ⟨h1, blk_put h2 2 _ rfl, Kd.R_set h3 h2 (by decide) 2 _, ?_, below_set h5 h1⟩
 have h6 := Kd.R_take h4 (m := s'.length) (by simp)
 rw [List.take_left' rfl] at h6
 exact Kd.R_set h6 h2 (by decide) 2 _
def MarkAt (w0 W : World) (G M : Nat) (A : Option Addr) (c : Nat) (objs : List S44) (m : List Bool) (s : List Int) : Prop := ∃ AS cS, MarkS w0 W G M A c objs AS cS m s
theorem MarkAt.below {w0 W W1 : World} {G M : Nat} {A : Option Addr} {c : Nat} {objs : List S44} {m : List Bool} {s : List Int} (h : MarkAt w0 W G M A c objs m s) (hb : Below W.heap.size W W1) : MarkAt w0 W1 G M A c objs m s := by
 obtain ⟨AS, cS, h1, h2, h3, h4, h5⟩ := h
 exact ⟨AS, cS, h1, (hb.block G (blk_lt h2)).trans h2, Kd.R_below h3 hb, Kd.R_below h4 hb, below_step h5 hb⟩
theorem push_at (w0 W : World) (G M : Nat) (A : Option Addr) (c : Nat) (objs : List S44) (m : List Bool) (s : List Int) (v : Int) (r : Bool × List Bool × List Int)
  (hS : MarkAt w0 W G M A c objs m s) (h : pushF objs.length v m s = some r) :
  Calls Try.prog 41 #[.pointer (some ⟨G, 0, none⟩), .int .i64 v] W fun e w' => e = .returned (.bool r.1) ∧ MarkAt w0 w' G M A c objs r.2.1 r.2.2 ∧ Keep44 W w' := by
 obtain ⟨AS, cS, hS⟩ := hS
 exact (push_calls w0 W G M A c objs AS cS m s v r hS h).mono fun e w' ⟨AS', cS', he, hm, hk⟩ => ⟨he, ⟨AS', cS', hm⟩, hk⟩
set_option maxHeartbeats 8000000 in
set_option maxRecDepth 100000 in
theorem mark_Live.walk (A0_0 : Option Addr) (c0_0 : Nat) (l0_0 : List (S44)) (a0_1 : Int) (a0_2 : Int) (A1 : Option Addr) (c1 : Nat) (l1 : List Int) (r1 : List Int) (r2 : Int) (w : World) (hr0_0 : Kd.C k44 w A0_0 l0_0.length l0_0) (hc0_0 : l0_0.length ≤ c0_0) (hr1 : Kd.C (Kd.int .i64) w A1 l1.length l1) (hc1 : l1.length ≤ c1) (h : mark_Live.f l0_0 a0_1 a0_2 l1 = some (r1, r2)) :
  Calls Try.prog 26 #[.agg #[.slice A0_0 l0_0.length c0_0, .int .i64 a0_1, .int .i64 a0_2], .slice A1 l1.length c1] w (LivePost w r1 r2) := by
 have hu24 := Try.underlying24
 have HR0 := Aside0.mk hr0_0
 have HR1 := Aside0.mk hr1
 have HC0 := Aside0.mk hc0_0
 have hL1 := hr1.2.1
 have MAY := Aside0.mk (fun (W : World) hr => heap_May.calls A0_0 c0_0 l0_0 a0_1 a0_2 (mayB l0_0 a0_1 a0_2) W hr hc0_0 rfl)
 clear hr0_0 hr1 hc0_0
 unfold mark_Live.f at h
 cases hm : mayB l0_0 a0_1 a0_2 with
 | false =>
  rw [hm, if_neg (by decide)] at h
  rw [hm] at MAY
  injection h with h
  injection h with h1 h2
  subst h1
  subst h2
  go_enter Try.func26, Try.ntmps26
  go_wp2_with (go_at_call 40; refine (MAY.out _ ?hr).mono ?_; (case hr => exact Kd.C_below HR0.out (by repeat (first | exact Below.refl _ _ | apply below_alloc | apply pw_below_drewN | apply below_drew1))); rintro e w' ⟨rfl, hb⟩)
  go_ret2
  exact ⟨_, rfl, Kd.R_nil _ _ _ _ _, below_step (by repeat (first | exact Below.refl _ _ | apply below_alloc | apply pw_below_drewN | apply below_drew1)) hb⟩
 | true =>
  rw [hm, if_pos rfl] at h
  rw [hm] at MAY
  have hn : l0_0.length ≤ 256 := by
   unfold mayB at hm
   simp only [Bool.and_eq_true, decide_eq_true_eq] at hm
   omega
  have HN := Aside0.mk hn
  have H := Aside0.mk h
  clear h hm
  have hmk := print_make_int 58 4 (.bool false) 1 Try.underlying58 info4 rfl (by decide) (l0_0.length : Int) (by omega) (by omega)
  rw [Int.toNat_natCast] at hmk
  have HMK := Aside0.mk hmk
  clear hmk hn
  go_enter Try.func26, Try.ntmps26
  go_wp2_with (first | ((with_reducible refine gate_dst (N := 2) rfl ?_); refine box_event ?hg (N := 2) ?hd (cs := #[.slice A0_0 l0_0.length c0_0, .int .i64 a0_1, .int .i64 a0_2]) (t := 24) ?hr ?_; (case hd => rfl); (case hg => rfl); (case hr => first | (go_simp; done) | (go_simp; rfl)); intro BH hg w1 hbox hb; have HB1 := Aside0.mk hb; have HBX := Aside0.mk hbox; have hcz : w1.cell? ⟨BH, 0, none⟩ = some (.slice A0_0 l0_0.length c0_0) := (blk_cell hbox 0).trans rfl; have hcz1 : w1.cell? ⟨BH, 1, none⟩ = some (.int .i64 a0_1) := (blk_cell hbox 1).trans rfl; have hcz2 : w1.cell? ⟨BH, 2, none⟩ = some (.int .i64 a0_2) := (blk_cell hbox 2).trans rfl; clear hb hbox hg) | (go_at_call 40; refine (MAY.out _ ?hr).mono ?_; (case hr => exact Kd.C_below HR0.out HB1.out); rintro e w2 ⟨rfl, hb2⟩; have HB2 := Aside0.mk (below_step HB1.out hb2); have HBX2 := Aside0.mk ((hb2.block BH (blk_lt HBX.out)).trans HBX.out); clear hcz hcz1 hcz2 hb2 HBX HB1))
  have hmk := HMK.out
  have HM3 : Aside0 (Kd.R Kd.bool 4 (w2.drew.alloc (.cells (madeCells #[.bool false] l0_0.length) 4)) w.heap.size (fun _ => True) (.slice (some ⟨w2.heap.size, 0, none⟩) (List.replicate l0_0.length false).length (List.replicate l0_0.length false).length) (List.replicate l0_0.length false)) := ⟨by
   have h0 := own_made_of' (enc := Value.bool) (d := false) w2.drew w.heap.size 4 l0_0.length HB2.out.size (by have := HN.out; omega)
   have h1 := Kd.R_of_own (enc := Value.bool) (h1 := fun _ => rfl) (ok := fun _ => True) h0 (fun _ _ => trivial)
   rw [show (List.replicate l0_0.length false).length = l0_0.length from by simp]
   exact h1⟩
  have hc3 : (w2.drew.alloc (.cells (madeCells #[.bool false] l0_0.length) 4)).cell? ⟨BH, 0, none⟩ = some (.slice A0_0 l0_0.length c0_0) := (blk_cell (blk_alloc (blk_drew HBX2.out) _) 0).trans rfl
  have HB3 : Aside0 (Below w.heap.size w (w2.drew.alloc (.cells (madeCells #[.bool false] l0_0.length) 4))) := ⟨below_alloc HB2.out.drew _⟩
  have hlr : (List.replicate l0_0.length false).length = l0_0.length := by simp
  have HLR := Aside0.mk hlr
  clear hlr
  refine start_ (n := 9) (S := fun w' => w'.cell? ⟨BH, 0, none⟩ = some (.slice A0_0 l0_0.length c0_0)) (ds := []) #[false, false, false, false, false, false, false, false, false] (by kernel_rfl) rfl rfl ((blk_cell (blk_drew HBX2.out) 0).trans rfl) (fun hHeld => ?_)
  refine pure_ (i := 0) (N := some 18) (v := ?_) (a' := ?_) #[true, false, false, false, false, false, false, false, false] rfl rfl (by kernel_rfl) (fun _ _ _ h => h) (Or.inl ⟨by rfl, ?_⟩) ?_ ?_
  rotate_left
  ·intro w'
   go_simp
   with_reducible rfl
  rotate_left
  ·simp only [Act.put, List.setIfInBounds_toArray, List.set_cons_zero, List.set_cons_succ, i64_w, i32_w]
   rfl
  refine pure_ (i := 2) (N := some 20) (v := ?_) (a' := ?_) #[true, false, true, false, false, false, false, false, false] rfl rfl (by kernel_rfl) (fun _ _ _ h => h) (Or.inl ⟨by rfl, ?_⟩) ?_ ?_
  rotate_left
  ·intro w'
   go_simp
   with_reducible rfl
  rotate_left
  ·simp only [Act.put, List.setIfInBounds_toArray, List.set_cons_zero, List.set_cons_succ, i64_w, i32_w]
   rfl
  refine take_ (i := 1) (N := some 19) (v := ?_) (a' := ?_) #[true, true, true, false, false, false, false, false, false] rfl rfl (by kernel_rfl) (fun _ _ _ h => h) (Or.inl ⟨by rfl, ?_⟩) hHeld ?_ ?_
  rotate_left
  ·intro w' s0
   go_simp
   with_reducible rfl
  rotate_left
  ·simp only [Act.put, List.setIfInBounds_toArray, List.set_cons_zero, List.set_cons_succ, i64_w, i32_w]
   rfl
  refine take_ (i := 3) (N := some 21) (v := ?_) (a' := ?_) #[true, true, true, true, false, false, false, false, false] rfl rfl (by kernel_rfl) (fun _ _ _ h => h) (Or.inl ⟨by rfl, ?_⟩) hHeld ?_ ?_
  rotate_left
  ·intro w' s0
   go_simp
   with_reducible rfl
  rotate_left
  ·simp only [Act.put, List.setIfInBounds_toArray, List.set_cons_zero, List.set_cons_succ, i64_w, i32_w]
   rfl
  refine pure_ (i := 4) (N := some 22) (v := ?_) (a' := ?_) #[true, true, true, true, true, false, false, false, false] rfl rfl (by kernel_rfl) (fun _ _ _ h => h) (Or.inl ⟨by rfl, ?_⟩) ?_ ?_
  rotate_left
  ·intro w'
   go_simp
   with_reducible rfl
  rotate_left
  ·simp only [Act.put, List.setIfInBounds_toArray, List.set_cons_zero, List.set_cons_succ, i64_w, i32_w]
   rfl
  refine one_ (i := 5) (N := some 23) #[true, true, true, true, true, true, false, false, false] rfl rfl (by kernel_rfl) (by decide) (fun K hK => ?_)
  refine value_ (w1 := ?_) (v := ?_) (by rfl) rfl ?_ ?_
  rotate_left 2
  ·go_simp
   constructor
   ·rfl
   ·rfl
  refine hK.out _ _ (hc3) (fun hHeld => ?_)
  clear hK K
  refine norm_ (a' := ?_) ?_ ?_
  rotate_left
  ·show Act.put _ (some 23) _ = _
   simp only [Act.put, List.setIfInBounds_toArray, List.set_cons_zero, List.set_cons_succ, i64_w, i32_w]
   rfl
  refine pure_ (i := 6) (N := some 24) (v := ?_) (a' := ?_) #[true, true, true, true, true, true, true, false, false] rfl rfl (by kernel_rfl) (fun _ _ _ h => h) (Or.inl ⟨by rfl, ?_⟩) ?_ ?_
  rotate_left
  ·intro w'
   go_simp
   with_reducible rfl
  rotate_left
  ·simp only [Act.put, List.setIfInBounds_toArray, List.set_cons_zero, List.set_cons_succ, i64_w, i32_w]
   rfl
  refine one_ (i := 7) (N := some 25) #[true, true, true, true, true, true, true, true, false] rfl rfl (by kernel_rfl) (by decide) (fun K hK => ?_)
  refine box_step (by rfl) (N := 25) rfl (cs := #[.slice A0_0 l0_0.length c0_0, .slice (some ⟨w2.heap.size, 0, none⟩) l0_0.length l0_0.length, .slice none 0 0]) (t := 62) ?hr ?_
  case hr => first | (go_simp; done) | (go_simp; rfl)
  intro G hG w4 hbx hb4
  have HS4 : Aside0 (MarkAt w w4 G w2.heap.size A0_0 c0_0 l0_0 (List.replicate l0_0.length false) []) := ⟨none, 0, by rw [hG]; exact HB3.out.size, by rw [HLR.out]; exact hbx, Kd.R_below HM3.out hb4, Kd.R_nil _ _ _ _ _, below_step HB3.out hb4⟩
  replace hc3 := (hb4.cell (World.block_lt_of_cell? _ _ hc3)).trans hc3
  clear hG hbx hb4 HM3 HB3
  refine hK.out _ _ (hc3) (fun hHeld => ?_)
  clear hK K
  refine norm_ (a' := ?_) ?_ ?_
  rotate_left
  ·show Act.put _ (some 25) _ = _
   simp only [Act.put, List.setIfInBounds_toArray, List.set_cons_zero, List.set_cons_succ, i64_w, i32_w]
   rfl
  refine pure_ (i := 8) (N := some 6) (v := ?_) (a' := ?_) #[true, true, true, true, true, true, true, true, true] rfl rfl (by kernel_rfl) (fun _ _ _ h => h) (Or.inl ⟨by rfl, ?_⟩) ?_ ?_
  rotate_left
  ·intro w'
   go_simp
   with_reducible rfl
  rotate_left
  ·simp only [Act.put, List.setIfInBounds_toArray, List.set_cons_zero, List.set_cons_succ, i64_w, i32_w]
   rfl
  refine done_ (by kernel_rfl) ?_
  clear hmk hc3
  have HLEN : Aside0 ((List.replicate l0_0.length false).length = l0_0.length) := HLR
  generalize List.replicate l0_0.length false = mk0 at H HS4 HLEN
  clear hHeld
  generalize hMb : w2.heap.size = M at HS4 ⊢
  have HMb := Aside0.mk hMb
  clear hMb
  go_wp2
  go_loopg [28] l1.length (fun gg s28 wr => ∃ (j : Nat) (m : List Bool) (s : List Int), j ≤ l1.length ∧ l1.length - j ≤ gg ∧ s28 = .int .i64 j ∧ Aside0 ((rootsF l0_0.length (l1.drop j) m s).bind (liveRest l0_0) = some (r1, r2)) ∧ Aside0 (m.length = l0_0.length) ∧ Aside0 (MarkAt w wr G M A0_0 c0_0 l0_0 m s))
  case atStart => exact ⟨0, mk0, [], Nat.zero_le _, by omega, rfl, H, HLEN, HS4⟩
  case round =>
   clear H HLEN HS4
   obtain ⟨j, m, s, hj, hgg, rfl, H, HLEN, HS⟩ := hrel
   have HBW : Aside0 (Below w.heap.size w wr) := ⟨by obtain ⟨_, _, h⟩ := HS.out; exact h.2.2.2.2⟩
   by_cases hlt : j < l1.length
   ·have hltz : (j : Int) < (l1.length : Int) := by omega
    obtain ⟨ad, e, hx⟩ := Kd.at_int HR1.out (j : Int) (by omega) hltz
    cases e
    replace hx := (HBW.out.cell (World.block_lt_of_cell? w _ hx)).trans hx
    rw [Int.toNat_natCast] at hx
    have H0 := H.out
    rw [rd_drop l1 j hlt, rootsF] at H0
    generalize rd l1 (j : Int) = v at hx H0
    cases hp : pushF l0_0.length v m s with
    | none => rw [hp] at H0; cases H0
    | some r =>
     rw [hp] at H0
     have hcall := push_at w wr G M A0_0 c0_0 l0_0 m s v r HS.out hp
     have HL2 := Aside0.mk ((pushF_len hp).trans HLEN.out)
     obtain ⟨b, m2, s2⟩ := r
     cases b with
     | false =>
      have H1 : some (([] : List Int), (31 : Int)) = some (r1, r2) := H0
      injection H1 with H1
      injection H1 with h1 h2
      subst h1
      subst h2
      have HCALL := Aside0.mk hcall
      clear H H0 hcall HL2 hp
      go_wp2_with (go_at_call 41; refine HCALL.out.mono ?_; rintro e w' ⟨rfl, hS', hK'⟩)
      go_ret2
      obtain ⟨_, _, h⟩ := hS'
      exact ⟨_, rfl, Kd.R_nil _ _ _ _ _, h.2.2.2.2⟩
     | true =>
      have H1 := Aside0.mk (show (rootsF l0_0.length (l1.drop (j + 1)) m2 s2).bind (liveRest l0_0) = some (r1, r2) from H0)
      have HCALL := Aside0.mk hcall
      clear H H0 hcall hp
      go_wp2_with (go_at_call 41; refine HCALL.out.mono ?_; rintro e w' ⟨rfl, hS', hK'⟩)
      go_roundg (l1.length - (j + 1))
      case measure => omega
      case rel => exact ⟨j + 1, m2, s2, by omega, by omega, by go_num, H1, HL2, ⟨hS'⟩⟩
   ·have hjn : j = l1.length := by omega
    subst hjn
    have H0 := H.out
    rw [List.drop_length, rootsF] at H0
    have H1 := Aside0.mk (show (markLoop l0_0 (l0_0.length + 1) m s).bind liveEnd = some (r1, r2) from H0)
    clear H H0 hlt hgg hj
    clear hL1
    try go_wp2
    go_loopg [42] (l0_0.length + 1) (fun kq _ w' => ∃ (m : List Bool) (s : List Int), Aside0 ((markLoop l0_0 kq m s).bind liveEnd = some (r1, r2)) ∧ Aside0 (m.length = l0_0.length) ∧ Aside0 (MarkAt w w' G M A0_0 c0_0 l0_0 m s))
    case atStart => exact ⟨m, s, H1, HLEN, HS⟩
    case round =>
     clear H1 HLEN HS HBW
     obtain ⟨m, s, H, HLEN, HS⟩ := hrel
     cases gk with
     | zero => exact absurd H.out (by simp [markLoop])
     | succ k1 =>
     have H0 := H.out
     rw [markLoop] at H0
     obtain ⟨AS, cS, hS⟩ := HS.out
     have hB := hS.2.1
     have c0 : wr.cell? ⟨G, 0, none⟩ = some (.slice A0_0 l0_0.length c0_0) := (blk_cell hB 0).trans rfl
     have c1 : wr.cell? ⟨G, 1, none⟩ = some (.slice (some ⟨M, 0, none⟩) m.length m.length) := (blk_cell hB 1).trans rfl
     have c2 : wr.cell? ⟨G, 2, none⟩ = some (.slice AS s.length cS) := (blk_cell hB 2).trans rfl
     rcases List.eq_nil_or_concat s with rfl | ⟨s', i, rfl⟩
     ·have H1 := Aside0.mk (show liveEnd m = some (r1, r2) from H0)
      rw [List.length_nil] at c2
      have HBW : Aside0 (Below w.heap.size w wr) := ⟨hS.2.2.2.2⟩
      have hM4 := Aside0.mk (Kd.R_reads hS.2.2.1)
      clear H H0 hB hS c0
      go_wp2
      go_loopg [12, 95] m.length (fun gg s12 s95 w' => ∃ (j : Nat), j ≤ m.length ∧ m.length - j ≤ gg ∧ s95 = .int .i64 j ∧ Aside0 (Kd.R (Kd.int .i64) 3 w' w.heap.size (fun _ => True) s12 (collectTo m j)) ∧ Aside0 (Kd.R Kd.bool 4 w' w.heap.size (fun _ => True) (.slice (some ⟨M, 0, none⟩) m.length m.length) m) ∧ Aside0 (Below w.heap.size w w'))
      case atStart => exact ⟨0, Nat.zero_le _, by omega, rfl, ⟨Kd.R_nil _ _ _ _ _⟩, ⟨by obtain ⟨_, _, h⟩ := HS.out; exact h.2.2.1⟩, HBW⟩
      case round =>
       clear HBW HS hM4 c1 c2
       obtain ⟨j, hj, hgg, rfl, HO, HM, HB⟩ := hrel
       have HL := Aside0.mk (show m.length ≤ 256 from by have := HLEN.out; have := HN.out; omega)
       by_cases hlt : j < m.length
       ·have hltz : (j : Int) < (m.length : Int) := by omega
        have hcell := (Kd.R_celln false HM.out (j : Int) (by omega) hltz).1
        rw [Int.toNat_natCast] at hcell
        have hj256 : j < 256 := by have := HL.out; omega
        have hsz := Aside0.mk (collectTo_le m j)
        cases hb : rdOf false m (j : Int) with
        | false =>
         rw [hb] at hcell
         have hnx := Aside0.mk (collectTo_no hb)
         clear hb
         go_wp2
         go_roundg (m.length - (j + 1))
         case measure => omega
         case rel => exact ⟨j + 1, by omega, by omega, by go_num, ⟨by rw [hnx.out]; exact HO.out⟩, HM, HB⟩
        | true =>
         rw [hb] at hcell
         have hnx := Aside0.mk (collectTo_yes hb)
         clear hb
         go_wp2_with ((with_reducible refine gate_builtin (b := .append) (xs := #[.tmp 101, .tmp 103]) rfl ?_); at_builtin; refine Kd.R_append (Kd.int .i64) (w0 := w) w.heap.size rfl (.tmp 101) (.tmp 103) 25 3 (.int .i64 0) 8 rfl Try.underlying25 info3 rfl (by decide) (by omega) u12 (collectTo m j) (j : Int) [.int .i64 (j : Int)] (fun _ => True) (fun _ => False) rfl rfl ?aP (fun _ hk => hk.elim) ?aF ?aO ?aB ?aS ?aL ?_; (case aP => exact rfl); (case aF => exact fun _ _ => trivial); (case aO => exact HO.out); (case aB => exact HB.out); (case aS => exact HB.out.size); (case aL => have := hsz.out; omega); intro v1 w9 ho hb hg hat1; have HO9 := Aside0.mk ho; have HB9 := Aside0.mk hb; have HM9 := Aside0.mk (Kd.R_mono (ok' := fun _ => True) (Kd.R_grown (Kd.R_apartR HM.out HO.out (by decide)) hg (fun k hk => hk.2)) (fun k _ => trivial)); clear ho hb hg hat1)
         go_roundg (m.length - (j + 1))
         case measure => omega
         case rel => exact ⟨j + 1, by omega, by omega, by go_num, ⟨by rw [hnx.out]; exact HO9.out⟩, HM9, HB9⟩
       ·have hjm : j = m.length := by omega
        subst hjm
        unfold liveEnd at H1
        have h1 := H1.out
        injection h1 with h1
        injection h1 with h1 h2
        subst h1
        subst h2
        clear H1
        go_wp2
        go_ret2
        exact ⟨_, rfl, HO.out, HB.out⟩
     ·rw [List.concat_eq_append] at *
      have hg : (s' ++ [i]).getLast? = some i := by simp
      have hd : (s' ++ [i]).dropLast = s' := by simp
      rw [hg] at H0
      simp only [hd] at H0
      by_cases hi0 : 0 ≤ i
      ·rw [if_pos hi0] at H0
       by_cases hi1 : i < (l0_0.length : Int)
       ·rw [if_pos hi1] at H0
        rw [List.length_append, List.length_singleton] at c2
        obtain ⟨ad9, A2, cc2, e9, f0, f1, f2, f3, f4, f5, hl2, hC2⟩ := at_T44 HR0.out i hi0 hi1
        cases e9
        have hBel := hS.2.2.2.2
        replace f0 := (hBel.cell (World.block_lt_of_cell? w _ f0)).trans f0
        replace f1 := (hBel.cell (World.block_lt_of_cell? w _ f1)).trans f1
        replace f2 := (hBel.cell (World.block_lt_of_cell? w _ f2)).trans f2
        replace f3 := (hBel.cell (World.block_lt_of_cell? w _ f3)).trans f3
        replace f4 := (hBel.cell (World.block_lt_of_cell? w _ f4)).trans f4
        replace f5 := (hBel.cell (World.block_lt_of_cell? w _ f5)).trans f5
        obtain ⟨ads, e9, hst⟩ := stack_top hS.2.2.2.1
        subst e9
        have HC2 := Aside0.mk hC2
        have HS0 := Aside0.mk hS
        have hcap : s'.length ≤ cS := stack_cap hS.2.2.2.1
        have hsb : s'.length ≤ 9223372036854775806 := stack_le hS.2.2.2.1
        generalize rd_T44 l0_0 i = ob at H0 f0 f1 f2 f3 f4 f5 hl2 HC2
        have HL2 := Aside0.mk hl2
        have H1 := Aside0.mk H0
        clear H H0 hB hS hBel hC2 hl2 hg hd
        have hi0b := eq_true hi0
        have hi1b := eq_true hi1
        go_wp2
        have hw64 : wrap64 (s'.length : Int) = (s'.length : Int) := by unfold wrap64; omega
        have hlt64 : (s'.length : Int) < (s'.length : Int) + 1 := by omega
        refine start_ (n := 20) (S := fun w' => w'.cell? ⟨G, 0, none⟩ = some (.slice (some ad9) l0_0.length c0_0) ∧ w'.cell? ⟨G, 2, none⟩ = some (.slice (some ads) (s'.length + 1) cS) ∧ w'.cell? (ads.add s'.length) = some (.int .i64 i) ∧ w'.cell? (ad9.add (i.toNat * 6)) = some (.int .i64 ob.f0) ∧ w'.cell? ⟨(ad9.add (i.toNat * 6)).block, (ad9.add (i.toNat * 6)).off + 1, none⟩ = some (.int .i64 ob.f1) ∧ w'.cell? ⟨(ad9.add (i.toNat * 6)).block, (ad9.add (i.toNat * 6)).off + 2, none⟩ = some (.slice A2 ob.f2.length cc2) ∧ w'.cell? ⟨(ad9.add (i.toNat * 6)).block, (ad9.add (i.toNat * 6)).off + 3, none⟩ = some (.string ob.f3) ∧ w'.cell? ⟨(ad9.add (i.toNat * 6)).block, (ad9.add (i.toNat * 6)).off + 4, none⟩ = some (.int .i64 ob.f4) ∧ w'.cell? ⟨(ad9.add (i.toNat * 6)).block, (ad9.add (i.toNat * 6)).off + 5, none⟩ = some (.int .i64 ob.f5)) (ds := [19]) #[false, false, false, false, false, false, false, false, false, false, false, false, false, false, false, false, false, false, false, false] (by kernel_rfl) rfl rfl ⟨c0, c2, hst, f0, f1, f2, f3, f4, f5⟩ (fun hHeld => ?_)
        refine pure_ (i := 0) (N := some 43) (v := ?_) (a' := ?_) #[true, false, false, false, false, false, false, false, false, false, false, false, false, false, false, false, false, false, false, false] rfl rfl (by kernel_rfl) (fun _ _ _ h => h) (Or.inl ⟨by rfl, ?_⟩) ?_ ?_
        rotate_left
        ·intro w'
         go_simp
         with_reducible rfl
        rotate_left
        ·simp only [Act.put, List.setIfInBounds_toArray, List.set_cons_zero, List.set_cons_succ, i64_w, i32_w]
         rfl
        refine pure_ (i := 1) (N := some 44) (v := ?_) (a' := ?_) #[true, true, false, false, false, false, false, false, false, false, false, false, false, false, false, false, false, false, false, false] rfl rfl (by kernel_rfl) (fun _ _ _ h => h) (Or.inl ⟨by rfl, ?_⟩) ?_ ?_
        rotate_left
        ·intro w'
         go_simp
         with_reducible rfl
        rotate_left
        ·simp only [Act.put, List.setIfInBounds_toArray, List.set_cons_zero, List.set_cons_succ, i64_w, i32_w]
         rfl
        refine pure_ (i := 2) (N := some 45) (v := ?_) (a' := ?_) #[true, true, true, false, false, false, false, false, false, false, false, false, false, false, false, false, false, false, false, false] rfl rfl (by kernel_rfl) (fun _ _ _ h => h) (Or.inl ⟨by rfl, ?_⟩) ?_ ?_
        rotate_left
        ·intro w'
         go_simp
         with_reducible rfl
        rotate_left
        ·simp only [Act.put, List.setIfInBounds_toArray, List.set_cons_zero, List.set_cons_succ, i64_w, i32_w]
         rfl
        refine pure_ (i := 4) (N := some 47) (v := ?_) (a' := ?_) #[true, true, true, false, true, false, false, false, false, false, false, false, false, false, false, false, false, false, false, false] rfl rfl (by kernel_rfl) (fun _ _ _ h => h) (Or.inl ⟨by rfl, ?_⟩) ?_ ?_
        rotate_left
        ·intro w'
         go_simp
         with_reducible rfl
        rotate_left
        ·simp only [Act.put, List.setIfInBounds_toArray, List.set_cons_zero, List.set_cons_succ, i64_w, i32_w]
         rfl
        refine pure_ (i := 5) (N := some 48) (v := ?_) (a' := ?_) #[true, true, true, false, true, true, false, false, false, false, false, false, false, false, false, false, false, false, false, false] rfl rfl (by kernel_rfl) (fun _ _ _ h => h) (Or.inl ⟨by rfl, ?_⟩) ?_ ?_
        rotate_left
        ·intro w'
         go_simp
         with_reducible rfl
        rotate_left
        ·simp only [Act.put, List.setIfInBounds_toArray, List.set_cons_zero, List.set_cons_succ, i64_w, i32_w]
         rfl
        refine pure_ (i := 6) (N := some 49) (v := ?_) (a' := ?_) #[true, true, true, false, true, true, true, false, false, false, false, false, false, false, false, false, false, false, false, false] rfl rfl (by kernel_rfl) (fun _ _ _ h => h) (Or.inl ⟨by rfl, ?_⟩) ?_ ?_
        rotate_left
        ·intro w'
         go_simp
         with_reducible rfl
        rotate_left
        ·simp only [Act.put, List.setIfInBounds_toArray, List.set_cons_zero, List.set_cons_succ, i64_w, i32_w]
         rfl
        refine pure_ (i := 8) (N := some 51) (v := ?_) (a' := ?_) #[true, true, true, false, true, true, true, false, true, false, false, false, false, false, false, false, false, false, false, false] rfl rfl (by kernel_rfl) (fun _ _ _ h => h) (Or.inl ⟨by rfl, ?_⟩) ?_ ?_
        rotate_left
        ·intro w'
         go_simp
         with_reducible rfl
        rotate_left
        ·simp only [Act.put, List.setIfInBounds_toArray, List.set_cons_zero, List.set_cons_succ, i64_w, i32_w]
         rfl
        refine pure_ (i := 9) (N := some 52) (v := ?_) (a' := ?_) #[true, true, true, false, true, true, true, false, true, true, false, false, false, false, false, false, false, false, false, false] rfl rfl (by kernel_rfl) (fun _ _ _ h => h) (Or.inl ⟨by rfl, ?_⟩) ?_ ?_
        rotate_left
        ·intro w'
         go_simp
         with_reducible rfl
        rotate_left
        ·simp only [Act.put, List.setIfInBounds_toArray, List.set_cons_zero, List.set_cons_succ, i64_w, i32_w]
         rfl
        refine pure_ (i := 10) (N := some 53) (v := ?_) (a' := ?_) #[true, true, true, false, true, true, true, false, true, true, true, false, false, false, false, false, false, false, false, false] rfl rfl (by kernel_rfl) (fun _ _ _ h => h) (Or.inl ⟨by rfl, ?_⟩) ?_ ?_
        rotate_left
        ·intro w'
         go_simp
         with_reducible rfl
        rotate_left
        ·simp only [Act.put, List.setIfInBounds_toArray, List.set_cons_zero, List.set_cons_succ, i64_w, i32_w]
         rfl
        refine take_ (i := 3) (N := some 46) (v := ?_) (a' := ?_) #[true, true, true, true, true, true, true, false, true, true, true, false, false, false, false, false, false, false, false, false] rfl rfl (by kernel_rfl) (fun _ _ _ h => h) (Or.inl ⟨by rfl, ?_⟩) hHeld ?_ ?_
        rotate_left
        ·rintro w' ⟨s0, s1, s2, s3, s4, s5, s6, s7, s8⟩
         go_simp
         with_reducible rfl
        rotate_left
        ·simp only [Act.put, List.setIfInBounds_toArray, List.set_cons_zero, List.set_cons_succ, i64_w, i32_w]
         rfl
        refine take_ (i := 7) (N := some 50) (v := ?_) (a' := ?_) #[true, true, true, true, true, true, true, true, true, true, true, false, false, false, false, false, false, false, false, false] rfl rfl (by kernel_rfl) (fun _ _ _ h => h) (Or.inl ⟨by rfl, ?_⟩) hHeld ?_ ?_
        rotate_left
        ·rintro w' ⟨s0, s1, s2, s3, s4, s5, s6, s7, s8⟩
         go_simp
         with_reducible rfl
        rotate_left
        ·simp only [Act.put, List.setIfInBounds_toArray, List.set_cons_zero, List.set_cons_succ, i64_w, i32_w]
         rfl
        refine take_ (i := 11) (N := some 54) (v := ?_) (a' := ?_) #[true, true, true, true, true, true, true, true, true, true, true, true, false, false, false, false, false, false, false, false] rfl rfl (by kernel_rfl) (fun _ _ _ h => h) (Or.inl ⟨by rfl, ?_⟩) hHeld ?_ ?_
        rotate_left
        ·rintro w' ⟨s0, s1, s2, s3, s4, s5, s6, s7, s8⟩
         go_simp
         with_reducible rfl
        rotate_left
        ·simp only [Act.put, List.setIfInBounds_toArray, List.set_cons_zero, List.set_cons_succ, i64_w, i32_w]
         rfl
        refine pure_ (i := 12) (N := some 55) (v := ?_) (a' := ?_) #[true, true, true, true, true, true, true, true, true, true, true, true, true, false, false, false, false, false, false, false] rfl rfl (by kernel_rfl) (fun _ _ _ h => h) (Or.inl ⟨by rfl, ?_⟩) ?_ ?_
        rotate_left
        ·intro w'
         go_simp
         with_reducible rfl
        rotate_left
        ·simp only [Act.put, List.setIfInBounds_toArray, List.set_cons_zero, List.set_cons_succ, i64_w, i32_w]
         rfl
        refine pure_ (i := 13) (N := some 56) (v := ?_) (a' := ?_) #[true, true, true, true, true, true, true, true, true, true, true, true, true, true, false, false, false, false, false, false] rfl rfl (by kernel_rfl) (fun _ _ _ h => h) (Or.inl ⟨by rfl, ?_⟩) ?_ ?_
        rotate_left
        ·intro w'
         go_simp
         with_reducible rfl
        rotate_left
        ·simp only [Act.put, List.setIfInBounds_toArray, List.set_cons_zero, List.set_cons_succ, i64_w, i32_w]
         rfl
        refine pure_ (i := 14) (N := some 57) (v := ?_) (a' := ?_) #[true, true, true, true, true, true, true, true, true, true, true, true, true, true, true, false, false, false, false, false] rfl rfl (by kernel_rfl) (fun _ _ _ h => h) (Or.inl ⟨by rfl, ?_⟩) ?_ ?_
        rotate_left
        ·intro w'
         go_simp
         with_reducible rfl
        rotate_left
        ·simp only [Act.put, List.setIfInBounds_toArray, List.set_cons_zero, List.set_cons_succ, i64_w, i32_w]
         rfl
        refine take_ (i := 15) (N := some 58) (v := ?_) (a' := ?_) #[true, true, true, true, true, true, true, true, true, true, true, true, true, true, true, true, false, false, false, false] rfl rfl (by kernel_rfl) (fun _ _ _ h => h) (Or.inl ⟨by rfl, ?_⟩) hHeld ?_ ?_
        rotate_left
        ·rintro w' ⟨s0, s1, s2, s3, s4, s5, s6, s7, s8⟩
         go_simp
         with_reducible rfl
        rotate_left
        ·simp only [Act.put, List.setIfInBounds_toArray, List.set_cons_zero, List.set_cons_succ, i64_w, i32_w]
         rfl
        refine pure_ (i := 16) (N := some 59) (v := ?_) (a' := ?_) #[true, true, true, true, true, true, true, true, true, true, true, true, true, true, true, true, true, false, false, false] rfl rfl (by kernel_rfl) (fun _ _ _ h => h) (Or.inl ⟨by rfl, ?_⟩) ?_ ?_
        rotate_left
        ·intro w'
         go_simp
         with_reducible rfl
        rotate_left
        ·simp only [Act.put, List.setIfInBounds_toArray, List.set_cons_zero, List.set_cons_succ, i64_w, i32_w]
         rfl
        refine take_ (i := 17) (N := some 60) (v := ?_) (a' := ?_) #[true, true, true, true, true, true, true, true, true, true, true, true, true, true, true, true, true, true, false, false] rfl rfl (by kernel_rfl) (fun _ _ _ h => h) (Or.inl ⟨by rfl, ?_⟩) hHeld ?_ ?_
        rotate_left
        ·rintro w' ⟨s0, s1, s2, s3, s4, s5, s6, s7, s8⟩
         go_simp
         with_reducible rfl
        rotate_left
        ·simp only [Act.put, List.setIfInBounds_toArray, List.set_cons_zero, List.set_cons_succ, i64_w, i32_w]
         rfl
        refine one_ (i := 18) (N := some 9) #[true, true, true, true, true, true, true, true, true, true, true, true, true, true, true, true, true, true, true, false] rfl rfl (by kernel_rfl) (by decide) (fun K hK => ?_)
        refine box_step (by rfl) (N := 9) rfl (cs := #[.int .i64 0, .int .i64 0, .slice none 0 0, .string (⟨#[]⟩ : ByteArray), .int .i64 0, .int .i64 0]) (t := 44) ?hr ?_
        case hr => first | (go_simp; done) | (go_simp; rfl)
        intro B9 hB9 w5 hbx9 hb9
        have HB9 := Aside0.mk (Nat.le_of_eq hB9.symm)
        have HBX9 := Aside0.mk hbx9
        have HB5 := Aside0.mk (below_step ((Below.refl _ wr).drew) hb9)
        clear hB9
        have hcz9_0 := (blk_cell hbx9 0)
        have hcz9_1 := (blk_cell hbx9 1)
        have hcz9_2 := (blk_cell hbx9 2)
        have hcz9_3 := (blk_cell hbx9 3)
        have hcz9_4 := (blk_cell hbx9 4)
        have hcz9_5 := (blk_cell hbx9 5)
        have hfz9_0 := blk_frozen hbx9 0
        have hfz9_1 := blk_frozen hbx9 1
        have hfz9_2 := blk_frozen hbx9 2
        have hfz9_3 := blk_frozen hbx9 3
        have hfz9_4 := blk_frozen hbx9 4
        have hfz9_5 := blk_frozen hbx9 5
        simp only [List.getElem?_toArray, List.getElem?_cons_zero, List.getElem?_cons_succ] at hcz9_0 hcz9_1 hcz9_2 hcz9_3 hcz9_4 hcz9_5
        refine hK.out _ _ ⟨(hb9.cell (World.block_lt_of_cell? wr _ c0)).trans c0, (hb9.cell (World.block_lt_of_cell? wr _ c2)).trans c2, (hb9.cell (World.block_lt_of_cell? wr _ hst)).trans hst, (hb9.cell (World.block_lt_of_cell? wr _ f0)).trans f0, (hb9.cell (World.block_lt_of_cell? wr _ f1)).trans f1, (hb9.cell (World.block_lt_of_cell? wr _ f2)).trans f2, (hb9.cell (World.block_lt_of_cell? wr _ f3)).trans f3, (hb9.cell (World.block_lt_of_cell? wr _ f4)).trans f4, (hb9.cell (World.block_lt_of_cell? wr _ f5)).trans f5⟩ (fun hHeld => ?_)
        clear hK K
        refine norm_ (a' := ?_) ?_ ?_
        rotate_left
        ·show Act.put _ (some 9) _ = _
         simp only [Act.put, List.setIfInBounds_toArray, List.set_cons_zero, List.set_cons_succ, i64_w, i32_w]
         rfl
        refine last_ (i := 19) (N := none) #[true, true, true, true, true, true, true, true, true, true, true, true, true, true, true, true, true, true, true, true] rfl rfl (by kernel_rfl) (by decide) (fun K hK => ?_)
        refine skip_ (w1 := ?_) (by rfl) rfl ?_ ?_
        rotate_left
        ·go_simp
         rfl
        refine hK.out _ _ ?_
        clear hK K
        refine done_ (by kernel_rfl) ?_
        have HB6 : Aside0 (Below wr.heap.size wr ((((((w5.setCell ⟨B9, 0, none⟩ (.int .i64 ob.f0)).setCell ⟨B9, 1, none⟩ (.int .i64 ob.f1)).setCell ⟨B9, 2, none⟩ (.slice A2 ob.f2.length cc2)).setCell ⟨B9, 3, none⟩ (.string ob.f3)).setCell ⟨B9, 4, none⟩ (.int .i64 ob.f4)).setCell ⟨B9, 5, none⟩ (.int .i64 ob.f5))) := ⟨by
         refine below_set (below_set (below_set (below_set (below_set (below_set ?_ HB9.out) HB9.out) HB9.out) HB9.out) HB9.out) HB9.out
         exact HB5.out⟩
        have HBX6 : Aside0 ((((((((w5.setCell ⟨B9, 0, none⟩ (.int .i64 ob.f0)).setCell ⟨B9, 1, none⟩ (.int .i64 ob.f1)).setCell ⟨B9, 2, none⟩ (.slice A2 ob.f2.length cc2)).setCell ⟨B9, 3, none⟩ (.string ob.f3)).setCell ⟨B9, 4, none⟩ (.int .i64 ob.f4)).setCell ⟨B9, 5, none⟩ (.int .i64 ob.f5))).heap[B9]? = some (.cells #[.int .i64 ob.f0, .int .i64 ob.f1, .slice A2 ob.f2.length cc2, .string ob.f3, .int .i64 ob.f4, .int .i64 ob.f5] 44 (0, 0))) := ⟨by
         exact blk_put (blk_put (blk_put (blk_put (blk_put (blk_put HBX9.out 0 _ rfl) 1 _ rfl) 2 _ rfl) 3 _ rfl) 4 _ rfl) 5 _ rfl⟩
        generalize ((((((w5.setCell ⟨B9, 0, none⟩ (.int .i64 ob.f0)).setCell ⟨B9, 1, none⟩ (.int .i64 ob.f1)).setCell ⟨B9, 2, none⟩ (.slice A2 ob.f2.length cc2)).setCell ⟨B9, 3, none⟩ (.string ob.f3)).setCell ⟨B9, 4, none⟩ (.int .i64 ob.f4)).setCell ⟨B9, 5, none⟩ (.int .i64 ob.f5)) = w6 at HB6 HBX6 ⊢
        have hM6 := MarkS.below HS0.out HB6.out
        have HM6 := Aside0.mk hM6
        have d2 : w6.cell? ⟨G, 2, none⟩ = some (.slice (some ads) (s'.length + 1) cS) := by
         have := (blk_cell hM6.2.1 2).trans rfl
         rw [List.length_append, List.length_singleton] at this
         exact this
        have g2 := blk_frozen hM6.2.1 2
        clear hM6 hcz9_0 hcz9_1 hcz9_2 hcz9_3 hcz9_4 hcz9_5 hfz9_0 hfz9_1 hfz9_2 hfz9_3 hfz9_4 hfz9_5 hbx9 hb9 HBX9 HB5 c0 c1 c2 f0 f1 f2 f3 f4 f5 hst
        try clear hHeld
        go_wp2
        refine start_ (n := 15) (S := fun w' => w'.cell? ⟨G, 2, none⟩ = some (.slice (some ads) (s'.length + 1) cS)) (ds := [14]) #[false, false, false, false, false, false, false, false, false, false, false, false, false, false, false] (by kernel_rfl) rfl rfl (d2) (fun hHeld => ?_)
        refine pure_ (i := 0) (N := some 61) (v := ?_) (a' := ?_) #[true, false, false, false, false, false, false, false, false, false, false, false, false, false, false] rfl rfl (by kernel_rfl) (fun _ _ _ h => h) (Or.inl ⟨by rfl, ?_⟩) ?_ ?_
        rotate_left
        ·intro w'
         go_simp
         with_reducible rfl
        rotate_left
        ·simp only [Act.put, List.setIfInBounds_toArray, List.set_cons_zero, List.set_cons_succ, i64_w, i32_w]
         rfl
        refine pure_ (i := 1) (N := some 62) (v := ?_) (a' := ?_) #[true, true, false, false, false, false, false, false, false, false, false, false, false, false, false] rfl rfl (by kernel_rfl) (fun _ _ _ h => h) (Or.inl ⟨by rfl, ?_⟩) ?_ ?_
        rotate_left
        ·intro w'
         go_simp
         with_reducible rfl
        rotate_left
        ·simp only [Act.put, List.setIfInBounds_toArray, List.set_cons_zero, List.set_cons_succ, i64_w, i32_w]
         rfl
        refine pure_ (i := 2) (N := some 63) (v := ?_) (a' := ?_) #[true, true, true, false, false, false, false, false, false, false, false, false, false, false, false] rfl rfl (by kernel_rfl) (fun _ _ _ h => h) (Or.inl ⟨by rfl, ?_⟩) ?_ ?_
        rotate_left
        ·intro w'
         go_simp
         with_reducible rfl
        rotate_left
        ·simp only [Act.put, List.setIfInBounds_toArray, List.set_cons_zero, List.set_cons_succ, i64_w, i32_w]
         rfl
        refine pure_ (i := 3) (N := some 64) (v := ?_) (a' := ?_) #[true, true, true, true, false, false, false, false, false, false, false, false, false, false, false] rfl rfl (by kernel_rfl) (fun _ _ _ h => h) (Or.inl ⟨by rfl, ?_⟩) ?_ ?_
        rotate_left
        ·intro w'
         go_simp
         with_reducible rfl
        rotate_left
        ·simp only [Act.put, List.setIfInBounds_toArray, List.set_cons_zero, List.set_cons_succ, i64_w, i32_w]
         rfl
        refine pure_ (i := 5) (N := some 66) (v := ?_) (a' := ?_) #[true, true, true, true, false, true, false, false, false, false, false, false, false, false, false] rfl rfl (by kernel_rfl) (fun _ _ _ h => h) (Or.inl ⟨by rfl, ?_⟩) ?_ ?_
        rotate_left
        ·intro w'
         go_simp
         with_reducible rfl
        rotate_left
        ·simp only [Act.put, List.setIfInBounds_toArray, List.set_cons_zero, List.set_cons_succ, i64_w, i32_w]
         rfl
        refine pure_ (i := 6) (N := some 67) (v := ?_) (a' := ?_) #[true, true, true, true, false, true, true, false, false, false, false, false, false, false, false] rfl rfl (by kernel_rfl) (fun _ _ _ h => h) (Or.inl ⟨by rfl, ?_⟩) ?_ ?_
        rotate_left
        ·intro w'
         go_simp
         with_reducible rfl
        rotate_left
        ·simp only [Act.put, List.setIfInBounds_toArray, List.set_cons_zero, List.set_cons_succ, i64_w, i32_w]
         rfl
        refine pure_ (i := 7) (N := some 68) (v := ?_) (a' := ?_) #[true, true, true, true, false, true, true, true, false, false, false, false, false, false, false] rfl rfl (by kernel_rfl) (fun _ _ _ h => h) (Or.inl ⟨by rfl, ?_⟩) ?_ ?_
        rotate_left
        ·intro w'
         go_simp
         with_reducible rfl
        rotate_left
        ·simp only [Act.put, List.setIfInBounds_toArray, List.set_cons_zero, List.set_cons_succ, i64_w, i32_w]
         rfl
        refine take_ (i := 4) (N := some 65) (v := ?_) (a' := ?_) #[true, true, true, true, true, true, true, true, false, false, false, false, false, false, false] rfl rfl (by kernel_rfl) (fun _ _ _ h => h) (Or.inl ⟨by rfl, ?_⟩) hHeld ?_ ?_
        rotate_left
        ·intro w' s0
         go_simp
         with_reducible rfl
        rotate_left
        ·simp only [Act.put, List.setIfInBounds_toArray, List.set_cons_zero, List.set_cons_succ, i64_w, i32_w]
         rfl
        refine take_ (i := 8) (N := some 69) (v := ?_) (a' := ?_) #[true, true, true, true, true, true, true, true, true, false, false, false, false, false, false] rfl rfl (by kernel_rfl) (fun _ _ _ h => h) (Or.inl ⟨by rfl, ?_⟩) hHeld ?_ ?_
        rotate_left
        ·intro w' s0
         go_simp
         with_reducible rfl
        rotate_left
        ·simp only [Act.put, List.setIfInBounds_toArray, List.set_cons_zero, List.set_cons_succ, i64_w, i32_w]
         rfl
        refine pure_ (i := 9) (N := some 70) (v := ?_) (a' := ?_) #[true, true, true, true, true, true, true, true, true, true, false, false, false, false, false] rfl rfl (by kernel_rfl) (fun _ _ _ h => h) (Or.inl ⟨by rfl, ?_⟩) ?_ ?_
        rotate_left
        ·intro w'
         go_simp
         with_reducible rfl
        rotate_left
        ·simp only [Act.put, List.setIfInBounds_toArray, List.set_cons_zero, List.set_cons_succ, i64_w, i32_w]
         rfl
        refine pure_ (i := 10) (N := some 71) (v := ?_) (a' := ?_) #[true, true, true, true, true, true, true, true, true, true, true, false, false, false, false] rfl rfl (by kernel_rfl) (fun _ _ _ h => h) (Or.inl ⟨by rfl, ?_⟩) ?_ ?_
        rotate_left
        ·intro w'
         go_simp
         with_reducible rfl
        rotate_left
        ·simp only [Act.put, List.setIfInBounds_toArray, List.set_cons_zero, List.set_cons_succ, i64_w, i32_w]
         rfl
        refine pure_ (i := 11) (N := some 72) (v := ?_) (a' := ?_) #[true, true, true, true, true, true, true, true, true, true, true, true, false, false, false] rfl rfl (by kernel_rfl) (fun _ _ _ h => h) (Or.inl ⟨by rfl, ?_⟩) ?_ ?_
        rotate_left
        ·intro w'
         go_simp
         with_reducible rfl
        rotate_left
        ·simp only [Act.put, List.setIfInBounds_toArray, List.set_cons_zero, List.set_cons_succ, i64_w, i32_w]
         rfl
        refine pure_ (i := 12) (N := some 73) (v := ?_) (a' := ?_) #[true, true, true, true, true, true, true, true, true, true, true, true, true, false, false] rfl rfl (by kernel_rfl) (fun _ _ _ h => h) (Or.inl ⟨by rfl, ?_⟩) ?_ ?_
        rotate_left
        ·intro w'
         go_simp
         with_reducible rfl
        rotate_left
        ·simp only [Act.put, List.setIfInBounds_toArray, List.set_cons_zero, List.set_cons_succ, i64_w, i32_w]
         rfl
        refine pure_ (i := 13) (N := some 74) (v := ?_) (a' := ?_) #[true, true, true, true, true, true, true, true, true, true, true, true, true, true, false] rfl rfl (by kernel_rfl) (fun _ _ _ h => h) (Or.inl ⟨by rfl, ?_⟩) ?_ ?_
        rotate_left
        ·intro w'
         go_simp
         with_reducible rfl
        rotate_left
        ·simp only [Act.put, List.setIfInBounds_toArray, List.set_cons_zero, List.set_cons_succ, i64_w, i32_w]
         rfl
        refine last_ (i := 14) (N := none) #[true, true, true, true, true, true, true, true, true, true, true, true, true, true, true] rfl rfl (by kernel_rfl) (by decide) (fun K hK => ?_)
        refine skip_ (w1 := ?_) (by rfl) rfl ?_ ?_
        rotate_left
        ·go_simp
         rfl
        refine hK.out _ _ ?_
        clear hK K
        refine done_ (by kernel_rfl) ?_
        have HM7 : Aside0 (MarkAt w ((w6.setCell ⟨G, 2, none⟩ (.slice (some ads) s'.length cS)).drew) G M (some ad9) c0_0 l0_0 m s') := ⟨some ads, cS, MarkS.below HM6.out.pop ((Below.refl _ _).drew)⟩
        have HB7 : Aside0 (Below w.heap.size w ((w6.setCell ⟨G, 2, none⟩ (.slice (some ads) s'.length cS)).drew)) := ⟨by obtain ⟨_, _, h⟩ := HM7.out; exact h.2.2.2.2⟩
        have hne9 : ¬ (B9 = G) := by
         have := blk_lt HS0.out.2.1
         have h9 : wr.heap.size ≤ B9 := HB9.out
         omega
        have HBX7 : Aside0 (((w6.setCell ⟨G, 2, none⟩ (.slice (some ads) s'.length cS)).drew).heap[B9]? = some (.cells #[.int .i64 ob.f0, .int .i64 ob.f1, .slice A2 ob.f2.length cc2, .string ob.f3, .int .i64 ob.f4, .int .i64 ob.f5] 44 (0, 0))) := ⟨blk_drew (blk_far HBX6.out hne9 _)⟩
        generalize (w6.setCell ⟨G, 2, none⟩ (.slice (some ads) s'.length cS)).drew = w7 at HM7 HB7 HBX7 ⊢
        have k0 : w7.cell? ⟨B9, 0, none⟩ = some (.int .i64 ob.f0) := (blk_cell HBX7.out 0).trans rfl
        have H2 := H1.out
        rw [Option.bind_assoc] at H2
        obtain ⟨r, hp, H3⟩ := Option.bind_eq_some_iff.1 H2
        clear H2 d2 g2 HB6 HBX6 HM6 HS0 HS
        try clear hHeld
        have HCALL := Aside0.mk (push_at w w7 G M (some ad9) c0_0 l0_0 m s' ob.f0 r HM7.out hp)
        have HLEN2 := Aside0.mk ((pushF_len hp).trans HLEN.out)
        have H4 := Aside0.mk H3
        clear H1 H3 hp HLEN
        obtain ⟨b0, m2, s2⟩ := r
        have hbig2 := HC2.out.2.1
        go_wp2_with (go_at_call 41; refine HCALL.out.mono ?_; rintro e w8 ⟨rfl, hS8, hK8⟩; have HS8 := Aside0.mk hS8; have k2 : w8.cell? ⟨B9, 2, none⟩ = some (.slice A2 ob.f2.length cc2) := (blk_cell (hK8 _ _ HBX7.out) 2).trans rfl; clear hS8 hK8)
        clear k2
        go_loopg [82] ob.f2.length (fun gg s82 w' => ∃ (j : Nat) (m : List Bool) (s : List Int), j ≤ ob.f2.length ∧ ob.f2.length - j ≤ gg ∧ s82 = .int .i64 j ∧ Aside0 (((pushAll l0_0.length (ob.f2.drop j) m s).bind fun q => (markLoop l0_0 k1 q.1 q.2).bind liveEnd) = some (r1, r2)) ∧ Aside0 (m.length = l0_0.length) ∧ Aside0 (MarkAt w w' G M (some ad9) c0_0 l0_0 m s))
        case atStart => exact ⟨0, m2, s2, Nat.zero_le _, by omega, rfl, ⟨by have := H4.out; rw [Option.bind_assoc] at this; exact this⟩, HLEN2, HS8⟩
        case round =>
         clear H4 HLEN2 HS8 HCALL HM7 HB7 HBX7 k0 HL2
         obtain ⟨j, m, s, hj, hgg, rfl, H, HLEN, HS⟩ := hrel
         by_cases hlt : j < ob.f2.length
         ·have hltz : (j : Int) < (ob.f2.length : Int) := by omega
          obtain ⟨ad, e, hx⟩ := Kd.at_int HC2.out (j : Int) (by omega) hltz
          cases e
          have HBW : Below w.heap.size w wr := by obtain ⟨_, _, h⟩ := HS.out; exact h.2.2.2.2
          replace hx := (HBW.cell (World.block_lt_of_cell? w _ hx)).trans hx
          rw [Int.toNat_natCast] at hx
          have H0 := H.out
          rw [rd_drop ob.f2 j hlt, pushAll] at H0
          generalize rd ob.f2 (j : Int) = v at hx H0
          cases hp : pushF l0_0.length v m s with
          | none => rw [hp] at H0; cases H0
          | some r =>
           rw [hp] at H0
           have HCALL := Aside0.mk (push_at w wr G M (some ad9) c0_0 l0_0 m s v r HS.out hp)
           have HL2 := Aside0.mk ((pushF_len hp).trans HLEN.out)
           obtain ⟨b, m2, s2⟩ := r
           have H1 := Aside0.mk (show ((pushAll l0_0.length (ob.f2.drop (j + 1)) m2 s2).bind fun q => (markLoop l0_0 k1 q.1 q.2).bind liveEnd) = some (r1, r2) from H0)
           clear H H0 hp HBW
           go_wp2_with (go_at_call 41; refine HCALL.out.mono ?_; rintro e w' ⟨rfl, hS', hK'⟩)
           go_roundg (ob.f2.length - (j + 1))
           case measure => omega
           case rel => exact ⟨j + 1, m2, s2, by omega, by omega, by go_num, H1, HL2, ⟨hS'⟩⟩
         ·have hjn : j = ob.f2.length := by omega
          subst hjn
          have H0 := H.out
          rw [List.drop_length, pushAll] at H0
          have H1 := Aside0.mk (show (markLoop l0_0 k1 m s).bind liveEnd = some (r1, r2) from H0)
          clear H H0 hlt hgg hj
          go_wp2
          go_roundg k1
          case measure => omega
          case rel => exact ⟨m, s, H1, HLEN, HS⟩
       ·rw [if_neg hi1] at H0
        cases H0
      ·rw [if_neg hi0] at H0
       cases H0
theorem mark_Live.calls (A0_0 : Option Addr) (c0_0 : Nat) (l0_0 : List (S44)) (a0_1 : Int) (a0_2 : Int) (A1 : Option Addr) (c1 : Nat) (l1 : List Int) (r1 : List Int) (r2 : Int) (w : World) (hr0_0 : Kd.C k44 w A0_0 l0_0.length l0_0) (hc0_0 : l0_0.length ≤ c0_0) (hr1 : Kd.C (Kd.int .i64) w A1 l1.length l1) (hc1 : l1.length ≤ c1) (h : mark_Live.f l0_0 a0_1 a0_2 l1 = some (r1, r2)) :
  Calls Try.prog 26 #[.agg #[.slice A0_0 l0_0.length c0_0, .int .i64 a0_1, .int .i64 a0_2], .slice A1 l1.length c1] w fun e w' => ∃ v0_ : Value, e = .returned (.tuple #[v0_, .int .i64 r2]) ∧ Kd.R (Kd.int .i64) 3 w' w.heap.size (fun _ => True) v0_ r1 ∧ Below w.heap.size w w' :=
 mark_Live.walk A0_0 c0_0 l0_0 a0_1 a0_2 A1 c1 l1 r1 r2 w hr0_0 hc0_0 hr1 hc1 h
end Go.Proofs.Ytlmejfcfdhinlaa.PMove
