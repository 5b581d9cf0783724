import Derived.Test.YtednpcfhefibdaaSaySnapSums
import Derived.Test.YtednpcfhefibdaaPureH
namespace Go.Proofs.Ytednpcfhefibdaa.PSnap
open Go.RowKit Go.Proofs.YtednpcfhefibdaaW.PrintWords Go.Proofs.YtednpcfhefibdaaW.PrintLast Go.Proofs.YtednpcfhefibdaaW.PrintMore
set_option linter.unusedVariables false
set_option linter.unusedSimpArgs false
def chg (L : List UInt8) (i : Nat) (c : UInt8) : List UInt8 := L.take i ++ c :: L.drop (i + 1)
theorem chg_len {L : List UInt8} {i : Nat} (c : UInt8) (h : i < L.length) : (chg L i c).length = L.length := by
 unfold chg
 rw [List.length_append, List.length_cons, List.length_take, List.length_drop]
 omega
theorem bt_ofL {l : List UInt8} {i : Nat} (h : i < l.length) : bt (ofL l) (i : Int) = ((l[i].toNat : Nat) : Int) := by
 unfold bt
 rw [dif_pos (by rw [Int.toNat_natCast, ofL_size]; exact h)]
 simp only [Int.toNat_natCast]
 rfl
theorem ext_tail (L T : List UInt8) {i : Nat} (h : i + 1 ≤ L.length) (hT : T.length = 4) : (ofL (L ++ T)).extract (i + 1) (L.length + 4) = ofL (L.drop (i + 1) ++ T) := by
 have h2 : (L.drop (i + 1) ++ T).length ≤ L.length + 4 - (i + 1) := by rw [List.length_append, List.length_drop]; omega
 rw [ofL_ext, List.drop_append_of_le_length h, List.take_of_length_le h2]
theorem str_one (m : Int) : strOfNums [m] = ofL [UInt8.ofNat m.toNat] := rfl
theorem sums_j1 (k : Nat) (L T : List UInt8) (i d : Nat) (objs : List S41) (c q : Int) (hi : i < L.length) (hT : T.length = 4) (hL : L.length ≤ 200000) (hd : d < 256) :
  anamnesislaw08_SnapSums.j1 (k + 1) (i : Int) (d : Int) (ofL (L ++ T)) false objs c q =
  (snap_Decode.f k (ofL (chg L i (UInt8.ofNat (L[i].toNat ^^^ d)) ++ T))).bind fun b => (anamnesisref07_Of.f k (ofL (chg L i (UInt8.ofNat (L[i].toNat ^^^ d))))).bind fun s => (anamnesisref07_Bytes.f s).bind fun y =>
   if (ofL (chg L i (UInt8.ofNat (L[i].toNat ^^^ d)))).size + y.size ≤ 9223372036854775807 then
    (snap_Decode.f k (ofL (chg L i (UInt8.ofNat (L[i].toNat ^^^ d))) ++ y)).bind fun g => if b.2.2.2.2 = 81 then (if g.2.2.2.2 = 82 then some true else (if g.2.2.2.2 = 0 then (if (g.2.2.2.1.length : Int) > 0 then some true else ((anamnesisref03_Same.f k g.1 g.2.1 g.2.2.1 objs c q).bind fun t => some (!t))) else none)) else none
   else none := by
 have hlen := chg_len (UInt8.ofNat (L[i].toNat ^^^ d)) hi
 have g0 : i < (L ++ T).length := by rw [List.length_append]; omega
 have g1 : i ≤ L.length := by omega
 have g2 : i + 1 ≤ L.length := by omega
 have g3 : (0 : Int) ≤ (i : Int) := by omega
 have g4 : (i : Int) ≤ ((L.length + 4 : Nat) : Int) := by omega
 have g5 : (i : Int) < ((L.length + 4 : Nat) : Int) := by omega
 have g6 : (0 : Int) ≤ ((i + 1 : Nat) : Int) := by omega
 have g7 : ((i + 1 : Nat) : Int) ≤ ((L.length + 4 : Nat) : Int) := by omega
 have g8 : (0 : Int) ≤ (L.length : Int) := by omega
 have g9 : (L.length : Int) ≤ ((L.length + 4 : Nat) : Int) := by omega
 have g10 : i < 9223372036854775807 := by omega
 have g11 : min i L.length + 1 ≤ 9223372036854775807 := by omega
 have g12 : min i L.length + 1 + (L.length - (i + 1) + 4) ≤ 9223372036854775807 := by omega
 have g13 : (d : Int) % 256 = (d : Int) := by omega
 have e9 : wrap64 (((L.length + 4 : Nat) : Int) - 4) = (L.length : Int) := by rw [w64 (by omega) (by omega)]; omega
 have hLi : (L ++ T)[i]'g0 = L[i] := List.getElem_append_left hi
 have e0 : (ofL (L ++ T)).size = L.length + 4 := by rw [ofL_size, List.length_append, hT]
 have e1 : (ofL (L ++ T)).extract 0 i = ofL (L.take i) := by
  rw [ofL_ext, List.drop_zero, Nat.sub_zero, List.take_append_of_le_length g1]
 have e2 : bt (ofL (L ++ T)) (i : Int) = ((L[i].toNat : Nat) : Int) := by rw [bt_ofL g0, hLi]
 have e3 : Go.bits .xor .u8 ((L[i].toNat : Nat) : Int) ((d : Int) % 256) = ((L[i].toNat ^^^ d : Nat) : Int) := by
  rw [g13, xor_u8 _ _ (UInt8.toNat_lt _) hd]
 have e4 : strOfNums [((L[i].toNat ^^^ d : Nat) : Int)] = ofL [UInt8.ofNat (L[i].toNat ^^^ d)] := by rw [str_one, Int.toNat_natCast]
 have e5 : wrap64 ((i : Int) + 1) = ((i + 1 : Nat) : Int) := w64_succ g10
 have e6 : (ofL (L ++ T)).extract (i + 1) (L.length + 4) = ofL (L.drop (i + 1) ++ T) := ext_tail L T g2 hT
 generalize UInt8.ofNat (L[i].toNat ^^^ d) = z at *
 have e7 : (ofL (L.take i) ++ ofL [z]) ++ ofL (L.drop (i + 1) ++ T) = ofL (chg L i z ++ T) := by
  rw [← ofL_app, ← ofL_app]
  unfold chg
  simp
 have e8 : (ofL (chg L i z ++ T)).size = L.length + 4 := by rw [ofL_size, List.length_append, hT, hlen]
 have e10 : (ofL (chg L i z ++ T)).extract 0 L.length = ofL (chg L i z) := ofL_left _ _ hlen.symm
 have e11 : (ofL (L.take i)).size + (ofL [z]).size ≤ 9223372036854775807 := by
  rw [ofL_size, ofL_size, List.length_take]; exact g11
 have e12 : (ofL (L.take i) ++ ofL [z]).size + (ofL (L.drop (i + 1) ++ T)).size ≤ 9223372036854775807 := by
  rw [← ofL_app, ofL_size, ofL_size, List.length_append, List.length_append, List.length_take, List.length_drop, hT]; exact g12
 rw [anamnesislaw08_SnapSums.j1]
 rw [if_neg Bool.false_ne_true, e0, if_pos g3, if_pos g4, if_pos g5, e2, e3, Option.bind_some, Int.toNat_natCast, e1, e4, if_pos e11, e5, if_pos g6, if_pos g7, Int.toNat_natCast, e6, if_pos e12, e7]
 congr 1
 funext b
 rw [e8, e9, if_pos g8, if_pos g9, Int.toNat_natCast, e10]
theorem dec_bad (M T : List UInt8) (hT : T.length = 4) (h : 23 ≤ M.length + 4) (hs : ¬ sumL (ofL M) = T) : (decS (ofL (M ++ T))).2.2.2.2 = 81 := by
 have h1 : (ofL (M ++ T)).size = M.length + 4 := by rw [ofL_size, List.length_append, hT]
 have h2 : textOf (ofL (M ++ T)) = ofL M := by
  unfold textOf
  rw [h1, ofL_left _ _ (by omega)]
 have h3 : (tailOf (ofL (M ++ T))).data.toList = T := by
  unfold tailOf
  have h4 : (ofL (M ++ T)).size - 4 = M.length := by omega
  rw [h4, ofL_right _ _ rfl]
  simp [ofL]
 unfold decS
 rw [if_neg (by omega), h2, h3, if_neg (by simpa [sumB] using hs)]
theorem dec_good (M : List UInt8) (h : 23 ≤ M.length + 4) : (decS (ofL M ++ sumB (ofL M))).2.2.2.2 = 82 ∨ (decS (ofL M ++ sumB (ofL M))).2.2.2.2 = 0 := by
 have e : ofL M ++ sumB (ofL M) = ofL (M ++ sumL (ofL M)) := by rw [ofL_app]; rfl
 rw [e]
 have hT : (sumL (ofL M)).length = 4 := rfl
 have h1 : (ofL (M ++ sumL (ofL M))).size = M.length + 4 := by rw [ofL_size, List.length_append, hT]
 have h2 : textOf (ofL (M ++ sumL (ofL M))) = ofL M := by
  unfold textOf
  rw [h1, ofL_left _ _ (by omega)]
 have h3 : (tailOf (ofL (M ++ sumL (ofL M)))).data.toList = sumL (ofL M) := by
  unfold tailOf
  have h4 : (ofL (M ++ sumL (ofL M))).size - 4 = M.length := by omega
  rw [h4, ofL_right _ _ rfl]
  simp [ofL]
 unfold decS
 rw [if_neg (by omega), h2, h3, if_pos (by simp [sumB])]
 split
 ·split
  ·exact .inr rfl
  ·exact .inl rfl
 ·exact .inl rfl
theorem sums_go (objs : List S41) (c q : Int) (i d : Nat) (hn : objs.length ≤ 17592186044416) (hx : ∀ x ∈ objs, FineObj x) (h : mayR objs c q [] = true) (hi : i < (encA objs c q []).data.toList.length) (hd : 0 < d) (hd2 : d < 256) :
  Ev (fun k => anamnesislaw08_SnapSums.j1 k (i : Int) (d : Int) (encS objs c q []) false objs c q) true := by
 have e1 : encS objs c q [] = ofL ((encA objs c q []).data.toList ++ sumL (encA objs c q [])) := by
  unfold encS
  rw [if_pos h, ofL_app]
  rfl
 obtain ⟨hs, hs2, _⟩ := encS_size h
 rw [e1, ofL_size, List.length_append, List.length_nil] at hs
 have hT : (sumL (encA objs c q [])).length = 4 := rfl
 have hLA : ofL (encA objs c q []).data.toList = encA objs c q [] := BA_ext (by simp [ofL])
 apply ev_succ
 rw [e1]
 generalize hT' : sumL (encA objs c q []) = T at *
 generalize hL' : (encA objs c q []).data.toList = L at *
 have hne : ¬ UInt8.ofNat (L[i].toNat ^^^ d) = L[i] := fun e => by
  have h1 := congrArg UInt8.toNat e
  have h2 : L[i].toNat ^^^ d < 256 := Nat.xor_lt_two_pow (n := 8) (UInt8.toNat_lt _) hd2
  rw [UInt8.toNat_ofNat', Nat.mod_eq_of_lt h2] at h1
  have h3 : d = 0 := by
   have h4 : d ^^^ L[i].toNat = 0 ^^^ L[i].toNat := by rw [Nat.xor_comm, h1, Nat.zero_xor]
   exact xor_cancel h4
  omega
 have hE := fun k => sums_j1 k L T i d objs c q hi hT (by omega) hd2
 have hlen := chg_len (UInt8.ofNat (L[i].toNat ^^^ d)) hi
 have hself : chg L i L[i] = L := by
  unfold chg
  rw [← List.drop_eq_getElem_cons hi, List.take_append_drop]
 generalize UInt8.ofNat (L[i].toNat ^^^ d) = b at *
 generalize hM : chg L i b = M at *
 have hF := hE
 have g1 : 23 ≤ M.length + 4 := by omega
 have g2 : M.length ≤ 17592186044000 := by omega
 clear hE hs hs2 hd hd2
 have hMdata : (ofL M).data.toList = M := by simp [ofL]
 have hcrc : ¬ crcN M = crcN L := fun e => by
  have e2 : crcN (chg L i b) = crcN (chg L i L[i]) := by rw [hM, hself]; exact e
  exact hne (crcN_ne e2)
 have hML : ¬ M = L := fun e => hcrc (by rw [e])
 have hsum : ¬ sumL (ofL M) = T := fun e => by
  rw [← hT'] at e
  have := sumL_inj e
  rw [hMdata, hL'] at this
  exact hcrc this
 have hbad := dec_bad M T hT g1 hsum
 have hgood := dec_good M g1
 have hd1 := Decode_ev (ofL (M ++ T)) (by rw [ofL_size, List.length_append]; omega)
 have hd2' := Decode_ev (ofL M ++ sumB (ofL M)) (by rw [ByteArray.size_append, sumB_size, ofL_size]; omega)
 have hof := rOf_ev (ofL M) (by rw [ofL_size]; omega)
 have hby := rBytes_eq (ofL M)
 have hsz : (ofL M).size + (sumB (ofL M)).size ≤ 9223372036854775807 := by rw [ofL_size, sumB_size]; omega
 have hun : ¬ ofL (L ++ T) = ofL M ++ sumB (ofL M) := fun e => by
  have h1 : ofL M ++ sumB (ofL M) = ofL (M ++ sumL (ofL M)) := by rw [ofL_app]; rfl
  rw [h1] at e
  have h2 := congrArg (fun s => s.data.toList) e
  simp only [ofL] at h2
  have h3 := List.append_inj_left h2 (by omega)
  exact hML h3.symm
 simp only [hF]
 refine Ev.bind hd1 (Ev.bind hof ?_)
 simp only [hby, Option.bind_some, if_pos hsz]
 refine Ev.bind hd2' ?_
 simp only [hbad, if_true]
 rcases decS_cases (ofL M ++ sumB (ofL M)) with ⟨o, c2, q2, r2, h3, h4, h5, h6⟩ | ⟨e, h3, h4⟩
 ·obtain ⟨h7, h8, h9⟩ := fine_of h4 h5
  rw [h3]
  simp only [show ¬ ((0 : Int) = 82) by decide, if_false, if_true]
  cases r2 with
  | cons v r2 =>
   simp only [List.length_cons, if_pos (show (((r2.length + 1 : Nat) : Int) > 0) by omega)]
   exact Ev.now _
  | nil =>
   simp only [List.length_nil, if_neg (show ¬ (((0 : Nat) : Int) > 0) by omega)]
   obtain ⟨r, hr, hr2⟩ := Same_evG o objs c2 q2 c q (by omega) (fun x hm => (h9 x hm).1.2.1)
   refine Ev.bind hr ?_
   cases r
   ·exact Ev.now _
   ·obtain ⟨rfl, rfl, rfl⟩ := hr2 rfl
    exact absurd (e1.symm.trans h6) hun
 ·rw [h4] at hgood ⊢
  rcases hgood with h | h
  ·simp only at h
   simp only [h, if_true]
   exact Ev.now _
  ·exact absurd h h3
end Go.Proofs.Ytednpcfhefibdaa.PSnap
namespace Go.Proofs.Ytednpcfhefibdaa.Pure
open Go.RowKit Go.Proofs.YtednpcfhefibdaaW.PrintWords Go.Proofs.Ytednpcfhefibdaa.PSnap
theorem SnapSums : anamnesislaw08_SnapSums.Pure := by
 intro objs c q at_ d h0 h1 h2
 obtain ⟨hn, hx⟩ := Ok24_fine h0
 have hb : Ev (fun k => anamnesislaw08_SnapSums.j0 k at_ d true objs c q) true := by
  apply ev_succ
  simp only [anamnesislaw08_SnapSums.j0, if_true]
  exact Ev.bind fixed_ev (Ev.now _)
 have hgo : mayB objs c q = true → 1 ≤ d → d ≤ 255 → Ev (fun k => anamnesislaw08_SnapSums.j0 k at_ d false objs c q) true := fun hm hd hd2 => by
  have hr : mayR objs c q [] = true := by unfold mayR; rw [hm]; rfl
  obtain ⟨hs, hs2, _⟩ := encS_size hr
  have hl : (encS objs c q []).size = (encA objs c q []).data.toList.length + 4 := by
   unfold encS
   rw [if_pos hr, ByteArray.size_append, sumB_size]
   simp
  rw [List.length_nil] at hs
  have hend : Ev (fun k => anamnesislaw08_SnapSums.j1 k at_ d (encS objs c q []) true objs c q) true := by
   apply ev_succ
   simp only [anamnesislaw08_SnapSums.j1, if_true]
   exact Ev.now _
  apply ev_succ
  simp only [anamnesislaw08_SnapSums.j0, Bool.false_eq_true, if_false]
  refine Ev.bind (Encode_ev objs c q []) ?_
  by_cases h3 : at_ < 0
  ·simp only [if_pos h3]; exact hend
  ·simp only [if_neg h3]
   have e : wrap64 (((encS objs c q []).size : Int) - 4) = ((encS objs c q []).size : Int) - 4 := w64 (by omega) (by omega)
   rw [e]
   by_cases h4 : at_ ≥ ((encS objs c q []).size : Int) - 4
   ·simp only [decide_eq_true h4]; exact hend
   ·simp only [decide_eq_false h4]
    clear e
    obtain ⟨i, rfl⟩ : ∃ i : Nat, at_ = (i : Int) := ⟨at_.toNat, by omega⟩
    obtain ⟨d', rfl⟩ : ∃ d' : Nat, d = (d' : Int) := ⟨d.toNat, by omega⟩
    exact sums_go objs c q i d' hn hx hr (by omega) (by omega) (by omega)
 refine Ev.rounds (g := fun k => anamnesislaw08_SnapSums.f k objs c q at_ d) ?_
 unfold anamnesislaw08_SnapSums.f
 refine Ev.bind fixed_ev ?_
 simp only [if_true]
 obtain ⟨b, h3, _⟩ := Small_ev objs c q hn hx
 refine Ev.bind h3 ?_
 cases b
 ·simp only [Bool.false_eq_true, if_false]; exact hb
 ·simp only [if_true]
  refine Ev.bind (May_ev objs c q hn hx) ?_
  cases hm : mayB objs c q
  ·simp only [Bool.false_eq_true, if_false]; exact hb
  ·simp only [if_true]
   by_cases h5 : d < 1
   ·simp only [if_pos h5]; exact hb
   ·simp only [if_neg h5]
    by_cases h6 : d > 255
    ·simp only [decide_eq_true h6]; exact hb
    ·simp only [decide_eq_false h6]; exact hgo hm (by omega) (by omega)
end Go.Proofs.Ytednpcfhefibdaa.Pure
