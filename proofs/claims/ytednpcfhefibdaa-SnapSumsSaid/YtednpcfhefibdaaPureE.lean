import Derived.Test.YtednpcfhefibdaaPureF
namespace Go.Proofs.Ytednpcfhefibdaa.PSnap
open Go.RowKit Go.Proofs.YtednpcfhefibdaaW.PrintWords Go.Proofs.YtednpcfhefibdaaW.PrintLast Go.Proofs.YtednpcfhefibdaaW.PrintMore
set_option linter.unusedVariables false
set_option linter.unusedSimpArgs false
def textOf (s : ByteArray) : ByteArray := s.extract 0 (s.size - 4)
def tailOf (s : ByteArray) : ByteArray := s.extract (s.size - 4) s.size
def decS (s : ByteArray) : List S41 × Int × Int × List Int × Int :=
 if s.size < 23 then ([], 0, 0, [], 80)
 else if (sumB (textOf s)).data.toList = (tailOf s).data.toList then
  (match readR (textOf s) with
  | some r => if (encS r.1 r.2.1 r.2.2.1 r.2.2.2).data.toList = s.data.toList then (r.1, r.2.1, r.2.2.1, r.2.2.2, 0) else ([], 0, 0, [], 82)
  | none => ([], 0, 0, [], 82))
 else ([], 0, 0, [], 81)
theorem BA_eq {a b : ByteArray} : a.toList = b.toList ↔ a.data.toList = b.data.toList := by rw [BA_toList, BA_toList]
theorem BA_ext {a b : ByteArray} (h : a.data.toList = b.data.toList) : a = b := by
 have : a.data = b.data := Array.toList_inj.1 h
 cases a; cases b; simp_all
theorem Decode_eq (s : ByteArray) (hs : s.size ≤ 17592186044416) (h0 : ¬ s.size < 23) (k : Nat) : snap_Decode.f k s =
  (if (sumB (textOf s)).toList = (tailOf s).toList then (match readR (textOf s) with
   | some r => (snap_Encode.f k r.1 r.2.1 r.2.2.1 r.2.2.2).bind fun t => if t.toList = s.toList then some (r.1, r.2.1, r.2.2.1, r.2.2.2, (0 : Int)) else some (([] : List S41), (0 : Int), (0 : Int), ([] : List Int), (82 : Int))
   | none => some (([] : List S41), (0 : Int), (0 : Int), ([] : List Int), (82 : Int))) else some (([] : List S41), (0 : Int), (0 : Int), ([] : List Int), (81 : Int)) : Option (List S41 × Int × Int × List Int × Int)) := by
 have e1 : wrap64 ((s.size : Int) - 4) = (s.size : Int) - 4 := w64 (by omega) (by omega)
 have e2 : ((s.size : Int) - 4).toNat = s.size - 4 := by omega
 have e3 : s.extract 0 (s.size - 4) = textOf s := rfl
 have e4 : s.extract (s.size - 4) s.size = tailOf s := rfl
 have ht : (textOf s).size ≤ s.size := by unfold textOf; rw [ByteArray.size_extract]; omega
 have h1 := crc_Of_eq (textOf s) (by omega)
 have h2 := crc_Bytes_eq (textOf s)
 unfold snap_Decode.f
 rw [if_neg (show ¬ (s.size : Int) < 23 by omega), e1, if_pos (show (0 : Int) ≤ (s.size : Int) - 4 by omega), if_pos (show (s.size : Int) - 4 ≤ (s.size : Int) by omega), e2, e3, e4, h1, Option.bind_some, h2, Option.bind_some]
 unfold snap_read.f
 rw [if_pos (show (textOf s).size ≤ 17592186044416 by omega), Option.bind_some]
 cases readR (textOf s) with
 | none => rfl
 | some r => rfl
theorem Decode_ev (s : ByteArray) (hs : s.size ≤ 17592186044416) : Ev (fun k => snap_Decode.f k s) (decS s) := by
 by_cases h0 : s.size < 23
 ·refine ⟨0, fun k _ => ?_⟩
  show snap_Decode.f k s = _
  unfold snap_Decode.f decS
  rw [if_pos h0, if_pos (show (s.size : Int) < 23 by omega)]
 ·have h1 := Decode_eq s hs h0
  unfold decS
  rw [if_neg h0]
  by_cases h4 : (sumB (textOf s)).data.toList = (tailOf s).data.toList
  ·rw [if_pos h4]
   cases h5 : readR (textOf s) with
   | none =>
    refine ⟨0, fun k _ => ?_⟩
    show snap_Decode.f k s = _
    rw [h1 k, if_pos (BA_eq.2 h4), h5]
   | some r =>
    obtain ⟨K, hK⟩ := Encode_ev r.1 r.2.1 r.2.2.1 r.2.2.2
    refine ⟨K, fun k hk => ?_⟩
    show snap_Decode.f k s = _
    have h6 : snap_Encode.f k r.1 r.2.1 r.2.2.1 r.2.2.2 = some (encS r.1 r.2.1 r.2.2.1 r.2.2.2) := hK k hk
    rw [h1 k, if_pos (BA_eq.2 h4), h5]
    show (snap_Encode.f k r.1 r.2.1 r.2.2.1 r.2.2.2).bind _ = _
    rw [h6, Option.bind_some]
    by_cases h7 : (encS r.1 r.2.1 r.2.2.1 r.2.2.2).data.toList = s.data.toList
    ·rw [if_pos (BA_eq.2 h7)]
     show _ = some (if _ then _ else _)
     rw [if_pos h7]
    ·rw [if_neg (fun h => h7 (BA_eq.1 h))]
     show _ = some (if _ then _ else _)
     rw [if_neg h7]
  ·refine ⟨0, fun k _ => ?_⟩
   show snap_Decode.f k s = _
   rw [h1 k, if_neg (fun h => h4 (BA_eq.1 h)), if_neg h4]
def one1 : List S41 := [(⟨0, 0, ([] : List Int), (⟨#[]⟩ : ByteArray), 0, 1⟩ : S41)]
def s35 : List UInt8 := [65, 78, 49, 3, 0, 0, 0, 0, 0, 0, 0, 1, 0, 0, 0, 0, 0, 0, 0, 0, 0, 0, 0, 1, 0, 0, 0, 0, 0, 0, 0, 0, 0, 0, 0]
theorem sumL_N (s : ByteArray) : sumL s = [UInt8.ofNat (crcN s.data.toList % 256), UInt8.ofNat (crcN s.data.toList / 256 % 256), UInt8.ofNat (crcN s.data.toList / 65536 % 256), UInt8.ofNat (crcN s.data.toList / 16777216 % 256)] := by
 unfold sumL
 rw [crcS_N]
 generalize crcN s.data.toList = n
 rw [show (((n : Nat) : Int) % 256).toNat = n % 256 by omega, show (((n : Nat) : Int) / 256 % 256).toNat = n / 256 % 256 by omega, show (((n : Nat) : Int) / 65536 % 256).toNat = n / 65536 % 256 by omega, show (((n : Nat) : Int) / 16777216 % 256).toNat = n / 16777216 % 256 by omega]
theorem rBytes_eq (s : ByteArray) : anamnesisref07_Bytes.f (crcS 0 s) = some (sumB s) := by
 obtain ⟨h1, h2⟩ := crcS_range 0 s
 have h3 := crc_Bytes_eq s
 unfold crc_Bytes.f crc_may.f at h3
 rw [if_pos h1, decide_eq_true h2, Option.bind_some, if_pos rfl] at h3
 unfold anamnesisref07_Bytes.f anamnesisref07_May.f
 rw [if_pos h1, decide_eq_true (by omega), Option.bind_some, if_pos rfl, ← h3]
 generalize crcS 0 s = n at *
 rw [Int.tmod_eq_emod_of_nonneg (a := n) (by omega), Int.tdiv_eq_ediv_of_nonneg (a := n) (by omega), Int.tdiv_eq_ediv_of_nonneg (a := n) (by omega), Int.tdiv_eq_ediv_of_nonneg (a := n) (by omega), w64 (n := n / 256) (by omega) (by omega), w64 (n := n / 65536) (by omega) (by omega), w64 (n := n / 16777216) (by omega) (by omega), Int.tmod_eq_emod_of_nonneg (a := n / 256) (by omega), Int.tmod_eq_emod_of_nonneg (a := n / 65536) (by omega)]
 rw [show n % 256 % 256 = n % 256 by omega, show n / 256 % 256 % 256 = n / 256 % 256 by omega, show n / 65536 % 256 % 256 = n / 65536 % 256 by omega]
theorem one_enc : encA one1 3 0 [] = ⟨s35.toArray⟩ := by kernel_rfl
theorem one_may : mayR one1 3 0 [] = true := by kernel_rfl
theorem one_no : mayR one1 3 0 [2] = false := by kernel_rfl
theorem nil_no : mayR [] 0 0 [] = false := by kernel_rfl
theorem one_sum : sumB ⟨s35.toArray⟩ = ⟨#[200, 235, 9, 196]⟩ := by unfold sumB; rw [sumL_N]; kernel_rfl
theorem two_sum : sumB ⟨(s35 ++ [200]).toArray⟩ = ⟨#[102, 230, 198, 210]⟩ := by unfold sumB; rw [sumL_N]; kernel_rfl
theorem thr_sum : sumB ⟨(s35 ++ [0]).toArray⟩ = ⟨#[228, 172, 121, 71]⟩ := by unfold sumB; rw [sumL_N]; kernel_rfl
def s39 : ByteArray := ⟨#[65, 78, 49, 3, 0, 0, 0, 0, 0, 0, 0, 1, 0, 0, 0, 0, 0, 0, 0, 0, 0, 0, 0, 1, 0, 0, 0, 0, 0, 0, 0, 0, 0, 0, 0, 200, 235, 9, 196]⟩
theorem one_encS : encS one1 3 0 [] = s39 := by
 unfold encS
 rw [if_pos one_may, one_enc, one_sum]
 kernel_rfl
theorem one_text : textOf s39 = ⟨s35.toArray⟩ := by kernel_rfl
theorem one_read : readR ⟨s35.toArray⟩ = some (one1, 3, 0, []) := by
 unfold readR headR
 have h : takeR ⟨s35.toArray⟩ 3 = some (⟨#[65, 78, 49]⟩, ⟨(s35.drop 3).toArray⟩) := by kernel_rfl
 rw [h, Option.bind_some, BA_toList, if_pos (by decide), Option.bind_some]
 show restR _ = _
 kernel_rfl
theorem thr_read : readR ⟨(s35 ++ [0]).toArray⟩ = none := by
 unfold readR headR
 have h : takeR ⟨(s35 ++ [0]).toArray⟩ 3 = some (⟨#[65, 78, 49]⟩, ⟨((s35 ++ [0]).drop 3).toArray⟩) := by kernel_rfl
 rw [h, Option.bind_some, BA_toList, if_pos (by decide), Option.bind_some]
 show restR _ = _
 kernel_rfl
theorem dec1 : decS s39 = (one1, 3, 0, [], 0) := by
 unfold decS
 rw [one_text, one_sum, if_neg (show ¬ s39.size < 23 by decide), if_pos (by kernel_rfl), one_read]
 simp only [one_encS, if_true]
theorem dec2 : (decS (s39.extract 0 22)).2.2.2.2 = 80 := by
 unfold decS
 rw [if_pos (by decide)]
theorem dec3 : (decS (s39 ++ ⟨#[0]⟩)).2.2.2.2 = 81 := by
 have h : textOf (s39 ++ ⟨#[0]⟩) = ⟨(s35 ++ [200]).toArray⟩ := by kernel_rfl
 unfold decS
 rw [h, two_sum, if_neg (by decide), if_neg (by decide)]
def t36 : ByteArray := (⟨#[65, 78, 49]⟩ ++ s39.extract 3 35) ++ ⟨#[0]⟩
theorem t36_eq : t36 = ⟨(s35 ++ [0]).toArray⟩ := by kernel_rfl
theorem dec4 : (decS (t36 ++ sumB t36)).2.2.2.2 = 82 := by
 rw [t36_eq, thr_sum]
 have h : textOf ((⟨(s35 ++ [0]).toArray⟩ : ByteArray) ++ ⟨#[228, 172, 121, 71]⟩) = ⟨(s35 ++ [0]).toArray⟩ := by kernel_rfl
 unfold decS
 rw [h, thr_sum, if_neg (by decide), if_pos (by kernel_rfl), thr_read]
theorem fixed_ev : Ev (fun k => anamnesislaw08_fixed.f k) true := by
 have h1 := Encode_ev one1 3 0 []
 have h2 := Decode_ev s39 (by decide)
 have h3 := Decode_ev (s39.extract 0 22) (by decide)
 have h4 := Decode_ev (s39 ++ ⟨#[0]⟩) (by decide)
 have h5 := Decode_ev (t36 ++ sumB t36) (by rw [t36_eq, thr_sum]; decide)
 have h6 := rOf_ev t36 (by rw [t36_eq]; decide)
 have h7 := rBytes_eq t36
 have h8 := Encode_ev one1 3 0 [2]
 have h9 := Encode_ev [] 0 0 []
 have e8 : encS one1 3 0 [2] = ⟨#[]⟩ := by unfold encS; rw [one_no]; rfl
 have e9 : encS [] 0 0 [] = ⟨#[]⟩ := by unfold encS; rw [nil_no]; rfl
 have d2 := dec2
 have d3 := dec3
 have d4 := dec4
 have hsz : (sumB t36).size = 4 := rfl
 have hs : s39.size = 39 := by decide
 have ht : t36.size = 36 := by rw [t36_eq]; decide
 have hm : (s39.extract 0 7).toList = [65, 78, 49, 3, 0, 0, 0] := by rw [BA_toList]; decide
 have he : (⟨#[]⟩ : ByteArray).toList = [] := by rw [BA_toList]
 have hy1 : 3 + (s39.extract 3 35).size ≤ 9223372036854775807 := by rw [ByteArray.size_extract]; omega
 have hy2 : ((⟨#[65, 78, 49]⟩ : ByteArray) ++ (s39.extract 3 35)).size + 1 ≤ 9223372036854775807 := by rw [ByteArray.size_append, ByteArray.size_extract]; show 3 + _ + 1 ≤ _; omega
 rw [one_encS] at h1
 rw [dec1] at h2
 rw [e8] at h8
 rw [e9] at h9
 have hx : (((⟨#[65, 78, 49]⟩ : ByteArray) ++ (s39.extract 3 35)) ++ (⟨#[0]⟩ : ByteArray)) = t36 := rfl
 unfold anamnesislaw08_fixed.f
 simp only [Option.bind_some]
 refine Ev.bind h1 (Ev.bind h2 ?_)
 simp only [hs, if_true, show ((39 : Nat) : Int) = 39 from rfl]
 refine Ev.bind (Same_ev one1 3 0 (by decide) (by decide)) ?_
 simp only [if_true, List.length_nil, show ((0 : Nat) : Int) = 0 from rfl, show (7 : Int) ≤ 39 from by decide, hm, show (22 : Int) ≤ 39 from by decide, Nat.zero_le, Int.reduceLE, if_true]
 refine Ev.bind h3 ?_
 simp only [show 39 + 1 ≤ 9223372036854775807 from by decide, if_true]
 refine Ev.bind h4 ?_
 simp only [show (3 : Int) ≤ 35 from by decide, show (35 : Int) ≤ 39 from by decide, if_true, hx, hy1, hy2]
 refine Ev.bind h6 ?_
 simp only [h7, Option.bind_some, hsz, ht, show 36 + 4 ≤ 9223372036854775807 from by decide, if_true]
 refine Ev.bind h5 ?_
 simp only [d2, d3, d4, if_true]
 refine Ev.bind h8 ?_
 simp only [he, if_true]
 refine Ev.bind h9 ?_
 rw [he]
 exact Ev.now _
end Go.Proofs.Ytednpcfhefibdaa.PSnap
