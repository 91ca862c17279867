/- The parts of this proof, one behind the other: contracts of the functions, plain laws, the walk. -/
import Derived.Test.YticpjidcgaaldaaMwb
import Derived.Test.YticpjidcgaaldaaProg
import Derived.Below
import Derived.Deep.Draws
import Derived.Deep.AppendLies
import Derived.Maps.AppendAt
import Derived.OwnWalk
import Derived.Laws.BytesArg
import Derived.Laws.MakeOwn
import Derived.Laws.OwnMore
import Derived.Deep.OwnRows
import Derived.Tactics
import Derived.Lib.ConvBytes
import Derived.Laws.Slices
import Derived.WalkKit
import Derived.KernelRfl
import Derived.RowKit3
import Derived.Deep.LoopGhost
import Derived.Deep.QuietTactic
import Derived.BigQuiet
import Derived.WideLaws
import Derived.Deep.DeepCutAuto
import Derived.Deep.CutBlock
import Derived.Deep.RegionHeld3
import Derived.Laws.Rows
import Derived.Lib.AppendStr
import Derived.ArgAppend
import Derived.Laws.IdiomCopy
import Derived.OrdersHeld
import Derived.Laws.BitsLemmas
import Derived.RowKit
import Derived.Test.YticpjidcgaaldaaWWords
import Derived.Test.YticpjidcgaaldaaWLast
import Derived.Test.YticpjidcgaaldaaWTab
import Derived.Test.YticpjidcgaaldaaWFour
import Derived.Test.YticpjidcgaaldaaWQPut
import Derived.Test.YticpjidcgaaldaaWApart
import Derived.Test.YticpjidcgaaldaaWArr
import Derived.Test.YticpjidcgaaldaaWZeros
import Derived.Test.YticpjidcgaaldaaWFoot
import Derived.Test.YticpjidcgaaldaaWKept
import Derived.Test.YticpjidcgaaldaaWShare
import Derived.Test.YticpjidcgaaldaaWN
import Derived.Test.YticpjidcgaaldaaWFootNe
import Derived.Test.YticpjidcgaaldaaWAt
import Derived.Test.YticpjidcgaaldaaWEqStruct
import Derived.Test.YticpjidcgaaldaaWRepsOne
import Derived.Test.YticpjidcgaaldaaWInv
import Derived.Test.YticpjidcgaaldaaWInvWords
import Derived.Test.YticpjidcgaaldaaWGuard
import Derived.Test.YticpjidcgaaldaaWNEv
import Derived.Test.YticpjidcgaaldaaWMore
namespace Go.Proofs.Yticpjidcgaaldaa
open Go.RowKit Go.Proofs.YticpjidcgaaldaaW.PrintWords Go.Proofs.YticpjidcgaaldaaW.PrintLast Go.Proofs.YticpjidcgaaldaaW.PrintMore
set_option linter.unusedVariables false
set_option linter.unusedSimpArgs false

/-- What the eye tells of a frame's body. -/
structure ERes where
  mg : Int
  ep : Int
  sq : Int
  nx : Int
  bt : Int
  fl : Int
  D : List Int
  l : List Int
  bad : Bool
def eyeF (q : List Int) : ERes :=
  let a := eByte q false
  let b := eFix 2 a.2.1 a.2.2
  let c := eFix 2 b.2.1 b.2.2
  let d := eFix 2 c.2.1 c.2.2
  let e := eFix 4 d.2.1 d.2.2
  let f := eByte e.2.1 e.2.2
  let g := eBlob 64 f.2.1 f.2.2
  ⟨a.1, b.1, c.1, d.1, e.1, f.1, g.1, g.2.1, g.2.2⟩
def b1F (fl : Int) : Bool := decide (fl % 2 = 1)
def b2F (fl : Int) : Bool := decide (fl / 2 % 2 = 1)
def b4F (fl : Int) : Bool := decide (fl / 4 % 2 = 1)
/-- What Parse tells: the error, the frame. -/
structure FRes where
  err : Int
  ep : Int
  sq : Int
  nx : Int
  bt : Int
  fi : Bool
  la : Bool
  al : Bool
  D : List Int
def badF (e : Int) : FRes := ⟨e, 0, 0, 0, 0, false, false, false, []⟩
def ERes.good (x : ERes) (p : List Int) : Bool :=
  decide (¬ (x.bad = true ∨ 0 < x.l.length)) && (decide (x.mg = 86) && (rightF x.sq x.D.length (b1F x.fl) (b2F x.fl) (b4F x.fl) && decide (fBytes x.ep.toNat x.sq.toNat x.nx.toNat x.bt.toNat (b1F x.fl) (b2F x.fl) (b4F x.fl) x.D = p)))
def sealedB (p : List Int) : Bool := decide (p.drop (p.length - 4) = tailL (sumN tab (p.take (p.length - 4))))
def parseF (p : List Int) : FRes :=
  if p.length < 4 then badF 2 else if sealedB p = false then badF 5 else
    let x := eyeF (p.take (p.length - 4))
    if x.good p = true then ⟨0, x.ep, x.sq, x.nx, x.bt, b1F x.fl, b2F x.fl, b4F x.fl, x.D⟩ else badF 2
theorem flags_b (fi la al : Bool) : b1F (flagsF fi la al) = fi ∧ b2F (flagsF fi la al) = la ∧ b4F (flagsF fi la al) = al := by
  cases fi <;> cases la <;> cases al <;> decide
theorem fix_low (k x : Nat) (l : List Int) (hx : x < 256 ^ k) : eFix k (lowN x k ++ l) false = ((x : Int), l, false) := by
  rw [eFix_good (by rw [List.length_append, lowN_length]; omega), List.take_left' (lowN_length _ _), List.drop_left' (lowN_length _ _), leN_low k x hx]
theorem byte_cons (x : Int) (l : List Int) : eByte (x :: l) false = (x, l, false) := by
  rw [eByte_good (by simp)]; rfl
theorem numR_byte (n : Nat) (hn : n < 128) (l : List Int) : numR 0 0 ((n : Int) :: l) = some (n, l) := by
  unfold numR
  rw [if_neg (by rintro (h | h | h) <;> omega), if_pos (by omega)]
  simp; omega
theorem blob_low (n : Nat) (D l : List Int) (hn : D.length = n) (h64 : n ≤ 64) : eBlob 64 ((n : Int) :: (D ++ l)) false = (D, l, false) := by
  have e : eNum 64 ((n : Int) :: (D ++ l)) false = ((n : Int), D ++ l, false) := by
    unfold eNum numB
    rw [if_neg (by decide), numR_byte n (by omega)]
    show (if 64 < n then _ else _ : Int × List Int × Bool) = _
    rw [if_neg (by omega)]
  unfold eBlob
  rw [e]
  show (if false = true ∨ (D ++ l).length < ((n : Int)).toNat then _ else _ : List Int × List Int × Bool) = _
  rw [if_neg (by rw [List.length_append, Int.toNat_natCast]; rintro (h | h); cases h; omega), Int.toNat_natCast, List.take_left' hn, List.drop_left' hn]
theorem eyeF_body (ep sq nx bt : Nat) (fi la al : Bool) (D : List Int) (he : ep < 65536 ∧ sq < 65536 ∧ nx < 65536 ∧ bt < 4294967296) (hD : D.length ≤ 64) :
    eyeF (fBody ep sq nx bt fi la al D) = ⟨86, ep, sq, nx, bt, flagsF fi la al, D, [], false⟩ := by
  have h : fBody ep sq nx bt fi la al D = 86 :: (lowN ep 2 ++ (lowN sq 2 ++ (lowN nx 2 ++ (lowN bt 4 ++ (flagsF fi la al :: ((D.length : Int) :: (D ++ []))))))) := by
    unfold fBody fHead; simp
  unfold eyeF
  rw [h]
  simp only [byte_cons, fix_low 2 ep _ (by omega), fix_low 2 sq _ (by omega), fix_low 2 nx _ (by omega), fix_low 4 bt _ (by omega), blob_low D.length D [] rfl hD]
theorem sealL_len (l : List Int) : (sealL l).length = l.length + 4 := by unfold sealL; rw [List.length_append]; rfl
theorem sealL_take (l : List Int) : (sealL l).take ((sealL l).length - 4) = l := by
  rw [sealL_len, Nat.add_sub_cancel]; unfold sealL; exact List.take_left' rfl
theorem sealL_sealed (l : List Int) : sealedB (sealL l) = true := by
  unfold sealedB
  rw [sealL_take, sealL_len, Nat.add_sub_cancel]
  unfold sealL
  rw [List.drop_left' rfl]
  exact decide_eq_true rfl
theorem fBody_len (ep sq nx bt : Nat) (fi la al : Bool) (D : List Int) : (fBody ep sq nx bt fi la al D).length = 13 + D.length := by
  unfold fBody; rw [List.length_append, fHead_len]
theorem tailL_bytes (n : Nat) (h : n < 4294967296) : Bytes (tailL n) := by
  unfold tailL
  intro b hb
  simp only [List.mem_cons, List.not_mem_nil, or_false] at hb
  omega
theorem sumN_lt {l : List Int} : sumN tab l < 4294967296 := by unfold sumN; omega
theorem fBytes_bytes (ep sq nx bt : Nat) (fi la al : Bool) (D : List Int) (hD : Bytes D) : Bytes (fBytes ep sq nx bt fi la al D) := by
  unfold fBytes
  split
  · rename_i hr
    unfold sealL fBody
    exact ((fHead_bytes _ _ _ _ _ _ _ _ (by have := rightF_le hr; omega)).append hD).append (tailL_bytes _ sumN_lt)
  · exact Bytes.nil
/-- A right frame's bytes are read of it again. -/
theorem parseF_back (ep sq nx bt : Nat) (fi la al : Bool) (D : List Int) (he : ep < 65536 ∧ sq < 65536 ∧ nx < 65536 ∧ bt < 4294967296) (hr : rightF sq D.length fi la al = true) :
    parseF (fBytes ep sq nx bt fi la al D) = ⟨0, ep, sq, nx, bt, fi, la, al, D⟩ := by
  have hb : fBytes ep sq nx bt fi la al D = sealL (fBody ep sq nx bt fi la al D) := by unfold fBytes; rw [if_pos hr]
  obtain ⟨f1, f2, f3⟩ := flags_b fi la al
  unfold parseF
  rw [if_neg (by rw [hb, sealL_len]; omega), if_neg (by rw [hb, sealL_sealed]; decide)]
  have hx : eyeF ((fBytes ep sq nx bt fi la al D).take ((fBytes ep sq nx bt fi la al D).length - 4)) = ⟨86, ep, sq, nx, bt, flagsF fi la al, D, [], false⟩ := by
    rw [hb, sealL_take, eyeF_body ep sq nx bt fi la al D he (rightF_le hr)]
  rw [hx]
  simp only [f1, f2, f3]
  rw [if_pos]
  unfold ERes.good
  simp only [f1, f2, f3, hr, Int.toNat_natCast]
  simp
theorem eFix_lt {l : List Int} {bad : Bool} (k : Nat) (h : Bytes l) : 0 ≤ (eFix k l bad).1 ∧ (eFix k l bad).1 < 256 ^ k := by
  unfold eFix
  split
  · exact ⟨Int.le_refl _, Int.pow_pos (by decide)⟩
  · have h1 := leN_bd (h.take k)
    have h2 : (l.take k).length ≤ k := List.length_take_le _ _
    have h3 : (256 : Int) ^ (l.take k).length ≤ 256 ^ k := by
      have := Int.ofNat_le.2 (Nat.pow_le_pow_right (n := 256) (by decide) h2)
      rwa [Int.natCast_pow, Int.natCast_pow] at this
    exact ⟨h1.1, by omega⟩
end Go.Proofs.Yticpjidcgaaldaa

namespace Go.Proofs.Yticpjidcgaaldaa
open Go.RowKit Go.Proofs.YticpjidcgaaldaaW.PrintWords Go.Proofs.YticpjidcgaaldaaW.PrintLast Go.Proofs.YticpjidcgaaldaaW.PrintMore
set_option linter.unusedVariables false
set_option linter.unusedSimpArgs false

/-- The bytes of a message that may be. -/
def mSay (k t m tk hs : Int) (P : List Int) (C : List S59) : List Int :=
  if k = 2 then [k] ++ lowN t.toNat 4 ++ lowN m.toNat 4 else if k = 5 ∨ k = 6 then [k] ++ pbD tk.toNat hs.toNat P C else [k]
def mBytes (k t m tk hs : Int) (P : List Int) (C : List S59) : List Int := if rightM k t m tk hs P C = true then mSay k t m tk hs P C else []

set_option maxRecDepth 100000 in
set_option maxHeartbeats 16000000 in
theorem mbytes_any (k t m tk hs : Int) (P : List Int) (C : List S59) (v : Value) (w00 : World) (hv : MsC w00 k t m tk hs P C v) (hk : OkM k t m tk hs P C) :
    Calls Try.prog 13 #[v] w00 fun e w' => ∃ v', e = .returned v' ∧ (Kd.int .u8).R 5 w' w00.heap.size (fun _ => True) v' (mBytes k t m tk hs P C) ∧ Below w00.heap.size w00 w' := by
  have KR := Aside0.mk (fun (z : World) (h : Below w00.heap.size w00 z) => mright_any k t m tk hs P C v z (hv.below h) hk)
  obtain ⟨A, c, A2, c2, rfl, h2, h3, h4, h5⟩ := hv
  have HOK := Aside0.mk hk
  have HD : Aside0 (∀ z, Below w00.heap.size w00 z → DvC z tk hs P C (.agg #[.int .u32 tk, .int .u32 hs, .slice A P.length c, .slice A2 C.length c2])) := ⟨fun z hz => ⟨A, c, A2, c2, rfl, h2, h3, Kd.C_below h4 hz, Kd.C_below h5 hz⟩⟩
  obtain ⟨n, hn⟩ : ∃ n, P.length = n := ⟨_, rfl⟩
  obtain ⟨nc, hnc⟩ : ∃ nc, C.length = nc := ⟨_, rfl⟩
  rw [hn, hnc] at HD KR
  rw [hn, hnc]
  obtain ⟨B, hB⟩ : ∃ B, w00.heap.size = B := ⟨_, rfl⟩
  rw [hB] at HD KR
  have HB := Aside0.mk hB
  have H0 := Aside0.mk ((Hp.start w00).allocAt (.cells #[.int .u8 k, .int .u32 t, .int .u32 m, .int .u32 tk, .int .u32 hs, .slice A n c, .slice A2 nc c2] 28) B hB)
  rw [hB] at H0
  obtain ⟨tn, htn⟩ : ∃ x : Nat, t = (x : Int) := ⟨t.toNat, by have := HOK.out.2.1; omega⟩
  obtain ⟨mn, hmn⟩ : ∃ x : Nat, m = (x : Int) := ⟨m.toNat, by have := HOK.out.2.2.1; omega⟩
  obtain ⟨tkn, htk⟩ : ∃ x : Nat, tk = (x : Int) := ⟨tk.toNat, by have := HOK.out.2.2.2.1; omega⟩
  obtain ⟨hsn, hhs⟩ : ∃ x : Nat, hs = (x : Int) := ⟨hs.toNat, by have := HOK.out.2.2.2.2.1; omega⟩
  have HTN : Aside0 (t = tn ∧ m = mn ∧ tn < 4294967296 ∧ mn < 4294967296) := ⟨htn, hmn, by have := HOK.out.2.1; omega, by have := HOK.out.2.2.1; omega⟩
  have KB := Aside0.mk (fun (z : World) (h : Below B w00 z) => pbytes7_any tkn hsn P C _ z (by rw [← htk, ← hhs]; exact HD.out z h) HOK.out.2.2.2.2.2.1 (by have := HOK.out.2.2.2.2.2.2.2.1; omega) (by have := HOK.out.2.2.2.1; omega) (by have := HOK.out.2.2.2.2.1; omega) (fun y hy => (HOK.out.2.2.2.2.2.2.1 y hy).2))
  have HPN := Aside0.mk hn
  obtain ⟨pb, hpb⟩ : ∃ pb, pbD tkn hsn P C = pb := ⟨_, rfl⟩
  rw [hpb] at KB
  have HPL : Aside0 (pb.length ≤ 9009) := ⟨by rw [← hpb]; have := pbD_le tkn hsn P C; have := HOK.out.2.2.2.2.2.2.2.1; omega⟩
  obtain ⟨mb, hmb⟩ : ∃ mb, mBytes k t m tk hs P C = mb := ⟨_, rfl⟩
  rw [hmb]
  obtain ⟨ρ, hρ⟩ : ∃ ρ, rightM k t m tk hs P C = ρ := ⟨_, rfl⟩
  have HMB : Aside0 (mb = if ρ = true then (if k = 2 then [k] ++ lowN tn 4 ++ lowN mn 4 else if k = 5 ∨ k = 6 then [k] ++ pb else [k]) else []) := ⟨by
    rw [← hmb, ← hρ, ← hpb]
    unfold mBytes mSay
    rw [show t.toNat = tn by omega, show m.toNat = mn by omega, show tk.toNat = tkn by omega, show hs.toNat = hsn by omega]⟩
  rw [hρ] at KR
  clear hk h2 h3 h4 h5 hn hnc htk hhs hpb hmb hρ htn hmn
  go_enter Try.func13, Try.ntmps13
  go_wp2_with (first | (refine wpList_load_row_g 28 (.tmp 1) rfl B rfl rfl 28 _ (0, 0) _ (H0.out.get (i := 0) rfl) Try.underlying28 rfl (msg_info _ _ _ _ _ _ _) ?_))
  refine (KR.out _ H0.out.bel).mono ?_
  rintro e V0 ⟨rfl, hb1⟩
  have H1 := Aside0.mk (H0.out.call hb1)
  clear hb1 H0 KR
  cases ρ with
  | false =>
    have HE : Aside0 (mb = []) := ⟨by rw [HMB.out]; rfl⟩
    clear HMB
    go_wp2_with fail
    go_ret
    rw [HE.out, HB.out]
    exact ⟨_, rfl, Kd.R_nil _ _ _ _ _, H1.out.bel⟩
  | true =>
    rw [if_pos rfl] at HMB
    obtain ⟨gp, hgp⟩ : ∃ gp, V0.heap.size = gp := ⟨_, rfl⟩
    have GD : Aside0 (B < gp) := ⟨by rw [← hgp]; exact H1.out.lt (i := 0) rfl⟩
    have hP0 : Pn (V0.alloc (.cells #[.slice none 0 0] 91)) gp gp [] (.slice none 0 0) := ⟨by rw [← hgp]; exact blk_new _ _, Kd.R_nil _ _ _ _ _⟩
    have HP0 := Aside0.mk hP0
    have HB0 : Aside0 (Below gp V0 (V0.alloc (.cells #[.slice none 0 0] 91))) := ⟨by rw [← hgp]; exact below_alloc (Below.refl _ _) _⟩
    have HG0 := Aside0.mk (H1.out.get (i := 0) rfl)
    have HW0 : Aside0 (∀ z, Below gp V0 z → Below B w00 z) := ⟨fun z hz => H1.out.bel.trans (hz.mono (Nat.le_of_lt GD.out))⟩
    clear hP0 H1
    have c0 : ∀ z, Below gp V0 z → z.cell? ⟨B, 0, none⟩ = some (.int .u8 k) := fun z hz => blk_cell ((hz.block B GD.out).trans HG0.out) 0
    have c1 : ∀ z, Below gp V0 z → z.cell? ⟨B, 1, none⟩ = some (.int .u32 t) := fun z hz => blk_cell ((hz.block B GD.out).trans HG0.out) 1
    have c2' : ∀ z, Below gp V0 z → z.cell? ⟨B, 2, none⟩ = some (.int .u32 m) := fun z hz => blk_cell ((hz.block B GD.out).trans HG0.out) 2
    have c3 : ∀ z, Below gp V0 z → z.cell? ⟨B, 3, none⟩ = some (.int .u32 tk) := fun z hz => blk_cell ((hz.block B GD.out).trans HG0.out) 3
    have c4 : ∀ z, Below gp V0 z → z.cell? ⟨B, 4, none⟩ = some (.int .u32 hs) := fun z hz => blk_cell ((hz.block B GD.out).trans HG0.out) 4
    have c5 : ∀ z, Below gp V0 z → z.cell? ⟨B, 5, none⟩ = some (.slice A n c) := fun z hz => blk_cell ((hz.block B GD.out).trans HG0.out) 5
    have c6 : ∀ z, Below gp V0 z → z.cell? ⟨B, 6, none⟩ = some (.slice A2 nc c2) := fun z hz => blk_cell ((hz.block B GD.out).trans HG0.out) 6
    have HCL := Aside0.mk (And.intro c0 (And.intro c1 (And.intro c2' (And.intro c3 (And.intro c4 (And.intro c5 c6))))))
    clear c0 c1 c2' c3 c4 c5 c6
    have HGP := Aside0.mk hgp
    clear hgp
    have c0 := HCL.out.1 _ HB0.out
    go_wp2_with fail
    clear c0
    rw [HGP.out]
    refine (pbyte_any gp gp [] _ k _ HP0.out (Nat.le_refl _) (by simp)).mono ?_
    rintro e V1 ⟨v1, rfl, h1⟩
    have HP1 : Aside0 (Pn V1 gp gp [k] v1) := ⟨h1.1⟩
    have HB1 := Aside0.mk (HB0.out.trans h1.2.2.2)
    clear h1 HP0 HB0
    have c0 := HCL.out.1 _ HB1.out
    by_cases h2 : k = 2
    · subst h2
      have HE : Aside0 (mb = [2] ++ lowN tn 4 ++ lowN mn 4) := ⟨HMB.out⟩
      clear HMB
      go_wp2_with fail
      clear c0
      obtain ⟨e1, e2, HTN2, HTN3⟩ := HTN.out
      subst e1 e2
      refine regionS (W := V1)
        [fun _ v => v = .pointer (some ⟨B, 1, none⟩),
         fun _ v => v = .int .u32 tn,
         fun _ v => v = .pointer (some ⟨gp, 0, none⟩),
         fun _ v => v = .pointer (some ⟨B, 2, none⟩),
         fun _ v => v = .int .u32 mn,
         fun _ v => v = .pointer (some ⟨gp, 0, none⟩)]
        [2, 5]
        (fun t => match t with | 0 => fun (rs : List Value) (w : World) => ∃ v, Pn w gp gp [2] v | 1 => fun (rs : List Value) (w : World) => ∃ v, Pn w gp gp ([2] ++ lowN tn 4) v | 2 => fun (rs : List Value) (w : World) => ∃ v, Pn w gp gp ([2] ++ lowN tn 4 ++ lowN mn 4) v | _ => fun _ _ => False)
        (fun _ _ _ => True) (fun w => Below gp V0 w ∧ gp ≤ w.heap.size)
        (fun j =>  none)
        [(0, some 14), (1, some 15), (2, some 16), (3, some 17), (4, some 18), (5, some 19)]
        []
        (by kernel_rfl) (by kernel_rfl) (by kernel_rfl) (by kernel_rfl) (by kernel_rfl) ?z7_1c ?z7_1i ?z7_1b ?z7_1d ?z7_1g ⟨?z7_1t0, ?z7_1t1, ?z7_1t2, ?z7_1t3, ?z7_1t4, ?z7_1t5, trivial⟩ ⟨?z7_1o0, ?z7_1o1, ?z7_1o2, ?z7_1o3, ?z7_1o4, ?z7_1o5, trivial⟩ ?z7_1e
      case z7_1c => exact ⟨HB1.out.trans (below_drew (Below.refl _ _)), Nat.le_of_lt (blk_lt HP1.out.1)⟩
      case z7_1i => exact ⟨_, HP1.out⟩
      case z7_1b => intro w w' hb h; exact ⟨h.1.trans (hb.mono h.2), Nat.le_trans h.2 hb.size⟩
      case z7_1d =>
        intro t rs w w' hb h
        match t, h with
        | 0, h => (replace h : ∃ v, Pn w gp gp [2] v := h); show ∃ v, Pn w' gp gp [2] v; (obtain ⟨v, h⟩ := h; exact ⟨v, h.below hb⟩)
        | 1, h => (replace h : ∃ v, Pn w gp gp ([2] ++ lowN tn 4) v := h); show ∃ v, Pn w' gp gp ([2] ++ lowN tn 4) v; (obtain ⟨v, h⟩ := h; exact ⟨v, h.below hb⟩)
        | 2, h => (replace h : ∃ v, Pn w gp gp ([2] ++ lowN tn 4 ++ lowN mn 4) v := h); show ∃ v, Pn w' gp gp ([2] ++ lowN tn 4 ++ lowN mn 4) v; (obtain ⟨v, h⟩ := h; exact ⟨v, h.below hb⟩)
        | _ + 3, h => exact h.elim
      case z7_1g =>
        intro j hj; cases hj
      case z7_1t0 => exact StabS.const _ _ _ _
      case z7_1t1 => exact StabS.const _ _ _ _
      case z7_1t2 => exact StabS.const _ _ _ _
      case z7_1t3 => exact StabS.const _ _ _ _
      case z7_1t4 => exact StabS.const _ _ _ _
      case z7_1t5 => exact StabS.const _ _ _ _
      case z7_1o0 =>
        intro vs w t hC ht1 ht2 hS hV
        rw [if_pos (by kernel_rfl)]
        generalize hρ : rho _ _ _ vs = ρ
        have e1 : ρ (.tmp 1) = .pointer (some ⟨B, 0, none⟩) := by rw [← hρ]; kernel_rfl
        clear hρ hV
        refine runs_val (v := .pointer (some ⟨B, 1, none⟩)) (w' := w) ?_ ⟨Below.refl _ _, rfl⟩
        clear ht1 ht2 hS hC
        go_simp <;> (first | exact IntWalk.u64_in _ (by omega) | exact IntWalk.u32_in _ (by omega) | exact IntWalk.u16_in _ (by omega) | exact IntWalk.u8_in _ (by omega) | exact IntWalk.i64_in _ (by omega) | skip)
      case z7_1o1 =>
        intro vs w t hC ht1 ht2 hS hV
        rw [if_pos (by kernel_rfl)]
        generalize hρ : rho _ _ _ vs = ρ
        have d14 : (vs 0) = .pointer (some ⟨B, 1, none⟩) := hV 0 (by kernel_rfl)
        have e14 : ρ (.tmp 14) = vs 0 := by rw [← hρ]; kernel_rfl
        rw [d14] at e14; clear d14
        clear hρ hV
        have c0 := HCL.out.2.1 w hC.1
        refine runs_val (v := .int .u32 tn) (w' := w) ?_ ⟨Below.refl _ _, rfl⟩
        clear ht1 ht2 hS hC
        go_simp
      case z7_1o2 =>
        intro vs w hC hS hV
        replace hS : ∃ v, Pn w gp gp [2] v := hS
        rw [if_pos (by kernel_rfl)]
        generalize hρ : rho _ _ _ vs = ρ
        have e3 : ρ (.tmp 3) = .pointer (some ⟨gp, 0, none⟩) := by rw [← hρ]; kernel_rfl
        have d15 : (vs 1) = .int .u32 tn := hV 1 (by kernel_rfl)
        have e15 : ρ (.tmp 15) = vs 1 := by rw [← hρ]; kernel_rfl
        rw [d15] at e15; clear d15
        have ef39 : ρ (.func 39) = .func (.func 39) #[] #[] := by rw [← hρ]; rfl
        clear hρ hV
        obtain ⟨v, hp⟩ := hS
        refine runs_call (f := 39) (args := #[.pointer (some ⟨gp, 0, none⟩), .int .u32 tn]) (w' := w) ?_ ?_
        · go_simp
        · refine (pword_any gp gp [2] v tn HTN2 w hp (Nat.le_refl _) (by simp)).mono ?_
          rintro e w5 ⟨v', rfl, h⟩
          exact ⟨_, rfl, ⟨hC.1.trans h.2.2.2, Nat.le_trans hC.2 h.2.1.1⟩, trivial, rfl, ⟨v', h.1⟩⟩
      case z7_1o3 =>
        intro vs w t hC ht1 ht2 hS hV
        rw [if_pos (by kernel_rfl)]
        generalize hρ : rho _ _ _ vs = ρ
        have e1 : ρ (.tmp 1) = .pointer (some ⟨B, 0, none⟩) := by rw [← hρ]; kernel_rfl
        clear hρ hV
        refine runs_val (v := .pointer (some ⟨B, 2, none⟩)) (w' := w) ?_ ⟨Below.refl _ _, rfl⟩
        clear ht1 ht2 hS hC
        go_simp <;> (first | exact IntWalk.u64_in _ (by omega) | exact IntWalk.u32_in _ (by omega) | exact IntWalk.u16_in _ (by omega) | exact IntWalk.u8_in _ (by omega) | exact IntWalk.i64_in _ (by omega) | skip)
      case z7_1o4 =>
        intro vs w t hC ht1 ht2 hS hV
        rw [if_pos (by kernel_rfl)]
        generalize hρ : rho _ _ _ vs = ρ
        have d17 : (vs 3) = .pointer (some ⟨B, 2, none⟩) := hV 3 (by kernel_rfl)
        have e17 : ρ (.tmp 17) = vs 3 := by rw [← hρ]; kernel_rfl
        rw [d17] at e17; clear d17
        clear hρ hV
        have c0 := HCL.out.2.2.1 w hC.1
        refine runs_val (v := .int .u32 mn) (w' := w) ?_ ⟨Below.refl _ _, rfl⟩
        clear ht1 ht2 hS hC
        go_simp
      case z7_1o5 =>
        intro vs w hC hS hV
        replace hS : ∃ v, Pn w gp gp ([2] ++ lowN tn 4) v := hS
        rw [if_pos (by kernel_rfl)]
        generalize hρ : rho _ _ _ vs = ρ
        have d16 : (vs 2) = .pointer (some ⟨gp, 0, none⟩) := hV 2 (by kernel_rfl)
        have e16 : ρ (.tmp 16) = vs 2 := by rw [← hρ]; kernel_rfl
        rw [d16] at e16; clear d16
        have d18 : (vs 4) = .int .u32 mn := hV 4 (by kernel_rfl)
        have e18 : ρ (.tmp 18) = vs 4 := by rw [← hρ]; kernel_rfl
        rw [d18] at e18; clear d18
        have ef39 : ρ (.func 39) = .func (.func 39) #[] #[] := by rw [← hρ]; rfl
        clear hρ hV
        obtain ⟨v, hp⟩ := hS
        refine runs_call (f := 39) (args := #[.pointer (some ⟨gp, 0, none⟩), .int .u32 mn]) (w' := w) ?_ ?_
        · go_simp
        · refine (pword_any gp gp ([2] ++ lowN tn 4) v mn HTN3 w hp (Nat.le_refl _) (by rw [List.length_append, lowN_length]; simp)).mono ?_
          rintro e w5 ⟨v', rfl, h⟩
          exact ⟨_, rfl, ⟨hC.1.trans h.2.2.2, Nat.le_trans hC.2 h.2.1.1⟩, trivial, rfl, ⟨v', h.1⟩⟩
      case z7_1e =>
        intro vs V2 hC hS hV
        replace hS : (fun (w : World) => ∃ v, Pn w gp gp ([2] ++ lowN tn 4 ++ lowN mn 4) v) V2 := hS
        have d14 : (vs 0) = .pointer (some ⟨B, 1, none⟩) := hV 0 (Nat.le_of_ble_eq_true rfl)
        have d15 : (vs 1) = .int .u32 tn := hV 1 (Nat.le_of_ble_eq_true rfl)
        have d16 : (vs 2) = .pointer (some ⟨gp, 0, none⟩) := hV 2 (Nat.le_of_ble_eq_true rfl)
        have d17 : (vs 3) = .pointer (some ⟨B, 2, none⟩) := hV 3 (Nat.le_of_ble_eq_true rfl)
        have d18 : (vs 4) = .int .u32 mn := hV 4 (Nat.le_of_ble_eq_true rfl)
        have d19 : (vs 5) = .pointer (some ⟨gp, 0, none⟩) := hV 5 (Nat.le_of_ble_eq_true rfl)
        clear hV
        simp only [putAll]
        rw [d14, d15, d16, d17, d18, d19]
        clear d14 d15 d16 d17 d18 d19
        clear vs
        simp only [Act.put, List.setIfInBounds_toArray, List.set_cons_zero, List.set_cons_succ]
        obtain ⟨v2, hp2⟩ := hS
        have HP2 := Aside0.mk hp2
        have HB2 := Aside0.mk hC.1
        clear hp2 hC
        go_wp2_with fail
        refine (pbytes_any gp gp ([2] ++ lowN tn 4 ++ lowN mn 4) v2 V2 HP2.out (by simp [lowN_length])).mono ?_
        rintro e V9 ⟨v9, rfl, hr9, hb9⟩
        have HR9 := Aside0.mk (Kd.R_lower hr9 (Nat.le_trans (Nat.le_of_lt GD.out) (Nat.le_of_lt (blk_lt HP2.out.1))))
        have HB9 := Aside0.mk (HW0.out _ (HB2.out.trans (hb9.mono (Nat.le_of_lt (blk_lt HP2.out.1)))))
        clear hr9 hb9
        go_wp2_with fail
        go_ret
        rw [HB.out, HE.out]
        exact ⟨_, rfl, HR9.out, HB9.out⟩
    · skip
      by_cases h5 : k = 5
      · subst h5
        have HE : Aside0 (mb = [5] ++ pb) := ⟨HMB.out⟩
        clear HMB
        go_wp2_with fail
        clear c0
        refine regionS (W := V1)
          [fun _ _ => True,
           fun _ v => v = .pointer (some ⟨B, 3, none⟩),
           fun _ v => v = .agg #[.int .u32 tk, .int .u32 hs, .slice A n c, .slice A2 nc c2],
           fun _ _ => True,
           fun _ _ => True,
           fun _ _ => True]
          [0, 3, 4, 5]
          (fun t => match t with | 0 => fun (rs : List Value) (w : World) => ∃ v, Pn w gp gp [5] v | 1 => fun (rs : List Value) (w : World) => (Kd.int .u8).R 5 w gp (fun _ => True) (rs.getD 0 undef) [5] | 2 => fun (rs : List Value) (w : World) => (Kd.int .u8).R 5 w gp (fun _ => True) (rs.getD 0 undef) [5] ∧ (Kd.int .u8).R 5 w gp (fun _ => True) (rs.getD 1 undef) pb | 3 => fun (rs : List Value) (w : World) => (Kd.int .u8).R 5 w gp (fun _ => True) (rs.getD 2 undef) ([5] ++ pb) | 4 => fun (rs : List Value) (w : World) => (Kd.int .u8).R 5 w gp (fun _ => True) (rs.getD 3 undef) ([5] ++ pb) | _ => fun _ _ => False)
          (fun _ _ _ => True) (fun w => Below gp V0 w ∧ gp ≤ w.heap.size)
          (fun j =>  none)
          [(0, some 23), (1, some 24), (2, some 25), (3, some 26), (4, some 27), (5, some 2)]
          []
          (by kernel_rfl) (by kernel_rfl) (by kernel_rfl) (by kernel_rfl) (by kernel_rfl) ?z10_2c ?z10_2i ?z10_2b ?z10_2d ?z10_2g ⟨?z10_2t0, ?z10_2t1, ?z10_2t2, ?z10_2t3, ?z10_2t4, ?z10_2t5, trivial⟩ ⟨?z10_2o0, ?z10_2o1, ?z10_2o2, ?z10_2o3, ?z10_2o4, ?z10_2o5, trivial⟩ ?z10_2e
        case z10_2c => exact ⟨HB1.out.trans (below_drew (Below.refl _ _)), Nat.le_of_lt (blk_lt HP1.out.1)⟩
        case z10_2i => exact ⟨_, HP1.out⟩
        case z10_2b => intro w w' hb h; exact ⟨h.1.trans (hb.mono h.2), Nat.le_trans h.2 hb.size⟩
        case z10_2d =>
          intro t rs w w' hb h
          match t, h with
          | 0, h => (replace h : ∃ v, Pn w gp gp [5] v := h); show ∃ v, Pn w' gp gp [5] v; first | exact Kd.R_below h hb | exact ⟨Kd.R_below h.1 hb, Kd.R_below h.2 hb⟩ | (obtain ⟨v, h⟩ := h; exact ⟨v, h.below hb⟩)
          | 1, h => (replace h : (Kd.int .u8).R 5 w gp (fun _ => True) (rs.getD 0 undef) [5] := h); show (Kd.int .u8).R 5 w' gp (fun _ => True) (rs.getD 0 undef) [5]; first | exact Kd.R_below h hb | exact ⟨Kd.R_below h.1 hb, Kd.R_below h.2 hb⟩ | (obtain ⟨v, h⟩ := h; exact ⟨v, h.below hb⟩)
          | 2, h => (replace h : (Kd.int .u8).R 5 w gp (fun _ => True) (rs.getD 0 undef) [5] ∧ (Kd.int .u8).R 5 w gp (fun _ => True) (rs.getD 1 undef) pb := h); show (Kd.int .u8).R 5 w' gp (fun _ => True) (rs.getD 0 undef) [5] ∧ (Kd.int .u8).R 5 w' gp (fun _ => True) (rs.getD 1 undef) pb; first | exact Kd.R_below h hb | exact ⟨Kd.R_below h.1 hb, Kd.R_below h.2 hb⟩ | (obtain ⟨v, h⟩ := h; exact ⟨v, h.below hb⟩)
          | 3, h => (replace h : (Kd.int .u8).R 5 w gp (fun _ => True) (rs.getD 2 undef) ([5] ++ pb) := h); show (Kd.int .u8).R 5 w' gp (fun _ => True) (rs.getD 2 undef) ([5] ++ pb); first | exact Kd.R_below h hb | exact ⟨Kd.R_below h.1 hb, Kd.R_below h.2 hb⟩ | (obtain ⟨v, h⟩ := h; exact ⟨v, h.below hb⟩)
          | 4, h => (replace h : (Kd.int .u8).R 5 w gp (fun _ => True) (rs.getD 3 undef) ([5] ++ pb) := h); show (Kd.int .u8).R 5 w' gp (fun _ => True) (rs.getD 3 undef) ([5] ++ pb); first | exact Kd.R_below h hb | exact ⟨Kd.R_below h.1 hb, Kd.R_below h.2 hb⟩ | (obtain ⟨v, h⟩ := h; exact ⟨v, h.below hb⟩)
          | _ + 5, h => exact h.elim
        case z10_2g =>
          intro j hj; cases hj
        case z10_2t0 => exact StabS.const _ _ _ _
        case z10_2t1 => exact StabS.const _ _ _ _
        case z10_2t2 => exact StabS.const _ _ _ _
        case z10_2t3 => exact StabS.const _ _ _ _
        case z10_2t4 => exact StabS.const _ _ _ _
        case z10_2t5 => exact StabS.const _ _ _ _
        case z10_2o0 =>
          intro vs w hC hS hV
          replace hS : ∃ v, Pn w gp gp [5] v := hS
          rw [if_pos (by kernel_rfl)]
          generalize hρ : rho _ _ _ vs = ρ
          have e3 : ρ (.tmp 3) = .pointer (some ⟨gp, 0, none⟩) := by rw [← hρ]; kernel_rfl
          have ef40 : ρ (.func 40) = .func (.func 40) #[] #[] := by rw [← hρ]; rfl
          clear hρ hV
          obtain ⟨v, hp⟩ := hS
          refine runs_call (f := 40) (args := #[.pointer (some ⟨gp, 0, none⟩)]) (w' := w) ?_ ?_
          · go_simp
          · refine (pbytes_any gp gp [5] v w hp (by simp)).mono ?_
            rintro e w5 ⟨v9, rfl, hr9, hb9⟩
            exact ⟨_, rfl, ⟨hC.1.trans (hb9.mono hC.2), Nat.le_trans hC.2 hb9.size⟩, trivial, trivial, Kd.R_lower hr9 hC.2⟩
        case z10_2o1 =>
          intro vs w t hC ht1 ht2 hS hV
          rw [if_pos (by kernel_rfl)]
          generalize hρ : rho _ _ _ vs = ρ
          have e1 : ρ (.tmp 1) = .pointer (some ⟨B, 0, none⟩) := by rw [← hρ]; kernel_rfl
          clear hρ hV
          refine runs_val (v := .pointer (some ⟨B, 3, none⟩)) (w' := w) ?_ ⟨Below.refl _ _, rfl⟩
          clear ht1 ht2 hS hC
          go_simp <;> (first | exact IntWalk.u64_in _ (by omega) | exact IntWalk.u32_in _ (by omega) | exact IntWalk.u16_in _ (by omega) | exact IntWalk.u8_in _ (by omega) | exact IntWalk.i64_in _ (by omega) | skip)
        case z10_2o2 =>
          intro vs w t hC ht1 ht2 hS hV
          rw [if_pos (by kernel_rfl)]
          generalize hρ : rho _ _ _ vs = ρ
          have d24 : (vs 1) = .pointer (some ⟨B, 3, none⟩) := hV 1 (by kernel_rfl)
          have e24 : ρ (.tmp 24) = vs 1 := by rw [← hρ]; kernel_rfl
          rw [d24] at e24; clear d24
          clear hρ hV
          have c3 := HCL.out.2.2.2.1 w hC.1
          have c4 := HCL.out.2.2.2.2.1 w hC.1
          have c5 := HCL.out.2.2.2.2.2.1 w hC.1
          have c6 := HCL.out.2.2.2.2.2.2 w hC.1
          refine runs_val (v := .agg #[.int .u32 tk, .int .u32 hs, .slice A n c, .slice A2 nc c2]) (w' := w) ?_ ⟨Below.refl _ _, rfl⟩
          clear ht1 ht2 hS hC
          go_simp
        case z10_2o3 =>
          intro vs w hC hS hV
          replace hS : (Kd.int .u8).R 5 w gp (fun _ => True) (vs 0) [5] := hS
          rw [if_pos (by kernel_rfl)]
          generalize hρ : rho _ _ _ vs = ρ
          have d25 : (vs 2) = .agg #[.int .u32 tk, .int .u32 hs, .slice A n c, .slice A2 nc c2] := hV 2 (by kernel_rfl)
          have e25 : ρ (.tmp 25) = vs 2 := by rw [← hρ]; kernel_rfl
          rw [d25] at e25; clear d25
          have ef41 : ρ (.func 41) = .func (.func 41) #[] #[] := by rw [← hρ]; rfl
          clear hρ hV
          refine runs_call (f := 41) (args := #[.agg #[.int .u32 tk, .int .u32 hs, .slice A n c, .slice A2 nc c2]]) (w' := w) ?_ ?_
          · go_simp
          · refine (KB.out w (HW0.out w hC.1)).mono ?_
            rintro e w5 ⟨v9, rfl, hr9, hb9⟩
            exact ⟨_, rfl, ⟨hC.1.trans (hb9.mono hC.2), Nat.le_trans hC.2 hb9.size⟩, trivial, trivial, Kd.R_below hS hb9, Kd.R_lower hr9 hC.2⟩
        case z10_2o4 =>
          intro vs w hC hS hV
          replace hS : (Kd.int .u8).R 5 w gp (fun _ => True) (vs 0) [5] ∧ (Kd.int .u8).R 5 w gp (fun _ => True) (vs 3) pb := hS
          rw [if_pos (by kernel_rfl)]
          generalize hρ : rho _ _ _ vs = ρ
          have d23 : (fun (w : World) (v : Value) => True) w (vs 0) := hV 0 (by kernel_rfl)
          have e23 : ρ (.tmp 23) = vs 0 := by rw [← hρ]; kernel_rfl
          have d26 : (fun (w : World) (v : Value) => True) w (vs 3) := hV 3 (by kernel_rfl)
          have e26 : ρ (.tmp 26) = vs 3 := by rw [← hρ]; kernel_rfl
          clear hρ hV
          obtain ⟨A5, c5, h5, l5, q5⟩ := Kd.R_reads hS.2
          rw [h5] at e26
          refine runs_append (Kd.int .u8) (Rr := fun x cs => cs = [.int .u8 x]) gp 23 26 23 5 (.int .u8 0) 1 rfl Try.underlying23 np_info rfl (by decide) (by decide) (vs 0) [5] pb A5 pb.length c5 (fun _ => True) (fun _ => False) e23 e26 hS.1 q5 (fun _ _ h => h) (fun _ h => h.elim) (fun _ _ => trivial) hC.2 (by have := HPL.out; simp; omega) ?_
          intro v1 w1 h1 hg1 hat
          exact ⟨⟨hC.1.trans ((Below.refl gp w).grown hg1 hC.2 (fun j hj => Kd.R_base hS.1 j hj)), Nat.le_trans hC.2 hg1.size⟩, trivial, trivial, h1⟩
        case z10_2o5 =>
          intro vs w hC hS hV
          replace hS : (Kd.int .u8).R 5 w gp (fun _ => True) (vs 4) ([5] ++ pb) := hS
          rw [if_pos (by kernel_rfl)]
          generalize hρ : rho _ _ _ vs = ρ
          have d27 : (fun (w : World) (v : Value) => True) w (vs 4) := hV 4 (by kernel_rfl)
          have e27 : ρ (.tmp 27) = vs 4 := by rw [← hρ]; kernel_rfl
          clear hρ hV
          refine runs_val (v := vs 4) (w' := w) ?_ ⟨hC, trivial, trivial, hS⟩
          clear hS hC
          go_simp
        case z10_2e =>
          intro vs V2 hC hS hV
          replace hS : (fun (w : World) => (Kd.int .u8).R 5 w gp (fun _ => True) (vs 5) ([5] ++ pb)) V2 := hS
          have d23 : (fun (w : World) (v : Value) => True) V2 (vs 0) := hV 0 (Nat.le_of_ble_eq_true rfl)
          have d24 : (vs 1) = .pointer (some ⟨B, 3, none⟩) := hV 1 (Nat.le_of_ble_eq_true rfl)
          have d25 : (vs 2) = .agg #[.int .u32 tk, .int .u32 hs, .slice A n c, .slice A2 nc c2] := hV 2 (Nat.le_of_ble_eq_true rfl)
          have d26 : (fun (w : World) (v : Value) => True) V2 (vs 3) := hV 3 (Nat.le_of_ble_eq_true rfl)
          have d27 : (fun (w : World) (v : Value) => True) V2 (vs 4) := hV 4 (Nat.le_of_ble_eq_true rfl)
          have d2 : (fun (w : World) (v : Value) => True) V2 (vs 5) := hV 5 (Nat.le_of_ble_eq_true rfl)
          clear hV
          simp only [putAll]
          rw [d24, d25]
          clear d24 d25
          generalize vs 0 = v23 at *
          generalize vs 3 = v26 at *
          generalize vs 4 = v27 at *
          generalize vs 5 = v2 at *
          clear vs
          simp only [Act.put, List.setIfInBounds_toArray, List.set_cons_zero, List.set_cons_succ]
          have HR2 := Aside0.mk (Kd.R_lower hS (Nat.le_of_lt GD.out))
          have HB2 := Aside0.mk (HW0.out _ hC.1)
          clear hS hC
          go_wp2_with fail
          go_ret
          rw [HB.out, HE.out]
          exact ⟨_, rfl, HR2.out, HB2.out⟩
      · skip
        by_cases h6 : k = 6
        · subst h6
          have HE : Aside0 (mb = [6] ++ pb) := ⟨HMB.out⟩
          clear HMB
          go_wp2_with fail
          clear c0
          refine regionS (W := V1)
            [fun _ _ => True,
             fun _ v => v = .pointer (some ⟨B, 3, none⟩),
             fun _ v => v = .agg #[.int .u32 tk, .int .u32 hs, .slice A n c, .slice A2 nc c2],
             fun _ _ => True,
             fun _ _ => True,
             fun _ _ => True]
            [0, 3, 4, 5]
            (fun t => match t with | 0 => fun (rs : List Value) (w : World) => ∃ v, Pn w gp gp [6] v | 1 => fun (rs : List Value) (w : World) => (Kd.int .u8).R 5 w gp (fun _ => True) (rs.getD 0 undef) [6] | 2 => fun (rs : List Value) (w : World) => (Kd.int .u8).R 5 w gp (fun _ => True) (rs.getD 0 undef) [6] ∧ (Kd.int .u8).R 5 w gp (fun _ => True) (rs.getD 1 undef) pb | 3 => fun (rs : List Value) (w : World) => (Kd.int .u8).R 5 w gp (fun _ => True) (rs.getD 2 undef) ([6] ++ pb) | 4 => fun (rs : List Value) (w : World) => (Kd.int .u8).R 5 w gp (fun _ => True) (rs.getD 3 undef) ([6] ++ pb) | _ => fun _ _ => False)
            (fun _ _ _ => True) (fun w => Below gp V0 w ∧ gp ≤ w.heap.size)
            (fun j =>  none)
            [(0, some 23), (1, some 24), (2, some 25), (3, some 26), (4, some 27), (5, some 2)]
            []
            (by kernel_rfl) (by kernel_rfl) (by kernel_rfl) (by kernel_rfl) (by kernel_rfl) ?z10_3c ?z10_3i ?z10_3b ?z10_3d ?z10_3g ⟨?z10_3t0, ?z10_3t1, ?z10_3t2, ?z10_3t3, ?z10_3t4, ?z10_3t5, trivial⟩ ⟨?z10_3o0, ?z10_3o1, ?z10_3o2, ?z10_3o3, ?z10_3o4, ?z10_3o5, trivial⟩ ?z10_3e
          case z10_3c => exact ⟨HB1.out.trans (below_drew (Below.refl _ _)), Nat.le_of_lt (blk_lt HP1.out.1)⟩
          case z10_3i => exact ⟨_, HP1.out⟩
          case z10_3b => intro w w' hb h; exact ⟨h.1.trans (hb.mono h.2), Nat.le_trans h.2 hb.size⟩
          case z10_3d =>
            intro t rs w w' hb h
            match t, h with
            | 0, h => (replace h : ∃ v, Pn w gp gp [6] v := h); show ∃ v, Pn w' gp gp [6] v; first | exact Kd.R_below h hb | exact ⟨Kd.R_below h.1 hb, Kd.R_below h.2 hb⟩ | (obtain ⟨v, h⟩ := h; exact ⟨v, h.below hb⟩)
            | 1, h => (replace h : (Kd.int .u8).R 5 w gp (fun _ => True) (rs.getD 0 undef) [6] := h); show (Kd.int .u8).R 5 w' gp (fun _ => True) (rs.getD 0 undef) [6]; first | exact Kd.R_below h hb | exact ⟨Kd.R_below h.1 hb, Kd.R_below h.2 hb⟩ | (obtain ⟨v, h⟩ := h; exact ⟨v, h.below hb⟩)
            | 2, h => (replace h : (Kd.int .u8).R 5 w gp (fun _ => True) (rs.getD 0 undef) [6] ∧ (Kd.int .u8).R 5 w gp (fun _ => True) (rs.getD 1 undef) pb := h); show (Kd.int .u8).R 5 w' gp (fun _ => True) (rs.getD 0 undef) [6] ∧ (Kd.int .u8).R 5 w' gp (fun _ => True) (rs.getD 1 undef) pb; first | exact Kd.R_below h hb | exact ⟨Kd.R_below h.1 hb, Kd.R_below h.2 hb⟩ | (obtain ⟨v, h⟩ := h; exact ⟨v, h.below hb⟩)
            | 3, h => (replace h : (Kd.int .u8).R 5 w gp (fun _ => True) (rs.getD 2 undef) ([6] ++ pb) := h); show (Kd.int .u8).R 5 w' gp (fun _ => True) (rs.getD 2 undef) ([6] ++ pb); first | exact Kd.R_below h hb | exact ⟨Kd.R_below h.1 hb, Kd.R_below h.2 hb⟩ | (obtain ⟨v, h⟩ := h; exact ⟨v, h.below hb⟩)
            | 4, h => (replace h : (Kd.int .u8).R 5 w gp (fun _ => True) (rs.getD 3 undef) ([6] ++ pb) := h); show (Kd.int .u8).R 5 w' gp (fun _ => True) (rs.getD 3 undef) ([6] ++ pb); first | exact Kd.R_below h hb | exact ⟨Kd.R_below h.1 hb, Kd.R_below h.2 hb⟩ | (obtain ⟨v, h⟩ := h; exact ⟨v, h.below hb⟩)
            | _ + 5, h => exact h.elim
          case z10_3g =>
            intro j hj; cases hj
          case z10_3t0 => exact StabS.const _ _ _ _
          case z10_3t1 => exact StabS.const _ _ _ _
          case z10_3t2 => exact StabS.const _ _ _ _
          case z10_3t3 => exact StabS.const _ _ _ _
          case z10_3t4 => exact StabS.const _ _ _ _
          case z10_3t5 => exact StabS.const _ _ _ _
          case z10_3o0 =>
            intro vs w hC hS hV
            replace hS : ∃ v, Pn w gp gp [6] v := hS
            rw [if_pos (by kernel_rfl)]
            generalize hρ : rho _ _ _ vs = ρ
            have e3 : ρ (.tmp 3) = .pointer (some ⟨gp, 0, none⟩) := by rw [← hρ]; kernel_rfl
            have ef40 : ρ (.func 40) = .func (.func 40) #[] #[] := by rw [← hρ]; rfl
            clear hρ hV
            obtain ⟨v, hp⟩ := hS
            refine runs_call (f := 40) (args := #[.pointer (some ⟨gp, 0, none⟩)]) (w' := w) ?_ ?_
            · go_simp
            · refine (pbytes_any gp gp [6] v w hp (by simp)).mono ?_
              rintro e w5 ⟨v9, rfl, hr9, hb9⟩
              exact ⟨_, rfl, ⟨hC.1.trans (hb9.mono hC.2), Nat.le_trans hC.2 hb9.size⟩, trivial, trivial, Kd.R_lower hr9 hC.2⟩
          case z10_3o1 =>
            intro vs w t hC ht1 ht2 hS hV
            rw [if_pos (by kernel_rfl)]
            generalize hρ : rho _ _ _ vs = ρ
            have e1 : ρ (.tmp 1) = .pointer (some ⟨B, 0, none⟩) := by rw [← hρ]; kernel_rfl
            clear hρ hV
            refine runs_val (v := .pointer (some ⟨B, 3, none⟩)) (w' := w) ?_ ⟨Below.refl _ _, rfl⟩
            clear ht1 ht2 hS hC
            go_simp <;> (first | exact IntWalk.u64_in _ (by omega) | exact IntWalk.u32_in _ (by omega) | exact IntWalk.u16_in _ (by omega) | exact IntWalk.u8_in _ (by omega) | exact IntWalk.i64_in _ (by omega) | skip)
          case z10_3o2 =>
            intro vs w t hC ht1 ht2 hS hV
            rw [if_pos (by kernel_rfl)]
            generalize hρ : rho _ _ _ vs = ρ
            have d24 : (vs 1) = .pointer (some ⟨B, 3, none⟩) := hV 1 (by kernel_rfl)
            have e24 : ρ (.tmp 24) = vs 1 := by rw [← hρ]; kernel_rfl
            rw [d24] at e24; clear d24
            clear hρ hV
            have c3 := HCL.out.2.2.2.1 w hC.1
            have c4 := HCL.out.2.2.2.2.1 w hC.1
            have c5 := HCL.out.2.2.2.2.2.1 w hC.1
            have c6 := HCL.out.2.2.2.2.2.2 w hC.1
            refine runs_val (v := .agg #[.int .u32 tk, .int .u32 hs, .slice A n c, .slice A2 nc c2]) (w' := w) ?_ ⟨Below.refl _ _, rfl⟩
            clear ht1 ht2 hS hC
            go_simp
          case z10_3o3 =>
            intro vs w hC hS hV
            replace hS : (Kd.int .u8).R 5 w gp (fun _ => True) (vs 0) [6] := hS
            rw [if_pos (by kernel_rfl)]
            generalize hρ : rho _ _ _ vs = ρ
            have d25 : (vs 2) = .agg #[.int .u32 tk, .int .u32 hs, .slice A n c, .slice A2 nc c2] := hV 2 (by kernel_rfl)
            have e25 : ρ (.tmp 25) = vs 2 := by rw [← hρ]; kernel_rfl
            rw [d25] at e25; clear d25
            have ef41 : ρ (.func 41) = .func (.func 41) #[] #[] := by rw [← hρ]; rfl
            clear hρ hV
            refine runs_call (f := 41) (args := #[.agg #[.int .u32 tk, .int .u32 hs, .slice A n c, .slice A2 nc c2]]) (w' := w) ?_ ?_
            · go_simp
            · refine (KB.out w (HW0.out w hC.1)).mono ?_
              rintro e w5 ⟨v9, rfl, hr9, hb9⟩
              exact ⟨_, rfl, ⟨hC.1.trans (hb9.mono hC.2), Nat.le_trans hC.2 hb9.size⟩, trivial, trivial, Kd.R_below hS hb9, Kd.R_lower hr9 hC.2⟩
          case z10_3o4 =>
            intro vs w hC hS hV
            replace hS : (Kd.int .u8).R 5 w gp (fun _ => True) (vs 0) [6] ∧ (Kd.int .u8).R 5 w gp (fun _ => True) (vs 3) pb := hS
            rw [if_pos (by kernel_rfl)]
            generalize hρ : rho _ _ _ vs = ρ
            have d23 : (fun (w : World) (v : Value) => True) w (vs 0) := hV 0 (by kernel_rfl)
            have e23 : ρ (.tmp 23) = vs 0 := by rw [← hρ]; kernel_rfl
            have d26 : (fun (w : World) (v : Value) => True) w (vs 3) := hV 3 (by kernel_rfl)
            have e26 : ρ (.tmp 26) = vs 3 := by rw [← hρ]; kernel_rfl
            clear hρ hV
            obtain ⟨A5, c5, h5, l5, q5⟩ := Kd.R_reads hS.2
            rw [h5] at e26
            refine runs_append (Kd.int .u8) (Rr := fun x cs => cs = [.int .u8 x]) gp 23 26 23 5 (.int .u8 0) 1 rfl Try.underlying23 np_info rfl (by decide) (by decide) (vs 0) [6] pb A5 pb.length c5 (fun _ => True) (fun _ => False) e23 e26 hS.1 q5 (fun _ _ h => h) (fun _ h => h.elim) (fun _ _ => trivial) hC.2 (by have := HPL.out; simp; omega) ?_
            intro v1 w1 h1 hg1 hat
            exact ⟨⟨hC.1.trans ((Below.refl gp w).grown hg1 hC.2 (fun j hj => Kd.R_base hS.1 j hj)), Nat.le_trans hC.2 hg1.size⟩, trivial, trivial, h1⟩
          case z10_3o5 =>
            intro vs w hC hS hV
            replace hS : (Kd.int .u8).R 5 w gp (fun _ => True) (vs 4) ([6] ++ pb) := hS
            rw [if_pos (by kernel_rfl)]
            generalize hρ : rho _ _ _ vs = ρ
            have d27 : (fun (w : World) (v : Value) => True) w (vs 4) := hV 4 (by kernel_rfl)
            have e27 : ρ (.tmp 27) = vs 4 := by rw [← hρ]; kernel_rfl
            clear hρ hV
            refine runs_val (v := vs 4) (w' := w) ?_ ⟨hC, trivial, trivial, hS⟩
            clear hS hC
            go_simp
          case z10_3e =>
            intro vs V2 hC hS hV
            replace hS : (fun (w : World) => (Kd.int .u8).R 5 w gp (fun _ => True) (vs 5) ([6] ++ pb)) V2 := hS
            have d23 : (fun (w : World) (v : Value) => True) V2 (vs 0) := hV 0 (Nat.le_of_ble_eq_true rfl)
            have d24 : (vs 1) = .pointer (some ⟨B, 3, none⟩) := hV 1 (Nat.le_of_ble_eq_true rfl)
            have d25 : (vs 2) = .agg #[.int .u32 tk, .int .u32 hs, .slice A n c, .slice A2 nc c2] := hV 2 (Nat.le_of_ble_eq_true rfl)
            have d26 : (fun (w : World) (v : Value) => True) V2 (vs 3) := hV 3 (Nat.le_of_ble_eq_true rfl)
            have d27 : (fun (w : World) (v : Value) => True) V2 (vs 4) := hV 4 (Nat.le_of_ble_eq_true rfl)
            have d2 : (fun (w : World) (v : Value) => True) V2 (vs 5) := hV 5 (Nat.le_of_ble_eq_true rfl)
            clear hV
            simp only [putAll]
            rw [d24, d25]
            clear d24 d25
            generalize vs 0 = v23 at *
            generalize vs 3 = v26 at *
            generalize vs 4 = v27 at *
            generalize vs 5 = v2 at *
            clear vs
            simp only [Act.put, List.setIfInBounds_toArray, List.set_cons_zero, List.set_cons_succ]
            have HR2 := Aside0.mk (Kd.R_lower hS (Nat.le_of_lt GD.out))
            have HB2 := Aside0.mk (HW0.out _ hC.1)
            clear hS hC
            go_wp2_with fail
            go_ret
            rw [HB.out, HE.out]
            exact ⟨_, rfl, HR2.out, HB2.out⟩
        · skip
          have HE : Aside0 (mb = [k]) := ⟨by rw [HMB.out, if_neg h2, if_neg (by omega)]⟩
          clear HMB
          go_wp2_with fail
          refine (pbytes_any gp gp [k] v1 V1 HP1.out (by simp [lowN_length])).mono ?_
          rintro e V9 ⟨v9, rfl, hr9, hb9⟩
          have HR9 := Aside0.mk (Kd.R_lower hr9 (Nat.le_trans (Nat.le_of_lt GD.out) (Nat.le_of_lt (blk_lt HP1.out.1))))
          have HB9 := Aside0.mk (HW0.out _ (HB1.out.trans (hb9.mono (Nat.le_of_lt (blk_lt HP1.out.1)))))
          clear hr9 hb9
          go_wp2_with fail
          go_ret
          rw [HB.out, HE.out]
          exact ⟨_, rfl, HR9.out, HB9.out⟩
end Go.Proofs.Yticpjidcgaaldaa

namespace Go.Proofs.Yticpjidcgaaldaa
open Go.RowKit Go.Proofs.YticpjidcgaaldaaW.PrintWords Go.Proofs.YticpjidcgaaldaaW.PrintLast Go.Proofs.YticpjidcgaaldaaW.PrintMore
set_option linter.unusedVariables false
set_option linter.unusedSimpArgs false

/-- What is read of any bytes. -/
structure MRes where
  ok : Bool
  k : Int
  t : Int
  m : Int
  tk : Int
  hs : Int
  P : List Int
  C : List S59
def badR : MRes := ⟨false, 0, 0, 0, 0, 0, [], []⟩
def readR : List Int → MRes
  | [] => badR
  | x :: r => if x = 2 then (if r.length = 8 then ⟨true, 2, leN (r.take 4), leN ((r.drop 4).take 4), 0, 0, [], []⟩ else badR)
    else if x = 5 ∨ x = 6 then (if okD r = true then ⟨true, x, tkQ r, 0, tkQ r, hsQ r, plQ r, clQ r⟩ else badR)
    else if x = 1 ∨ x = 3 ∨ x = 4 then (if r.length = 0 then ⟨true, x, 0, 0, 0, 0, [], []⟩ else badR) else badR
theorem readR_two (r : List Int) : readR (2 :: r) = if r.length = 8 then ⟨true, 2, leN (r.take 4), leN ((r.drop 4).take 4), 0, 0, [], []⟩ else badR := by simp only [readR, if_true]
theorem readR_five {x : Int} (r : List Int) (h2 : ¬ x = 2) (h : x = 5 ∨ x = 6) : readR (x :: r) = if okD r = true then ⟨true, x, tkQ r, 0, tkQ r, hsQ r, plQ r, clQ r⟩ else badR := by simp only [readR]; rw [if_neg h2, if_pos h]
theorem readR_oth {x : Int} (r : List Int) (h2 : ¬ x = 2) (h : ¬ (x = 5 ∨ x = 6)) : readR (x :: r) = if x = 1 ∨ x = 3 ∨ x = 4 then (if r.length = 0 then ⟨true, x, 0, 0, 0, 0, [], []⟩ else badR) else badR := by simp only [readR]; rw [if_neg h2, if_neg h]
theorem OfR.msg {b : Nat} {w : World} {k t m tk hs : Int} {P : List Int} {C : List S59} {x y : Value} (h : OfR b w tk hs P C (.agg #[.int .u32 tk, .int .u32 hs, x, y])) : MsC w k t m tk hs P C (.agg #[.int .u8 k, .int .u32 t, .int .u32 m, .int .u32 tk, .int .u32 hs, x, y]) := by
  obtain ⟨A, c, A2, c2, he, h1, h2, h3, h4⟩ := h.cells
  injection he with he
  simp only [Array.mk.injEq, List.cons.injEq, and_true, true_and] at he
  obtain ⟨rfl, rfl⟩ := he
  exact ⟨A, c, A2, c2, rfl, h1, h2, h3, h4⟩
theorem parse_formR {q : List Int} {b : Nat} {w' : World} {e : Ending} (h : ParseR q b w' e) : ∃ A n c A2 m c2, e = .returned (.tuple #[.agg #[.int .u32 (tkQ q), .int .u32 (hsQ q), .slice A n c, .slice A2 m c2], .int .i64 (ecD q)]) ∧
    OfR b w' (tkQ q) (hsQ q) (plQ q) (clQ q) (.agg #[.int .u32 (tkQ q), .int .u32 (hsQ q), .slice A n c, .slice A2 m c2]) := by
  unfold ParseR at h
  unfold tkQ hsQ plQ clQ ecD
  by_cases hk : okD q = true
  · simp only [hk, if_true] at h ⊢
    obtain ⟨v, rfl, hv⟩ := h
    obtain ⟨A, c, A2, c2, rfl, h1, h2, h3, h4⟩ := hv
    exact ⟨A, _, c, A2, _, c2, rfl, A, c, A2, c2, rfl, h1, h2, h3, h4⟩
  · simp only [hk, if_false] at h ⊢
    subst h
    exact ⟨none, 0, 0, none, 0, 0, rfl, none, 0, none, 0, rfl, Nat.le_refl _, Nat.le_refl _, Kd.R_nil _ _ _ _ _, Kd.R_nil _ _ _ _ _⟩
theorem Hp.eyeL {B0 B ge : Nat} {w0 w w' : World} {L : List (Nat × Obj)} {l : List Int} {b : Bool} (h : Hp B0 w0 w L []) (he : EyTo w w' ge B l b) (h0 : B0 ≤ ge) (hne : ∀ p ∈ L, p.1 ≠ ge) : Hp B0 w0 w' L [] :=
  ⟨h.1.trans (he.2.2.mono h0), fun p hp => ⟨(he.2.1.2 p.1 (blk_lt (h.2.1 p hp).1) (hne p hp) (by simp)).trans (h.2.1 p hp).1, (h.2.1 p hp).2⟩, h.2.2.1, Nat.le_trans h.le he.2.1.1, fun φ hφ => by cases hφ⟩
theorem zero_msg (w : World) : (zeroValue 28).run Try.prog w = .ok (.agg #[.int .u8 0, .int .u32 0, .int .u32 0, .int .u32 0, .int .u32 0, .slice none 0 0, .slice none 0 0]) w := by kernel_rfl
theorem MsC_zero (w : World) (k t m : Int) : MsC w k t m 0 0 [] [] (.agg #[.int .u8 k, .int .u32 t, .int .u32 m, .int .u32 0, .int .u32 0, .slice none 0 0, .slice none 0 0]) :=
  ⟨none, 0, none, 0, rfl, Nat.le_refl _, Nat.le_refl _, Kd.C_nil _ _, Kd.C_nil _ _⟩
theorem OkM_zero {k t m : Int} (hk : 0 ≤ k ∧ k < 256) (ht : 0 ≤ t ∧ t < 4294967296) (hm : 0 ≤ m ∧ m < 4294967296) : OkM k t m 0 0 [] [] := ⟨hk, ht, hm, by omega, by omega, Bytes.nil, (fun y hy => by cases hy), by simp, by simp⟩
def ReadM (q : List Int) (w' : World) (e : Ending) : Prop := ∃ v, e = .returned (.tuple #[v, .int .i64 (if (readR q).ok = true then 0 else 2)]) ∧ MsC w' (readR q).k (readR q).t (readR q).m (readR q).tk (readR q).hs (readR q).P (readR q).C v
theorem ReadM.of {q : List Int} {r : MRes} {w' : World} {v : Value} (hq : readR q = r) (hv : MsC w' r.k r.t r.m r.tk r.hs r.P r.C v) : ReadM q w' (.returned (.tuple #[v, .int .i64 (if r.ok = true then 0 else 2)])) := by
  subst hq; exact ⟨v, rfl, hv⟩

set_option maxRecDepth 100000 in
set_option maxHeartbeats 16000000 in
theorem mread_any (A : Option Addr) (n c : Nat) (q : List Int) (w00 : World) (hq : (Kd.int .u8).C w00 A n q) (hc : n ≤ c) (hn : n ≤ 100000000) (hb : Bytes q) :
    Calls Try.prog 17 #[.slice A n c] w00 fun e w' => ReadM q w' e ∧ Below w00.heap.size w00 w' := by
  have HF : Aside0 (∀ z, Below w00.heap.size w00 z → (Kd.int .u8).C z A n q) := ⟨fun z hz => Kd.C_below hq hz⟩
  obtain ⟨B, hB⟩ : ∃ B, w00.heap.size = B := ⟨_, rfl⟩
  have H0 := Aside0.mk ((Hp.start w00).allocAt (.cells #[.int .u8 0, .int .u32 0, .int .u32 0, .int .u32 0, .int .u32 0, .slice none 0 0, .slice none 0 0] 28) B hB)
  rw [hB] at H0 HF
  rw [hB]
  have HN := Aside0.mk (And.intro hn (And.intro hc hq.1))
  have HBQ := Aside0.mk hb
  have KR := Aside0.mk (fun (z : World) (h : Below B w00 z) => read_any A n c q z (HF.out z h) hn)
  have HB := Aside0.mk hB
  have hz7 := zero_msg
  clear hq hn hb hc
  go_enter Try.func17, Try.ntmps17
  go_wp2_with fail
  clear hB
  refine (KR.out _ H0.out.bel).mono ?_
  rintro e w1 ⟨ge, rfl, hge, hEy, hb1⟩
  obtain ⟨BB, hBB⟩ : ∃ BB, w1.heap.size = BB := ⟨_, rfl⟩
  rw [hBB] at hEy
  have hgB : ge < BB := by obtain ⟨_, _, _, _, _, _, _, h5⟩ := hEy; exact h5
  have hge2 : B < ge := Nat.lt_of_lt_of_le (H0.out.lt (i := 0) rfl) hge
  have HGE := Aside0.mk (And.intro hge2 (And.intro hgB (show BB ≤ w1.heap.size by omega)))
  have H1 := Aside0.mk (H0.out.call hb1)
  have HE1 := Aside0.mk hEy
  clear hge hEy hb1 hBB hge2 hgB H0 KR
  obtain ⟨⟨x, l1, b1⟩, e1⟩ : ∃ y, eByte q false = y := ⟨_, rfl⟩
  have K1 := ebyte_any ge BB q false w1 HE1.out
  rw [e1] at K1
  have KK1 := Aside0.mk K1
  have HEB := Aside0.mk e1
  clear K1 e1
  go_wp2_with fail
  refine KK1.out.mono ?_
  rintro e w2 ⟨rfl, he2⟩
  have H2 := Aside0.mk (H1.out.eyeL he2 (Nat.le_of_lt HGE.out.1) (fun p hp => by obtain rfl := List.mem_singleton.1 hp; exact Nat.ne_of_lt HGE.out.1))
  have HE2 := Aside0.mk he2.1
  have HS2 : Aside0 (ge < w2.heap.size ∧ BB ≤ w2.heap.size) := ⟨Nat.lt_of_lt_of_le HGE.out.2.1 (Nat.le_trans HGE.out.2.2 he2.2.1.1), Nat.le_trans HGE.out.2.2 he2.2.1.1⟩
  clear he2 H1 HE1 KK1
  obtain ⟨g5, hg5⟩ : ∃ g5, w2.heap.size = g5 := ⟨_, rfl⟩
  have H3 := Aside0.mk (H2.out.allocAt (.cells #[.int .u8 x, .int .u32 0, .int .u32 0, .int .u32 0, .int .u32 0, .slice none 0 0, .slice none 0 0] 28) g5 hg5)
  have HE3 := Aside0.mk (HE2.out.below ((below_alloc (Below.refl w2.heap.size w2) (.cells #[.int .u8 x, .int .u32 0, .int .u32 0, .int .u32 0, .int .u32 0, .slice none 0 0, .slice none 0 0] 28)).mono HS2.out.2) HS2.out.2)
  have HG5 : Aside0 (ge < g5 ∧ B < g5 ∧ BB ≤ g5) := ⟨by rw [← hg5]; exact HS2.out.1, by have := HGE.out.1; have := HS2.out.1; omega, by rw [← hg5]; exact HS2.out.2⟩
  clear H2 HE2 HS2
  have HG5E := Aside0.mk hg5
  have HX : Aside0 (0 ≤ x ∧ x < 256) := ⟨by have := (eByte_b (bad := false) HBQ.out).1; rw [HEB.out] at this; exact this⟩
  have HBL1 : Aside0 (Bytes l1) := ⟨by have := (eByte_b (bad := false) HBQ.out).2; rw [HEB.out] at this; exact this⟩
  have HQ : Aside0 ((q = [] ∧ x = 0 ∧ l1 = [] ∧ b1 = true) ∨ (q = x :: l1 ∧ b1 = false)) := ⟨by
    have e1 := HEB.out
    cases q with
    | nil => rw [eByte_short (by simp)] at e1; simp only [Prod.mk.injEq] at e1; exact .inl ⟨rfl, e1.1.symm, e1.2.1.symm, e1.2.2.symm⟩
    | cons y r => rw [eByte_good (by simp)] at e1; simp only [Prod.mk.injEq] at e1; obtain ⟨rfl, rfl, rfl⟩ := e1; exact .inr ⟨rfl, rfl⟩⟩
  clear HEB
  by_cases x2 : x = 2
  · subst x2
    have HQ2 : Aside0 (q = 2 :: l1 ∧ b1 = false) := ⟨by rcases HQ.out with h | h; exact absurd h.2.1 (by decide); exact h⟩
    obtain rfl := HQ2.out.2
    obtain ⟨⟨t, l2, b2⟩, e2⟩ : ∃ y, eFix 4 l1 false = y := ⟨_, rfl⟩
    obtain ⟨⟨m, l3, b3⟩, e3⟩ : ∃ y, eFix 4 l2 b2 = y := ⟨_, rfl⟩
    have hBl2 : Bytes l2 := by have := eFix_b (bad := false) 4 HBL1.out; rw [e2] at this; exact this
    have KK2 := Aside0.mk (fun (X : World) (hx : Ey X ge BB l1 false) => eword_any ge BB l1 false X hx HBL1.out)
    have KK3 := Aside0.mk (fun (X : World) (hx : Ey X ge BB l2 b2) => eword_any ge BB l2 b2 X hx hBl2)
    rw [e2] at KK2
    rw [e3] at KK3
    have HT2 : Aside0 ((b3 = true ∨ 0 < l3.length → readR q = badR) ∧ (¬ (b3 = true ∨ 0 < l3.length) → readR q = ⟨true, 2, t, m, 0, 0, [], []⟩) ∧ (0 ≤ t ∧ t < 4294967296) ∧ 0 ≤ m ∧ m < 4294967296) := ⟨by
      rw [HQ2.out.1, readR_two]
      by_cases h4 : 4 ≤ l1.length
      · rw [eFix_good h4] at e2
        simp only [Prod.mk.injEq] at e2
        obtain ⟨rfl, rfl, rfl⟩ := e2
        have ht := leN4 HBL1.out
        by_cases h8 : 8 ≤ l1.length
        · rw [eFix_good (by rw [List.length_drop]; omega)] at e3
          simp only [Prod.mk.injEq] at e3
          obtain ⟨rfl, rfl, rfl⟩ := e3
          have hm := leN4 (HBL1.out.drop 4)
          rw [List.drop_drop, List.length_drop]
          unfold U32 at ht hm
          refine ⟨fun h => ?_, fun h => ?_, ht, hm⟩
          · rw [if_neg (by rcases h with h | h; cases h; omega)]
          · rw [if_pos (by have := fun q => h (.inr q); omega)]
        · rw [eFix_short (by rw [List.length_drop]; omega)] at e3
          simp only [Prod.mk.injEq] at e3
          obtain ⟨rfl, rfl, rfl⟩ := e3
          unfold U32 at ht
          exact ⟨fun h => by rw [if_neg (by omega)], fun h => absurd (.inl rfl) h, ht, by omega, by omega⟩
      · rw [eFix_short (by omega)] at e2
        simp only [Prod.mk.injEq] at e2
        obtain ⟨rfl, rfl, rfl⟩ := e2
        rw [eFix_bad] at e3
        simp only [Prod.mk.injEq] at e3
        obtain ⟨rfl, rfl, rfl⟩ := e3
        exact ⟨fun h => by rw [if_neg (by omega)], fun h => absurd (.inl rfl) h, by omega, by omega, by omega⟩⟩
    clear e2 e3 hBl2
    go_wp2_with fail
    generalize w2.alloc (.cells #[.int .u8 2, .int .u32 0, .int .u32 0, .int .u32 0, .int .u32 0, .slice none 0 0, .slice none 0 0] 28) = W3 at *
    clear hg5
    refine (KK2.out _ HE3.out).mono ?_
    rintro e w4 ⟨rfl, he4⟩
    have H4 := Aside0.mk (H3.out.eyeL he4 (Nat.le_of_lt HGE.out.1) (fun p hp => by
      simp only [List.mem_cons, List.not_mem_nil, or_false] at hp
      rcases hp with rfl | rfl
      · exact Nat.ne_of_gt HG5.out.1
      · exact Nat.ne_of_lt HGE.out.1))
    have HE4 := Aside0.mk he4.1
    clear he4 H3 HE3 KK2
    go_wp2_with fail
    refine (KK3.out _ HE4.out).mono ?_
    rintro e w5 ⟨rfl, he5⟩
    have H5 := Aside0.mk (H4.out.eyeL he5 (Nat.le_of_lt HGE.out.1) (fun p hp => by
      simp only [List.mem_cons, List.not_mem_nil, or_false] at hp
      rcases hp with rfl | rfl
      · exact Nat.ne_of_gt HG5.out.1
      · exact Nat.ne_of_lt HGE.out.1))
    have HE5 := Aside0.mk he5.1
    have HS5 : Aside0 (BB ≤ w5.heap.size) := ⟨Nat.le_trans HG5.out.2.2 (Nat.le_of_lt (H5.out.lt (i := 0) rfl))⟩
    clear he5 H4 HE4 KK3
    have c1 := blk_cell (H5.out.get (i := 0) rfl) 1
    have c2 := blk_cell (H5.out.get (i := 0) rfl) 2
    have f1 := blk_frozen (H5.out.get (i := 0) rfl) 1
    have f2 := blk_frozen (H5.out.get (i := 0) rfl) 2
    go_wp2_with fail
    clear c1 c2 f1 f2
    have H6 := Aside0.mk ((H5.out.setCell (i := 0) rfl 1 (.int .u32 t)).setCell (i := 0) rfl 2 (.int .u32 m))
    have HE6 := Aside0.mk (HE5.out.below (((Below.refl BB w5).setCell (p := ⟨g5, 1, none⟩) HG5.out.2.2 (.int .u32 t)).setCell (p := ⟨g5, 2, none⟩) HG5.out.2.2 (.int .u32 m)) HS5.out)
    clear H5 HE5 HS5
    generalize (w5.setCell ⟨g5, 1, none⟩ (.int .u32 t)).setCell ⟨g5, 2, none⟩ (.int .u32 m) = W6 at *
    have H7 : Aside0 (Hp B w00 W6 [(g5, .cells #[.int .u8 2, .int .u32 t, .int .u32 m, .int .u32 0, .int .u32 0, .slice none 0 0, .slice none 0 0] 28 (0, 0)), (B, .cells #[.int .u8 0, .int .u32 0, .int .u32 0, .int .u32 0, .int .u32 0, .slice none 0 0, .slice none 0 0] 28 (0, 0))] []) := ⟨H6.out⟩
    clear H6
    refine (done_any ge BB l3 b3 W6 HE6.out).mono ?_
    rintro e w7 ⟨rfl, rfl⟩
    by_cases hd : b3 = true ∨ 0 < l3.length
    · rw [if_pos hd]
      have HDD := Aside0.mk (HT2.out.1 hd)
      clear hd
      go_wp2_with (first | (refine wpList_store_row rfl 28 (.tmp 2) (.tmp 49) rfl B #[.int .u8 0, .int .u32 0, .int .u32 0, .int .u32 0, .int .u32 0, .slice none 0 0, .slice none 0 0] rfl rfl 28 _ (H7.out.get (i := 1) rfl) (msg_info _ _ _ _ _ _ _) rfl (by simp [Value.oneCell']) ?_))
      have H9 := Aside0.mk (H7.out.setRow (i := 1) rfl #[.int .u8 0, .int .u32 0, .int .u32 0, .int .u32 0, .int .u32 0, .slice none 0 0, .slice none 0 0])
      have HRQ : Aside0 (readR q = badR) := ⟨HDD.out⟩
      refine bodyPost_ret (results_ct rfl _ _ B _ #[.int .u8 0, .int .u32 0, .int .u32 0, .int .u32 0, .int .u32 0, .slice none 0 0, .slice none 0 0] (0, 0) _ rfl (H9.out.get (i := 1) rfl) Try.underlying28 rfl (msg_info _ _ _ _ _ _ _)) rfl ?_
      exact ⟨ReadM.of HRQ.out (MsC_zero _ 0 0 0), H9.out.bel⟩
    · rw [if_neg hd]
      have HDD := Aside0.mk (HT2.out.2.1 hd)
      clear hd
      go_wp2_with (first | (refine wpList_load_row_g 28 (.tmp 5) rfl g5 rfl rfl 28 _ (0, 0) _ (H7.out.get (i := 0) rfl) Try.underlying28 rfl (msg_info _ _ _ _ _ _ _) ?_))
      refine (mright_any 2 t m 0 0 [] [] _ _ (MsC_zero _ _ _ _) (OkM_zero (by omega) HT2.out.2.2.1 HT2.out.2.2.2)).mono ?_
      rintro e w8 ⟨rfl, hb8⟩
      have H8 := Aside0.mk (H7.out.call hb8)
      rw [show rightM 2 t m 0 0 [] [] = true by unfold rightM isZ; simp]
      clear hb8 H7 HE6
      go_wp2_with (first | (refine wpList_load_row_g 28 (.tmp 5) rfl g5 rfl rfl 28 _ (0, 0) _ (H8.out.get (i := 0) rfl) Try.underlying28 rfl (msg_info _ _ _ _ _ _ _) ?_) | (refine wpList_store_row rfl 28 (.tmp 2) (.tmp 50) rfl B #[.int .u8 2, .int .u32 t, .int .u32 m, .int .u32 0, .int .u32 0, .slice none 0 0, .slice none 0 0] rfl rfl 28 _ (H8.out.get (i := 1) rfl) (msg_info _ _ _ _ _ _ _) rfl (by simp [Value.oneCell']) ?_))
      have H9 := Aside0.mk ((H8.out).setRow (i := 1) rfl #[.int .u8 2, .int .u32 t, .int .u32 m, .int .u32 0, .int .u32 0, .slice none 0 0, .slice none 0 0])
      have HRQ : Aside0 (readR q = ⟨true, 2, t, m, 0, 0, [], []⟩) := ⟨HDD.out⟩
      refine bodyPost_ret (results_ct rfl _ _ B _ #[.int .u8 2, .int .u32 t, .int .u32 m, .int .u32 0, .int .u32 0, .slice none 0 0, .slice none 0 0] (0, 0) _ rfl (H9.out.get (i := 1) rfl) Try.underlying28 rfl (msg_info _ _ _ _ _ _ _)) rfl ?_
      exact ⟨ReadM.of HRQ.out (MsC_zero _ _ _ _), H9.out.bel⟩
  · skip
    by_cases x5 : x = 5
    · subst x5
      have HQ2 : Aside0 (q = 5 :: l1 ∧ b1 = false) := ⟨by rcases HQ.out with h | h; exact absurd h.2.1 (by decide); exact h⟩
      have hq1 : n = l1.length + 1 := by have := HN.out.2.2; rw [HQ2.out.1] at this; simpa using this.symm
      obtain ⟨A9, z1, z2, _⟩ := eye_lo (P := Try.prog) .u8 .i64 23 5 1 Try.underlying23 np_info A n c 1 (by omega) HN.out.2.1
      have hn1 : (1 : Int) ≤ n := by omega
      clear hq1
      have Z1 : Aside0 (∀ W : World, (Instr.slice 23 (.slice A n c) (some (.int .i64 1)) none none).run Try.prog W = .ok (.slice A9 (n - 1) (c - 1)) W) := ⟨fun W => z1 W⟩
      have Z2 : Aside0 (∀ z, Below B w00 z → (Kd.int .u8).C z A9 (n - 1) l1) := ⟨fun z hz => by have := z2 z q (HF.out z hz); rw [HQ2.out.1] at this; exact this⟩
      clear z1 z2
      have z1 := Z1.out
      go_wp2_with fail
      generalize w2.alloc (.cells #[.int .u8 5, .int .u32 0, .int .u32 0, .int .u32 0, .int .u32 0, .slice none 0 0, .slice none 0 0] 28) = W3 at *
      clear z1 Z1 hg5
      refine (parse_any A9 (n - 1) (c - 1) l1 W3 (Z2.out _ H3.out.bel) (by have := HN.out.1; omega) HBL1.out).mono ?_
      rintro e w4 ⟨hp4, hb4⟩
      obtain ⟨A5, n5, c5, A6, n6, c6, rfl, hD4⟩ := parse_formR hp4
      obtain ⟨g6, hg6⟩ : ∃ g6, w4.heap.size = g6 := ⟨_, rfl⟩
      have H4 := Aside0.mk ((H3.out.ofR hb4 hD4).allocAt (.cells #[.int .u32 (tkQ l1), .int .u32 (hsQ l1), .slice A5 n5 c5, .slice A6 n6 c6] 26) g6 hg6)
      clear hp4 hb4 hD4 H3 HE3
      obtain ⟨β, hβ⟩ : ∃ β, okD l1 = β := ⟨_, rfl⟩
      have HEC : ecD l1 = if β = true then 0 else 2 := by unfold ecD; rw [hβ]
      have HBE := Aside0.mk hβ
      clear hβ
      cases β with
      | false =>
        rw [if_neg (by decide)] at HEC
        rw [HEC]
        clear HEC
        go_wp2_with (first | (refine wpList_store_row rfl 28 (.tmp 2) (.tmp 34) rfl B #[.int .u8 0, .int .u32 0, .int .u32 0, .int .u32 0, .int .u32 0, .slice none 0 0, .slice none 0 0] rfl rfl 28 _ (H4.out.get (i := 2) rfl) (msg_info _ _ _ _ _ _ _) rfl (by simp [Value.oneCell']) ?_))
        have H9 := Aside0.mk (H4.out.setRow (i := 2) rfl #[.int .u8 0, .int .u32 0, .int .u32 0, .int .u32 0, .int .u32 0, .slice none 0 0, .slice none 0 0])
        have HRQ : Aside0 (readR q = badR) := ⟨by rw [HQ2.out.1, readR_five _ (by decide) (by decide), if_neg (by rw [HBE.out]; decide)]⟩
        refine bodyPost_ret (results_ct rfl _ _ B _ #[.int .u8 0, .int .u32 0, .int .u32 0, .int .u32 0, .int .u32 0, .slice none 0 0, .slice none 0 0] (0, 0) _ rfl (H9.out.get (i := 2) rfl) Try.underlying28 rfl (msg_info _ _ _ _ _ _ _)) rfl ?_
        exact ⟨ReadM.of HRQ.out (MsC_zero _ 0 0 0), H9.out.bel⟩
      | true =>
        rw [if_pos rfl] at HEC
        rw [HEC]
        clear HEC
        go_wp2_with fail
        generalize hW5 : w4.alloc (.cells #[.int .u32 (tkQ l1), .int .u32 (hsQ l1), .slice A5 n5 c5, .slice A6 n6 c6] 26) = W5 at *
        clear hW5 hg6
        refine regionS (W := W5)
          [fun _ v => v = .agg #[.int .u32 (tkQ l1), .int .u32 (hsQ l1), .slice A5 n5 c5, .slice A6 n6 c6],
           fun _ v => v = .pointer (some ⟨g6, 0, none⟩),
           fun _ v => v = .int .u32 (tkQ l1),
           fun _ v => v = .pointer (some ⟨g5, 3, none⟩),
           fun _ _ => True,
           fun _ v => v = .pointer (some ⟨g5, 1, none⟩),
           fun _ _ => True]
          [4, 6]
          (fun t => match t with | 0 => fun (rs : List Value) (w : World) => Hp B w00 w [(g6, .cells #[.int .u32 (tkQ l1), .int .u32 (hsQ l1), .slice A5 n5 c5, .slice A6 n6 c6] 26 (0, 0)), (g5, .cells #[.int .u8 5, .int .u32 0, .int .u32 0, .int .u32 0, .int .u32 0, .slice none 0 0, .slice none 0 0] 28 (0, 0)), (B, .cells #[.int .u8 0, .int .u32 0, .int .u32 0, .int .u32 0, .int .u32 0, .slice none 0 0, .slice none 0 0] 28 (0, 0))] [fun X => OfR B X (tkQ l1) (hsQ l1) (plQ l1) (clQ l1) (.agg #[.int .u32 (tkQ l1), .int .u32 (hsQ l1), .slice A5 n5 c5, .slice A6 n6 c6])] | 1 => fun (rs : List Value) (w : World) => Hp B w00 w [(g6, .cells #[.int .u32 (tkQ l1), .int .u32 (hsQ l1), .slice A5 n5 c5, .slice A6 n6 c6] 26 (0, 0)), (g5, .cells #[.int .u8 5, .int .u32 0, .int .u32 0, .int .u32 (tkQ l1), .int .u32 (hsQ l1), .slice A5 n5 c5, .slice A6 n6 c6] 28 (0, 0)), (B, .cells #[.int .u8 0, .int .u32 0, .int .u32 0, .int .u32 0, .int .u32 0, .slice none 0 0, .slice none 0 0] 28 (0, 0))] [fun X => OfR B X (tkQ l1) (hsQ l1) (plQ l1) (clQ l1) (.agg #[.int .u32 (tkQ l1), .int .u32 (hsQ l1), .slice A5 n5 c5, .slice A6 n6 c6])] | 2 => fun (rs : List Value) (w : World) => Hp B w00 w [(g6, .cells #[.int .u32 (tkQ l1), .int .u32 (hsQ l1), .slice A5 n5 c5, .slice A6 n6 c6] 26 (0, 0)), (g5, .cells #[.int .u8 5, .int .u32 (tkQ l1), .int .u32 0, .int .u32 (tkQ l1), .int .u32 (hsQ l1), .slice A5 n5 c5, .slice A6 n6 c6] 28 (0, 0)), (B, .cells #[.int .u8 0, .int .u32 0, .int .u32 0, .int .u32 0, .int .u32 0, .slice none 0 0, .slice none 0 0] 28 (0, 0))] [fun X => OfR B X (tkQ l1) (hsQ l1) (plQ l1) (clQ l1) (.agg #[.int .u32 (tkQ l1), .int .u32 (hsQ l1), .slice A5 n5 c5, .slice A6 n6 c6])] | _ => fun _ _ => False)
          (fun _ _ _ => True) (fun w => ∃ o, Hp B w00 w [(g6, .cells #[.int .u32 (tkQ l1), .int .u32 (hsQ l1), .slice A5 n5 c5, .slice A6 n6 c6] 26 (0, 0)), (g5, o), (B, .cells #[.int .u8 0, .int .u32 0, .int .u32 0, .int .u32 0, .int .u32 0, .slice none 0 0, .slice none 0 0] 28 (0, 0))] [fun X => OfR B X (tkQ l1) (hsQ l1) (plQ l1) (clQ l1) (.agg #[.int .u32 (tkQ l1), .int .u32 (hsQ l1), .slice A5 n5 c5, .slice A6 n6 c6])])
          (fun j =>  none)
          [(0, some 35), (1, some 36), (2, some 37), (3, some 38), (4, none), (5, some 39), (6, none)]
          []
          (by kernel_rfl) (by kernel_rfl) (by kernel_rfl) (by kernel_rfl) (by kernel_rfl) ?z11_1c ?z11_1i ?z11_1b ?z11_1d ?z11_1g ⟨?z11_1t0, ?z11_1t1, ?z11_1t2, ?z11_1t3, ?z11_1t4, ?z11_1t5, ?z11_1t6, trivial⟩ ⟨?z11_1o0, ?z11_1o1, ?z11_1o2, ?z11_1o3, ?z11_1o4, ?z11_1o5, ?z11_1o6, trivial⟩ ?z11_1e
        case z11_1c => exact ⟨_, H4.out.drew⟩
        case z11_1i => exact H4.out.drew
        case z11_1b => intro w w' hb h; obtain ⟨o, h⟩ := h; exact ⟨o, h.call hb⟩
        case z11_1d =>
          intro t rs w w' hb h
          match t, h with
          | 0, h => (replace h : Hp B w00 w [(g6, .cells #[.int .u32 (tkQ l1), .int .u32 (hsQ l1), .slice A5 n5 c5, .slice A6 n6 c6] 26 (0, 0)), (g5, .cells #[.int .u8 5, .int .u32 0, .int .u32 0, .int .u32 0, .int .u32 0, .slice none 0 0, .slice none 0 0] 28 (0, 0)), (B, .cells #[.int .u8 0, .int .u32 0, .int .u32 0, .int .u32 0, .int .u32 0, .slice none 0 0, .slice none 0 0] 28 (0, 0))] [fun X => OfR B X (tkQ l1) (hsQ l1) (plQ l1) (clQ l1) (.agg #[.int .u32 (tkQ l1), .int .u32 (hsQ l1), .slice A5 n5 c5, .slice A6 n6 c6])] := h); show Hp B w00 w' [(g6, .cells #[.int .u32 (tkQ l1), .int .u32 (hsQ l1), .slice A5 n5 c5, .slice A6 n6 c6] 26 (0, 0)), (g5, .cells #[.int .u8 5, .int .u32 0, .int .u32 0, .int .u32 0, .int .u32 0, .slice none 0 0, .slice none 0 0] 28 (0, 0)), (B, .cells #[.int .u8 0, .int .u32 0, .int .u32 0, .int .u32 0, .int .u32 0, .slice none 0 0, .slice none 0 0] 28 (0, 0))] [fun X => OfR B X (tkQ l1) (hsQ l1) (plQ l1) (clQ l1) (.agg #[.int .u32 (tkQ l1), .int .u32 (hsQ l1), .slice A5 n5 c5, .slice A6 n6 c6])]; exact Hp.call h hb
          | 1, h => (replace h : Hp B w00 w [(g6, .cells #[.int .u32 (tkQ l1), .int .u32 (hsQ l1), .slice A5 n5 c5, .slice A6 n6 c6] 26 (0, 0)), (g5, .cells #[.int .u8 5, .int .u32 0, .int .u32 0, .int .u32 (tkQ l1), .int .u32 (hsQ l1), .slice A5 n5 c5, .slice A6 n6 c6] 28 (0, 0)), (B, .cells #[.int .u8 0, .int .u32 0, .int .u32 0, .int .u32 0, .int .u32 0, .slice none 0 0, .slice none 0 0] 28 (0, 0))] [fun X => OfR B X (tkQ l1) (hsQ l1) (plQ l1) (clQ l1) (.agg #[.int .u32 (tkQ l1), .int .u32 (hsQ l1), .slice A5 n5 c5, .slice A6 n6 c6])] := h); show Hp B w00 w' [(g6, .cells #[.int .u32 (tkQ l1), .int .u32 (hsQ l1), .slice A5 n5 c5, .slice A6 n6 c6] 26 (0, 0)), (g5, .cells #[.int .u8 5, .int .u32 0, .int .u32 0, .int .u32 (tkQ l1), .int .u32 (hsQ l1), .slice A5 n5 c5, .slice A6 n6 c6] 28 (0, 0)), (B, .cells #[.int .u8 0, .int .u32 0, .int .u32 0, .int .u32 0, .int .u32 0, .slice none 0 0, .slice none 0 0] 28 (0, 0))] [fun X => OfR B X (tkQ l1) (hsQ l1) (plQ l1) (clQ l1) (.agg #[.int .u32 (tkQ l1), .int .u32 (hsQ l1), .slice A5 n5 c5, .slice A6 n6 c6])]; exact Hp.call h hb
          | 2, h => (replace h : Hp B w00 w [(g6, .cells #[.int .u32 (tkQ l1), .int .u32 (hsQ l1), .slice A5 n5 c5, .slice A6 n6 c6] 26 (0, 0)), (g5, .cells #[.int .u8 5, .int .u32 (tkQ l1), .int .u32 0, .int .u32 (tkQ l1), .int .u32 (hsQ l1), .slice A5 n5 c5, .slice A6 n6 c6] 28 (0, 0)), (B, .cells #[.int .u8 0, .int .u32 0, .int .u32 0, .int .u32 0, .int .u32 0, .slice none 0 0, .slice none 0 0] 28 (0, 0))] [fun X => OfR B X (tkQ l1) (hsQ l1) (plQ l1) (clQ l1) (.agg #[.int .u32 (tkQ l1), .int .u32 (hsQ l1), .slice A5 n5 c5, .slice A6 n6 c6])] := h); show Hp B w00 w' [(g6, .cells #[.int .u32 (tkQ l1), .int .u32 (hsQ l1), .slice A5 n5 c5, .slice A6 n6 c6] 26 (0, 0)), (g5, .cells #[.int .u8 5, .int .u32 (tkQ l1), .int .u32 0, .int .u32 (tkQ l1), .int .u32 (hsQ l1), .slice A5 n5 c5, .slice A6 n6 c6] 28 (0, 0)), (B, .cells #[.int .u8 0, .int .u32 0, .int .u32 0, .int .u32 0, .int .u32 0, .slice none 0 0, .slice none 0 0] 28 (0, 0))] [fun X => OfR B X (tkQ l1) (hsQ l1) (plQ l1) (clQ l1) (.agg #[.int .u32 (tkQ l1), .int .u32 (hsQ l1), .slice A5 n5 c5, .slice A6 n6 c6])]; exact Hp.call h hb
          | _ + 3, h => exact h.elim
        case z11_1g =>
          intro j hj; cases hj
        case z11_1t0 => exact StabS.const _ _ _ _
        case z11_1t1 => exact StabS.const _ _ _ _
        case z11_1t2 => exact StabS.const _ _ _ _
        case z11_1t3 => exact StabS.const _ _ _ _
        case z11_1t4 => exact StabS.const _ _ _ _
        case z11_1t5 => exact StabS.const _ _ _ _
        case z11_1t6 => exact StabS.const _ _ _ _
        case z11_1o0 =>
          intro vs w t hC ht1 ht2 hS hV
          rw [if_pos (by kernel_rfl)]
          generalize hρ : rho _ _ _ vs = ρ
          have e6 : ρ (.tmp 6) = .pointer (some ⟨g6, 0, none⟩) := by rw [← hρ]; kernel_rfl
          clear hρ hV
          obtain ⟨o, hH⟩ := hC
          have c0 := blk_cell (hH.get (i := 0) rfl) 0
          have c1 := blk_cell (hH.get (i := 0) rfl) 1
          have c2 := blk_cell (hH.get (i := 0) rfl) 2
          have c3 := blk_cell (hH.get (i := 0) rfl) 3
          refine runs_val (v := .agg #[.int .u32 (tkQ l1), .int .u32 (hsQ l1), .slice A5 n5 c5, .slice A6 n6 c6]) (w' := w) ?_ ⟨Below.refl _ _, rfl⟩
          clear ht1 ht2 hS hH
          go_simp
        case z11_1o1 =>
          intro vs w t hC ht1 ht2 hS hV
          rw [if_pos (by kernel_rfl)]
          generalize hρ : rho _ _ _ vs = ρ
          have e6 : ρ (.tmp 6) = .pointer (some ⟨g6, 0, none⟩) := by rw [← hρ]; kernel_rfl
          clear hρ hV
          refine runs_val (v := .pointer (some ⟨g6, 0, none⟩)) (w' := w) ?_ ⟨Below.refl _ _, rfl⟩
          clear ht1 ht2 hS hC
          go_simp <;> (first | exact IntWalk.u64_in _ (by omega) | exact IntWalk.u32_in _ (by omega) | exact IntWalk.u16_in _ (by omega) | exact IntWalk.u8_in _ (by omega) | exact IntWalk.i64_in _ (by omega) | skip)
        case z11_1o2 =>
          intro vs w t hC ht1 ht2 hS hV
          rw [if_pos (by kernel_rfl)]
          generalize hρ : rho _ _ _ vs = ρ
          have d36 : (vs 1) = .pointer (some ⟨g6, 0, none⟩) := hV 1 (by kernel_rfl)
          have e36 : ρ (.tmp 36) = vs 1 := by rw [← hρ]; kernel_rfl
          rw [d36] at e36; clear d36
          clear hρ hV
          obtain ⟨o, hH⟩ := hC
          have c0 := blk_cell (hH.get (i := 0) rfl) 0
          refine runs_val (v := .int .u32 (tkQ l1)) (w' := w) ?_ ⟨Below.refl _ _, rfl⟩
          clear ht1 ht2 hS hH
          go_simp
        case z11_1o3 =>
          intro vs w t hC ht1 ht2 hS hV
          rw [if_pos (by kernel_rfl)]
          generalize hρ : rho _ _ _ vs = ρ
          have e5 : ρ (.tmp 5) = .pointer (some ⟨g5, 0, none⟩) := by rw [← hρ]; kernel_rfl
          clear hρ hV
          refine runs_val (v := .pointer (some ⟨g5, 3, none⟩)) (w' := w) ?_ ⟨Below.refl _ _, rfl⟩
          clear ht1 ht2 hS hC
          go_simp <;> (first | exact IntWalk.u64_in _ (by omega) | exact IntWalk.u32_in _ (by omega) | exact IntWalk.u16_in _ (by omega) | exact IntWalk.u8_in _ (by omega) | exact IntWalk.i64_in _ (by omega) | skip)
        case z11_1o4 =>
          intro vs w hC hS hV
          replace hS : Hp B w00 w [(g6, .cells #[.int .u32 (tkQ l1), .int .u32 (hsQ l1), .slice A5 n5 c5, .slice A6 n6 c6] 26 (0, 0)), (g5, .cells #[.int .u8 5, .int .u32 0, .int .u32 0, .int .u32 0, .int .u32 0, .slice none 0 0, .slice none 0 0] 28 (0, 0)), (B, .cells #[.int .u8 0, .int .u32 0, .int .u32 0, .int .u32 0, .int .u32 0, .slice none 0 0, .slice none 0 0] 28 (0, 0))] [fun X => OfR B X (tkQ l1) (hsQ l1) (plQ l1) (clQ l1) (.agg #[.int .u32 (tkQ l1), .int .u32 (hsQ l1), .slice A5 n5 c5, .slice A6 n6 c6])] := hS
          rw [if_pos (by kernel_rfl)]
          generalize hρ : rho _ _ _ vs = ρ
          have d38 : (vs 3) = .pointer (some ⟨g5, 3, none⟩) := hV 3 (by kernel_rfl)
          have e38 : ρ (.tmp 38) = vs 3 := by rw [← hρ]; kernel_rfl
          rw [d38] at e38; clear d38
          have d35 : (vs 0) = .agg #[.int .u32 (tkQ l1), .int .u32 (hsQ l1), .slice A5 n5 c5, .slice A6 n6 c6] := hV 0 (by kernel_rfl)
          have e35 : ρ (.tmp 35) = vs 0 := by rw [← hρ]; kernel_rfl
          rw [d35] at e35; clear d35
          clear hρ hV
          have c3 := blk_cell (hS.get (i := 1) rfl) 3
          have c4 := blk_cell (hS.get (i := 1) rfl) 4
          have c5' := blk_cell (hS.get (i := 1) rfl) 5
          have c6' := blk_cell (hS.get (i := 1) rfl) 6
          have f3 := blk_frozen (hS.get (i := 1) rfl) 3
          have f4 := blk_frozen (hS.get (i := 1) rfl) 4
          have f5 := blk_frozen (hS.get (i := 1) rfl) 5
          have f6 := blk_frozen (hS.get (i := 1) rfl) 6
          have hH := (((hS.setCell (i := 1) rfl 3 (.int .u32 (tkQ l1))).setCell (i := 1) rfl 4 (.int .u32 (hsQ l1))).setCell (i := 1) rfl 5 (.slice A5 n5 c5)).setCell (i := 1) rfl 6 (.slice A6 n6 c6)
          refine runs_skip (w' := (((w.setCell ⟨g5, 3, none⟩ (.int .u32 (tkQ l1))).setCell ⟨g5, 4, none⟩ (.int .u32 (hsQ l1))).setCell ⟨g5, 5, none⟩ (.slice A5 n5 c5)).setCell ⟨g5, 6, none⟩ (.slice A6 n6 c6)) ?_ ⟨⟨_, hH⟩, trivial, trivial, hH⟩
          clear hS hC hH
          go_simp
        case z11_1o5 =>
          intro vs w t hC ht1 ht2 hS hV
          rw [if_pos (by kernel_rfl)]
          generalize hρ : rho _ _ _ vs = ρ
          have e5 : ρ (.tmp 5) = .pointer (some ⟨g5, 0, none⟩) := by rw [← hρ]; kernel_rfl
          clear hρ hV
          refine runs_val (v := .pointer (some ⟨g5, 1, none⟩)) (w' := w) ?_ ⟨Below.refl _ _, rfl⟩
          clear ht1 ht2 hS hC
          go_simp <;> (first | exact IntWalk.u64_in _ (by omega) | exact IntWalk.u32_in _ (by omega) | exact IntWalk.u16_in _ (by omega) | exact IntWalk.u8_in _ (by omega) | exact IntWalk.i64_in _ (by omega) | skip)
        case z11_1o6 =>
          intro vs w hC hS hV
          replace hS : Hp B w00 w [(g6, .cells #[.int .u32 (tkQ l1), .int .u32 (hsQ l1), .slice A5 n5 c5, .slice A6 n6 c6] 26 (0, 0)), (g5, .cells #[.int .u8 5, .int .u32 0, .int .u32 0, .int .u32 (tkQ l1), .int .u32 (hsQ l1), .slice A5 n5 c5, .slice A6 n6 c6] 28 (0, 0)), (B, .cells #[.int .u8 0, .int .u32 0, .int .u32 0, .int .u32 0, .int .u32 0, .slice none 0 0, .slice none 0 0] 28 (0, 0))] [fun X => OfR B X (tkQ l1) (hsQ l1) (plQ l1) (clQ l1) (.agg #[.int .u32 (tkQ l1), .int .u32 (hsQ l1), .slice A5 n5 c5, .slice A6 n6 c6])] := hS
          rw [if_pos (by kernel_rfl)]
          generalize hρ : rho _ _ _ vs = ρ
          have d39 : (vs 5) = .pointer (some ⟨g5, 1, none⟩) := hV 5 (by kernel_rfl)
          have e39 : ρ (.tmp 39) = vs 5 := by rw [← hρ]; kernel_rfl
          rw [d39] at e39; clear d39
          have d37 : (vs 2) = .int .u32 (tkQ l1) := hV 2 (by kernel_rfl)
          have e37 : ρ (.tmp 37) = vs 2 := by rw [← hρ]; kernel_rfl
          rw [d37] at e37; clear d37
          clear hρ hV
          have c1 := blk_cell (hS.get (i := 1) rfl) 1
          have f1 := blk_frozen (hS.get (i := 1) rfl) 1
          have hH := hS.setCell (i := 1) rfl 1 (.int .u32 (tkQ l1))
          refine runs_skip (w' := w.setCell ⟨g5, 1, none⟩ (.int .u32 (tkQ l1))) ?_ ⟨⟨_, hH⟩, trivial, trivial, hH⟩
          clear hS hC hH
          go_simp
        case z11_1e =>
          intro vs W7 hC hS hV
          replace hS : (fun (w : World) => Hp B w00 w [(g6, .cells #[.int .u32 (tkQ l1), .int .u32 (hsQ l1), .slice A5 n5 c5, .slice A6 n6 c6] 26 (0, 0)), (g5, .cells #[.int .u8 5, .int .u32 (tkQ l1), .int .u32 0, .int .u32 (tkQ l1), .int .u32 (hsQ l1), .slice A5 n5 c5, .slice A6 n6 c6] 28 (0, 0)), (B, .cells #[.int .u8 0, .int .u32 0, .int .u32 0, .int .u32 0, .int .u32 0, .slice none 0 0, .slice none 0 0] 28 (0, 0))] [fun X => OfR B X (tkQ l1) (hsQ l1) (plQ l1) (clQ l1) (.agg #[.int .u32 (tkQ l1), .int .u32 (hsQ l1), .slice A5 n5 c5, .slice A6 n6 c6])]) W7 := hS
          have d35 : (vs 0) = .agg #[.int .u32 (tkQ l1), .int .u32 (hsQ l1), .slice A5 n5 c5, .slice A6 n6 c6] := hV 0 (Nat.le_of_ble_eq_true rfl)
          have d36 : (vs 1) = .pointer (some ⟨g6, 0, none⟩) := hV 1 (Nat.le_of_ble_eq_true rfl)
          have d37 : (vs 2) = .int .u32 (tkQ l1) := hV 2 (Nat.le_of_ble_eq_true rfl)
          have d38 : (vs 3) = .pointer (some ⟨g5, 3, none⟩) := hV 3 (Nat.le_of_ble_eq_true rfl)
          have d39 : (vs 5) = .pointer (some ⟨g5, 1, none⟩) := hV 5 (Nat.le_of_ble_eq_true rfl)
          clear hV
          simp only [putAll]
          rw [d35, d36, d37, d38, d39]
          clear d35 d36 d37 d38 d39
          generalize vs 4 = vN4
          generalize vs 6 = vN6
          clear vs
          simp only [Act.put, List.setIfInBounds_toArray, List.set_cons_zero, List.set_cons_succ]
          have H7 := Aside0.mk hS
          clear hS hC
          go_wp2_with (first | (refine wpList_load_row_g 28 (.tmp 5) rfl g5 rfl rfl 28 _ (0, 0) _ (H7.out.get (i := 1) rfl) Try.underlying28 rfl (msg_info _ _ _ _ _ _ _) ?_) | (refine wpList_store_row rfl 28 (.tmp 2) (.tmp 40) rfl B #[.int .u8 5, .int .u32 (tkQ l1), .int .u32 0, .int .u32 (tkQ l1), .int .u32 (hsQ l1), .slice A5 n5 c5, .slice A6 n6 c6] rfl rfl 28 _ (H7.out.get (i := 2) rfl) (msg_info _ _ _ _ _ _ _) rfl (by simp [Value.oneCell']) ?_))
          have H9 := Aside0.mk (H7.out.setRow (i := 2) rfl #[.int .u8 5, .int .u32 (tkQ l1), .int .u32 0, .int .u32 (tkQ l1), .int .u32 (hsQ l1), .slice A5 n5 c5, .slice A6 n6 c6])
          have HRQ : Aside0 (readR q = ⟨true, 5, tkQ l1, 0, tkQ l1, hsQ l1, plQ l1, clQ l1⟩) := ⟨by rw [HQ2.out.1, readR_five _ (by decide) (by decide), if_pos HBE.out]⟩
          refine bodyPost_ret (results_ct rfl _ _ B _ #[.int .u8 5, .int .u32 (tkQ l1), .int .u32 0, .int .u32 (tkQ l1), .int .u32 (hsQ l1), .slice A5 n5 c5, .slice A6 n6 c6] (0, 0) _ rfl (H9.out.get (i := 2) rfl) Try.underlying28 rfl (msg_info _ _ _ _ _ _ _)) rfl ?_
          exact ⟨ReadM.of HRQ.out (OfR.msg (H9.out.fact (i := 0) rfl)), H9.out.bel⟩
    · skip
      by_cases x6 : x = 6
      · subst x6
        have HQ2 : Aside0 (q = 6 :: l1 ∧ b1 = false) := ⟨by rcases HQ.out with h | h; exact absurd h.2.1 (by decide); exact h⟩
        have hq1 : n = l1.length + 1 := by have := HN.out.2.2; rw [HQ2.out.1] at this; simpa using this.symm
        obtain ⟨A9, z1, z2, _⟩ := eye_lo (P := Try.prog) .u8 .i64 23 5 1 Try.underlying23 np_info A n c 1 (by omega) HN.out.2.1
        have hn1 : (1 : Int) ≤ n := by omega
        clear hq1
        have Z1 : Aside0 (∀ W : World, (Instr.slice 23 (.slice A n c) (some (.int .i64 1)) none none).run Try.prog W = .ok (.slice A9 (n - 1) (c - 1)) W) := ⟨fun W => z1 W⟩
        have Z2 : Aside0 (∀ z, Below B w00 z → (Kd.int .u8).C z A9 (n - 1) l1) := ⟨fun z hz => by have := z2 z q (HF.out z hz); rw [HQ2.out.1] at this; exact this⟩
        clear z1 z2
        have z1 := Z1.out
        go_wp2_with fail
        generalize w2.alloc (.cells #[.int .u8 6, .int .u32 0, .int .u32 0, .int .u32 0, .int .u32 0, .slice none 0 0, .slice none 0 0] 28) = W3 at *
        clear z1 Z1 hg5
        refine (parse_any A9 (n - 1) (c - 1) l1 W3 (Z2.out _ H3.out.bel) (by have := HN.out.1; omega) HBL1.out).mono ?_
        rintro e w4 ⟨hp4, hb4⟩
        obtain ⟨A5, n5, c5, A6, n6, c6, rfl, hD4⟩ := parse_formR hp4
        obtain ⟨g6, hg6⟩ : ∃ g6, w4.heap.size = g6 := ⟨_, rfl⟩
        have H4 := Aside0.mk ((H3.out.ofR hb4 hD4).allocAt (.cells #[.int .u32 (tkQ l1), .int .u32 (hsQ l1), .slice A5 n5 c5, .slice A6 n6 c6] 26) g6 hg6)
        clear hp4 hb4 hD4 H3 HE3
        obtain ⟨β, hβ⟩ : ∃ β, okD l1 = β := ⟨_, rfl⟩
        have HEC : ecD l1 = if β = true then 0 else 2 := by unfold ecD; rw [hβ]
        have HBE := Aside0.mk hβ
        clear hβ
        cases β with
        | false =>
          rw [if_neg (by decide)] at HEC
          rw [HEC]
          clear HEC
          go_wp2_with (first | (refine wpList_store_row rfl 28 (.tmp 2) (.tmp 34) rfl B #[.int .u8 0, .int .u32 0, .int .u32 0, .int .u32 0, .int .u32 0, .slice none 0 0, .slice none 0 0] rfl rfl 28 _ (H4.out.get (i := 2) rfl) (msg_info _ _ _ _ _ _ _) rfl (by simp [Value.oneCell']) ?_))
          have H9 := Aside0.mk (H4.out.setRow (i := 2) rfl #[.int .u8 0, .int .u32 0, .int .u32 0, .int .u32 0, .int .u32 0, .slice none 0 0, .slice none 0 0])
          have HRQ : Aside0 (readR q = badR) := ⟨by rw [HQ2.out.1, readR_five _ (by decide) (by decide), if_neg (by rw [HBE.out]; decide)]⟩
          refine bodyPost_ret (results_ct rfl _ _ B _ #[.int .u8 0, .int .u32 0, .int .u32 0, .int .u32 0, .int .u32 0, .slice none 0 0, .slice none 0 0] (0, 0) _ rfl (H9.out.get (i := 2) rfl) Try.underlying28 rfl (msg_info _ _ _ _ _ _ _)) rfl ?_
          exact ⟨ReadM.of HRQ.out (MsC_zero _ 0 0 0), H9.out.bel⟩
        | true =>
          rw [if_pos rfl] at HEC
          rw [HEC]
          clear HEC
          go_wp2_with fail
          generalize hW5 : w4.alloc (.cells #[.int .u32 (tkQ l1), .int .u32 (hsQ l1), .slice A5 n5 c5, .slice A6 n6 c6] 26) = W5 at *
          clear hW5 hg6
          refine regionS (W := W5)
            [fun _ v => v = .agg #[.int .u32 (tkQ l1), .int .u32 (hsQ l1), .slice A5 n5 c5, .slice A6 n6 c6],
             fun _ v => v = .pointer (some ⟨g6, 0, none⟩),
             fun _ v => v = .int .u32 (tkQ l1),
             fun _ v => v = .pointer (some ⟨g5, 3, none⟩),
             fun _ _ => True,
             fun _ v => v = .pointer (some ⟨g5, 1, none⟩),
             fun _ _ => True]
            [4, 6]
            (fun t => match t with | 0 => fun (rs : List Value) (w : World) => Hp B w00 w [(g6, .cells #[.int .u32 (tkQ l1), .int .u32 (hsQ l1), .slice A5 n5 c5, .slice A6 n6 c6] 26 (0, 0)), (g5, .cells #[.int .u8 6, .int .u32 0, .int .u32 0, .int .u32 0, .int .u32 0, .slice none 0 0, .slice none 0 0] 28 (0, 0)), (B, .cells #[.int .u8 0, .int .u32 0, .int .u32 0, .int .u32 0, .int .u32 0, .slice none 0 0, .slice none 0 0] 28 (0, 0))] [fun X => OfR B X (tkQ l1) (hsQ l1) (plQ l1) (clQ l1) (.agg #[.int .u32 (tkQ l1), .int .u32 (hsQ l1), .slice A5 n5 c5, .slice A6 n6 c6])] | 1 => fun (rs : List Value) (w : World) => Hp B w00 w [(g6, .cells #[.int .u32 (tkQ l1), .int .u32 (hsQ l1), .slice A5 n5 c5, .slice A6 n6 c6] 26 (0, 0)), (g5, .cells #[.int .u8 6, .int .u32 0, .int .u32 0, .int .u32 (tkQ l1), .int .u32 (hsQ l1), .slice A5 n5 c5, .slice A6 n6 c6] 28 (0, 0)), (B, .cells #[.int .u8 0, .int .u32 0, .int .u32 0, .int .u32 0, .int .u32 0, .slice none 0 0, .slice none 0 0] 28 (0, 0))] [fun X => OfR B X (tkQ l1) (hsQ l1) (plQ l1) (clQ l1) (.agg #[.int .u32 (tkQ l1), .int .u32 (hsQ l1), .slice A5 n5 c5, .slice A6 n6 c6])] | 2 => fun (rs : List Value) (w : World) => Hp B w00 w [(g6, .cells #[.int .u32 (tkQ l1), .int .u32 (hsQ l1), .slice A5 n5 c5, .slice A6 n6 c6] 26 (0, 0)), (g5, .cells #[.int .u8 6, .int .u32 (tkQ l1), .int .u32 0, .int .u32 (tkQ l1), .int .u32 (hsQ l1), .slice A5 n5 c5, .slice A6 n6 c6] 28 (0, 0)), (B, .cells #[.int .u8 0, .int .u32 0, .int .u32 0, .int .u32 0, .int .u32 0, .slice none 0 0, .slice none 0 0] 28 (0, 0))] [fun X => OfR B X (tkQ l1) (hsQ l1) (plQ l1) (clQ l1) (.agg #[.int .u32 (tkQ l1), .int .u32 (hsQ l1), .slice A5 n5 c5, .slice A6 n6 c6])] | _ => fun _ _ => False)
            (fun _ _ _ => True) (fun w => ∃ o, Hp B w00 w [(g6, .cells #[.int .u32 (tkQ l1), .int .u32 (hsQ l1), .slice A5 n5 c5, .slice A6 n6 c6] 26 (0, 0)), (g5, o), (B, .cells #[.int .u8 0, .int .u32 0, .int .u32 0, .int .u32 0, .int .u32 0, .slice none 0 0, .slice none 0 0] 28 (0, 0))] [fun X => OfR B X (tkQ l1) (hsQ l1) (plQ l1) (clQ l1) (.agg #[.int .u32 (tkQ l1), .int .u32 (hsQ l1), .slice A5 n5 c5, .slice A6 n6 c6])])
            (fun j =>  none)
            [(0, some 35), (1, some 36), (2, some 37), (3, some 38), (4, none), (5, some 39), (6, none)]
            []
            (by kernel_rfl) (by kernel_rfl) (by kernel_rfl) (by kernel_rfl) (by kernel_rfl) ?z11_2c ?z11_2i ?z11_2b ?z11_2d ?z11_2g ⟨?z11_2t0, ?z11_2t1, ?z11_2t2, ?z11_2t3, ?z11_2t4, ?z11_2t5, ?z11_2t6, trivial⟩ ⟨?z11_2o0, ?z11_2o1, ?z11_2o2, ?z11_2o3, ?z11_2o4, ?z11_2o5, ?z11_2o6, trivial⟩ ?z11_2e
          case z11_2c => exact ⟨_, H4.out.drew⟩
          case z11_2i => exact H4.out.drew
          case z11_2b => intro w w' hb h; obtain ⟨o, h⟩ := h; exact ⟨o, h.call hb⟩
          case z11_2d =>
            intro t rs w w' hb h
            match t, h with
            | 0, h => (replace h : Hp B w00 w [(g6, .cells #[.int .u32 (tkQ l1), .int .u32 (hsQ l1), .slice A5 n5 c5, .slice A6 n6 c6] 26 (0, 0)), (g5, .cells #[.int .u8 6, .int .u32 0, .int .u32 0, .int .u32 0, .int .u32 0, .slice none 0 0, .slice none 0 0] 28 (0, 0)), (B, .cells #[.int .u8 0, .int .u32 0, .int .u32 0, .int .u32 0, .int .u32 0, .slice none 0 0, .slice none 0 0] 28 (0, 0))] [fun X => OfR B X (tkQ l1) (hsQ l1) (plQ l1) (clQ l1) (.agg #[.int .u32 (tkQ l1), .int .u32 (hsQ l1), .slice A5 n5 c5, .slice A6 n6 c6])] := h); show Hp B w00 w' [(g6, .cells #[.int .u32 (tkQ l1), .int .u32 (hsQ l1), .slice A5 n5 c5, .slice A6 n6 c6] 26 (0, 0)), (g5, .cells #[.int .u8 6, .int .u32 0, .int .u32 0, .int .u32 0, .int .u32 0, .slice none 0 0, .slice none 0 0] 28 (0, 0)), (B, .cells #[.int .u8 0, .int .u32 0, .int .u32 0, .int .u32 0, .int .u32 0, .slice none 0 0, .slice none 0 0] 28 (0, 0))] [fun X => OfR B X (tkQ l1) (hsQ l1) (plQ l1) (clQ l1) (.agg #[.int .u32 (tkQ l1), .int .u32 (hsQ l1), .slice A5 n5 c5, .slice A6 n6 c6])]; exact Hp.call h hb
            | 1, h => (replace h : Hp B w00 w [(g6, .cells #[.int .u32 (tkQ l1), .int .u32 (hsQ l1), .slice A5 n5 c5, .slice A6 n6 c6] 26 (0, 0)), (g5, .cells #[.int .u8 6, .int .u32 0, .int .u32 0, .int .u32 (tkQ l1), .int .u32 (hsQ l1), .slice A5 n5 c5, .slice A6 n6 c6] 28 (0, 0)), (B, .cells #[.int .u8 0, .int .u32 0, .int .u32 0, .int .u32 0, .int .u32 0, .slice none 0 0, .slice none 0 0] 28 (0, 0))] [fun X => OfR B X (tkQ l1) (hsQ l1) (plQ l1) (clQ l1) (.agg #[.int .u32 (tkQ l1), .int .u32 (hsQ l1), .slice A5 n5 c5, .slice A6 n6 c6])] := h); show Hp B w00 w' [(g6, .cells #[.int .u32 (tkQ l1), .int .u32 (hsQ l1), .slice A5 n5 c5, .slice A6 n6 c6] 26 (0, 0)), (g5, .cells #[.int .u8 6, .int .u32 0, .int .u32 0, .int .u32 (tkQ l1), .int .u32 (hsQ l1), .slice A5 n5 c5, .slice A6 n6 c6] 28 (0, 0)), (B, .cells #[.int .u8 0, .int .u32 0, .int .u32 0, .int .u32 0, .int .u32 0, .slice none 0 0, .slice none 0 0] 28 (0, 0))] [fun X => OfR B X (tkQ l1) (hsQ l1) (plQ l1) (clQ l1) (.agg #[.int .u32 (tkQ l1), .int .u32 (hsQ l1), .slice A5 n5 c5, .slice A6 n6 c6])]; exact Hp.call h hb
            | 2, h => (replace h : Hp B w00 w [(g6, .cells #[.int .u32 (tkQ l1), .int .u32 (hsQ l1), .slice A5 n5 c5, .slice A6 n6 c6] 26 (0, 0)), (g5, .cells #[.int .u8 6, .int .u32 (tkQ l1), .int .u32 0, .int .u32 (tkQ l1), .int .u32 (hsQ l1), .slice A5 n5 c5, .slice A6 n6 c6] 28 (0, 0)), (B, .cells #[.int .u8 0, .int .u32 0, .int .u32 0, .int .u32 0, .int .u32 0, .slice none 0 0, .slice none 0 0] 28 (0, 0))] [fun X => OfR B X (tkQ l1) (hsQ l1) (plQ l1) (clQ l1) (.agg #[.int .u32 (tkQ l1), .int .u32 (hsQ l1), .slice A5 n5 c5, .slice A6 n6 c6])] := h); show Hp B w00 w' [(g6, .cells #[.int .u32 (tkQ l1), .int .u32 (hsQ l1), .slice A5 n5 c5, .slice A6 n6 c6] 26 (0, 0)), (g5, .cells #[.int .u8 6, .int .u32 (tkQ l1), .int .u32 0, .int .u32 (tkQ l1), .int .u32 (hsQ l1), .slice A5 n5 c5, .slice A6 n6 c6] 28 (0, 0)), (B, .cells #[.int .u8 0, .int .u32 0, .int .u32 0, .int .u32 0, .int .u32 0, .slice none 0 0, .slice none 0 0] 28 (0, 0))] [fun X => OfR B X (tkQ l1) (hsQ l1) (plQ l1) (clQ l1) (.agg #[.int .u32 (tkQ l1), .int .u32 (hsQ l1), .slice A5 n5 c5, .slice A6 n6 c6])]; exact Hp.call h hb
            | _ + 3, h => exact h.elim
          case z11_2g =>
            intro j hj; cases hj
          case z11_2t0 => exact StabS.const _ _ _ _
          case z11_2t1 => exact StabS.const _ _ _ _
          case z11_2t2 => exact StabS.const _ _ _ _
          case z11_2t3 => exact StabS.const _ _ _ _
          case z11_2t4 => exact StabS.const _ _ _ _
          case z11_2t5 => exact StabS.const _ _ _ _
          case z11_2t6 => exact StabS.const _ _ _ _
          case z11_2o0 =>
            intro vs w t hC ht1 ht2 hS hV
            rw [if_pos (by kernel_rfl)]
            generalize hρ : rho _ _ _ vs = ρ
            have e6 : ρ (.tmp 6) = .pointer (some ⟨g6, 0, none⟩) := by rw [← hρ]; kernel_rfl
            clear hρ hV
            obtain ⟨o, hH⟩ := hC
            have c0 := blk_cell (hH.get (i := 0) rfl) 0
            have c1 := blk_cell (hH.get (i := 0) rfl) 1
            have c2 := blk_cell (hH.get (i := 0) rfl) 2
            have c3 := blk_cell (hH.get (i := 0) rfl) 3
            refine runs_val (v := .agg #[.int .u32 (tkQ l1), .int .u32 (hsQ l1), .slice A5 n5 c5, .slice A6 n6 c6]) (w' := w) ?_ ⟨Below.refl _ _, rfl⟩
            clear ht1 ht2 hS hH
            go_simp
          case z11_2o1 =>
            intro vs w t hC ht1 ht2 hS hV
            rw [if_pos (by kernel_rfl)]
            generalize hρ : rho _ _ _ vs = ρ
            have e6 : ρ (.tmp 6) = .pointer (some ⟨g6, 0, none⟩) := by rw [← hρ]; kernel_rfl
            clear hρ hV
            refine runs_val (v := .pointer (some ⟨g6, 0, none⟩)) (w' := w) ?_ ⟨Below.refl _ _, rfl⟩
            clear ht1 ht2 hS hC
            go_simp <;> (first | exact IntWalk.u64_in _ (by omega) | exact IntWalk.u32_in _ (by omega) | exact IntWalk.u16_in _ (by omega) | exact IntWalk.u8_in _ (by omega) | exact IntWalk.i64_in _ (by omega) | skip)
          case z11_2o2 =>
            intro vs w t hC ht1 ht2 hS hV
            rw [if_pos (by kernel_rfl)]
            generalize hρ : rho _ _ _ vs = ρ
            have d36 : (vs 1) = .pointer (some ⟨g6, 0, none⟩) := hV 1 (by kernel_rfl)
            have e36 : ρ (.tmp 36) = vs 1 := by rw [← hρ]; kernel_rfl
            rw [d36] at e36; clear d36
            clear hρ hV
            obtain ⟨o, hH⟩ := hC
            have c0 := blk_cell (hH.get (i := 0) rfl) 0
            refine runs_val (v := .int .u32 (tkQ l1)) (w' := w) ?_ ⟨Below.refl _ _, rfl⟩
            clear ht1 ht2 hS hH
            go_simp
          case z11_2o3 =>
            intro vs w t hC ht1 ht2 hS hV
            rw [if_pos (by kernel_rfl)]
            generalize hρ : rho _ _ _ vs = ρ
            have e5 : ρ (.tmp 5) = .pointer (some ⟨g5, 0, none⟩) := by rw [← hρ]; kernel_rfl
            clear hρ hV
            refine runs_val (v := .pointer (some ⟨g5, 3, none⟩)) (w' := w) ?_ ⟨Below.refl _ _, rfl⟩
            clear ht1 ht2 hS hC
            go_simp <;> (first | exact IntWalk.u64_in _ (by omega) | exact IntWalk.u32_in _ (by omega) | exact IntWalk.u16_in _ (by omega) | exact IntWalk.u8_in _ (by omega) | exact IntWalk.i64_in _ (by omega) | skip)
          case z11_2o4 =>
            intro vs w hC hS hV
            replace hS : Hp B w00 w [(g6, .cells #[.int .u32 (tkQ l1), .int .u32 (hsQ l1), .slice A5 n5 c5, .slice A6 n6 c6] 26 (0, 0)), (g5, .cells #[.int .u8 6, .int .u32 0, .int .u32 0, .int .u32 0, .int .u32 0, .slice none 0 0, .slice none 0 0] 28 (0, 0)), (B, .cells #[.int .u8 0, .int .u32 0, .int .u32 0, .int .u32 0, .int .u32 0, .slice none 0 0, .slice none 0 0] 28 (0, 0))] [fun X => OfR B X (tkQ l1) (hsQ l1) (plQ l1) (clQ l1) (.agg #[.int .u32 (tkQ l1), .int .u32 (hsQ l1), .slice A5 n5 c5, .slice A6 n6 c6])] := hS
            rw [if_pos (by kernel_rfl)]
            generalize hρ : rho _ _ _ vs = ρ
            have d38 : (vs 3) = .pointer (some ⟨g5, 3, none⟩) := hV 3 (by kernel_rfl)
            have e38 : ρ (.tmp 38) = vs 3 := by rw [← hρ]; kernel_rfl
            rw [d38] at e38; clear d38
            have d35 : (vs 0) = .agg #[.int .u32 (tkQ l1), .int .u32 (hsQ l1), .slice A5 n5 c5, .slice A6 n6 c6] := hV 0 (by kernel_rfl)
            have e35 : ρ (.tmp 35) = vs 0 := by rw [← hρ]; kernel_rfl
            rw [d35] at e35; clear d35
            clear hρ hV
            have c3 := blk_cell (hS.get (i := 1) rfl) 3
            have c4 := blk_cell (hS.get (i := 1) rfl) 4
            have c5' := blk_cell (hS.get (i := 1) rfl) 5
            have c6' := blk_cell (hS.get (i := 1) rfl) 6
            have f3 := blk_frozen (hS.get (i := 1) rfl) 3
            have f4 := blk_frozen (hS.get (i := 1) rfl) 4
            have f5 := blk_frozen (hS.get (i := 1) rfl) 5
            have f6 := blk_frozen (hS.get (i := 1) rfl) 6
            have hH := (((hS.setCell (i := 1) rfl 3 (.int .u32 (tkQ l1))).setCell (i := 1) rfl 4 (.int .u32 (hsQ l1))).setCell (i := 1) rfl 5 (.slice A5 n5 c5)).setCell (i := 1) rfl 6 (.slice A6 n6 c6)
            refine runs_skip (w' := (((w.setCell ⟨g5, 3, none⟩ (.int .u32 (tkQ l1))).setCell ⟨g5, 4, none⟩ (.int .u32 (hsQ l1))).setCell ⟨g5, 5, none⟩ (.slice A5 n5 c5)).setCell ⟨g5, 6, none⟩ (.slice A6 n6 c6)) ?_ ⟨⟨_, hH⟩, trivial, trivial, hH⟩
            clear hS hC hH
            go_simp
          case z11_2o5 =>
            intro vs w t hC ht1 ht2 hS hV
            rw [if_pos (by kernel_rfl)]
            generalize hρ : rho _ _ _ vs = ρ
            have e5 : ρ (.tmp 5) = .pointer (some ⟨g5, 0, none⟩) := by rw [← hρ]; kernel_rfl
            clear hρ hV
            refine runs_val (v := .pointer (some ⟨g5, 1, none⟩)) (w' := w) ?_ ⟨Below.refl _ _, rfl⟩
            clear ht1 ht2 hS hC
            go_simp <;> (first | exact IntWalk.u64_in _ (by omega) | exact IntWalk.u32_in _ (by omega) | exact IntWalk.u16_in _ (by omega) | exact IntWalk.u8_in _ (by omega) | exact IntWalk.i64_in _ (by omega) | skip)
          case z11_2o6 =>
            intro vs w hC hS hV
            replace hS : Hp B w00 w [(g6, .cells #[.int .u32 (tkQ l1), .int .u32 (hsQ l1), .slice A5 n5 c5, .slice A6 n6 c6] 26 (0, 0)), (g5, .cells #[.int .u8 6, .int .u32 0, .int .u32 0, .int .u32 (tkQ l1), .int .u32 (hsQ l1), .slice A5 n5 c5, .slice A6 n6 c6] 28 (0, 0)), (B, .cells #[.int .u8 0, .int .u32 0, .int .u32 0, .int .u32 0, .int .u32 0, .slice none 0 0, .slice none 0 0] 28 (0, 0))] [fun X => OfR B X (tkQ l1) (hsQ l1) (plQ l1) (clQ l1) (.agg #[.int .u32 (tkQ l1), .int .u32 (hsQ l1), .slice A5 n5 c5, .slice A6 n6 c6])] := hS
            rw [if_pos (by kernel_rfl)]
            generalize hρ : rho _ _ _ vs = ρ
            have d39 : (vs 5) = .pointer (some ⟨g5, 1, none⟩) := hV 5 (by kernel_rfl)
            have e39 : ρ (.tmp 39) = vs 5 := by rw [← hρ]; kernel_rfl
            rw [d39] at e39; clear d39
            have d37 : (vs 2) = .int .u32 (tkQ l1) := hV 2 (by kernel_rfl)
            have e37 : ρ (.tmp 37) = vs 2 := by rw [← hρ]; kernel_rfl
            rw [d37] at e37; clear d37
            clear hρ hV
            have c1 := blk_cell (hS.get (i := 1) rfl) 1
            have f1 := blk_frozen (hS.get (i := 1) rfl) 1
            have hH := hS.setCell (i := 1) rfl 1 (.int .u32 (tkQ l1))
            refine runs_skip (w' := w.setCell ⟨g5, 1, none⟩ (.int .u32 (tkQ l1))) ?_ ⟨⟨_, hH⟩, trivial, trivial, hH⟩
            clear hS hC hH
            go_simp
          case z11_2e =>
            intro vs W7 hC hS hV
            replace hS : (fun (w : World) => Hp B w00 w [(g6, .cells #[.int .u32 (tkQ l1), .int .u32 (hsQ l1), .slice A5 n5 c5, .slice A6 n6 c6] 26 (0, 0)), (g5, .cells #[.int .u8 6, .int .u32 (tkQ l1), .int .u32 0, .int .u32 (tkQ l1), .int .u32 (hsQ l1), .slice A5 n5 c5, .slice A6 n6 c6] 28 (0, 0)), (B, .cells #[.int .u8 0, .int .u32 0, .int .u32 0, .int .u32 0, .int .u32 0, .slice none 0 0, .slice none 0 0] 28 (0, 0))] [fun X => OfR B X (tkQ l1) (hsQ l1) (plQ l1) (clQ l1) (.agg #[.int .u32 (tkQ l1), .int .u32 (hsQ l1), .slice A5 n5 c5, .slice A6 n6 c6])]) W7 := hS
            have d35 : (vs 0) = .agg #[.int .u32 (tkQ l1), .int .u32 (hsQ l1), .slice A5 n5 c5, .slice A6 n6 c6] := hV 0 (Nat.le_of_ble_eq_true rfl)
            have d36 : (vs 1) = .pointer (some ⟨g6, 0, none⟩) := hV 1 (Nat.le_of_ble_eq_true rfl)
            have d37 : (vs 2) = .int .u32 (tkQ l1) := hV 2 (Nat.le_of_ble_eq_true rfl)
            have d38 : (vs 3) = .pointer (some ⟨g5, 3, none⟩) := hV 3 (Nat.le_of_ble_eq_true rfl)
            have d39 : (vs 5) = .pointer (some ⟨g5, 1, none⟩) := hV 5 (Nat.le_of_ble_eq_true rfl)
            clear hV
            simp only [putAll]
            rw [d35, d36, d37, d38, d39]
            clear d35 d36 d37 d38 d39
            generalize vs 4 = vN4
            generalize vs 6 = vN6
            clear vs
            simp only [Act.put, List.setIfInBounds_toArray, List.set_cons_zero, List.set_cons_succ]
            have H7 := Aside0.mk hS
            clear hS hC
            go_wp2_with (first | (refine wpList_load_row_g 28 (.tmp 5) rfl g5 rfl rfl 28 _ (0, 0) _ (H7.out.get (i := 1) rfl) Try.underlying28 rfl (msg_info _ _ _ _ _ _ _) ?_) | (refine wpList_store_row rfl 28 (.tmp 2) (.tmp 40) rfl B #[.int .u8 6, .int .u32 (tkQ l1), .int .u32 0, .int .u32 (tkQ l1), .int .u32 (hsQ l1), .slice A5 n5 c5, .slice A6 n6 c6] rfl rfl 28 _ (H7.out.get (i := 2) rfl) (msg_info _ _ _ _ _ _ _) rfl (by simp [Value.oneCell']) ?_))
            have H9 := Aside0.mk (H7.out.setRow (i := 2) rfl #[.int .u8 6, .int .u32 (tkQ l1), .int .u32 0, .int .u32 (tkQ l1), .int .u32 (hsQ l1), .slice A5 n5 c5, .slice A6 n6 c6])
            have HRQ : Aside0 (readR q = ⟨true, 6, tkQ l1, 0, tkQ l1, hsQ l1, plQ l1, clQ l1⟩) := ⟨by rw [HQ2.out.1, readR_five _ (by decide) (by decide), if_pos HBE.out]⟩
            refine bodyPost_ret (results_ct rfl _ _ B _ #[.int .u8 6, .int .u32 (tkQ l1), .int .u32 0, .int .u32 (tkQ l1), .int .u32 (hsQ l1), .slice A5 n5 c5, .slice A6 n6 c6] (0, 0) _ rfl (H9.out.get (i := 2) rfl) Try.underlying28 rfl (msg_info _ _ _ _ _ _ _)) rfl ?_
            exact ⟨ReadM.of HRQ.out (OfR.msg (H9.out.fact (i := 0) rfl)), H9.out.bel⟩
      · skip
        have HRR : Aside0 (b1 = true ∨ 0 < l1.length → readR q = badR) := ⟨by
          rcases HQ.out with h | h
          · intro _; rw [h.1]; rfl
          · rw [h.1, h.2]
            intro hh
            have h0 : l1.length ≠ 0 := by rcases hh with hh | hh; cases hh; omega
            rw [readR_oth _ x2 (by omega), if_neg h0]; split <;> rfl⟩
        have HRS : Aside0 (¬ (b1 = true ∨ 0 < l1.length) → readR q = if x = 1 ∨ x = 3 ∨ x = 4 then ⟨true, x, 0, 0, 0, 0, [], []⟩ else badR) := ⟨by
          intro hh
          rcases HQ.out with h | h
          · exact absurd (.inl h.2.2.2) hh
          · rw [h.1]
            have h0 : l1.length = 0 := by have := fun e => hh (.inr e); omega
            rw [readR_oth _ x2 (by omega), if_pos h0]⟩
        go_wp2_with fail
        generalize w2.alloc (.cells #[.int .u8 x, .int .u32 0, .int .u32 0, .int .u32 0, .int .u32 0, .slice none 0 0, .slice none 0 0] 28) = W3 at *
        clear hg5
        refine (done_any ge BB l1 b1 W3 HE3.out).mono ?_
        rintro e w7 ⟨rfl, rfl⟩
        by_cases hd : b1 = true ∨ 0 < l1.length
        · rw [if_pos hd]
          have HDD := Aside0.mk (HRR.out hd)
          clear hd
          go_wp2_with (first | (refine wpList_store_row rfl 28 (.tmp 2) (.tmp 49) rfl B #[.int .u8 0, .int .u32 0, .int .u32 0, .int .u32 0, .int .u32 0, .slice none 0 0, .slice none 0 0] rfl rfl 28 _ (H3.out.get (i := 1) rfl) (msg_info _ _ _ _ _ _ _) rfl (by simp [Value.oneCell']) ?_))
          have H9 := Aside0.mk (H3.out.setRow (i := 1) rfl #[.int .u8 0, .int .u32 0, .int .u32 0, .int .u32 0, .int .u32 0, .slice none 0 0, .slice none 0 0])
          have HRQ : Aside0 (readR q = badR) := ⟨HDD.out⟩
          refine bodyPost_ret (results_ct rfl _ _ B _ #[.int .u8 0, .int .u32 0, .int .u32 0, .int .u32 0, .int .u32 0, .slice none 0 0, .slice none 0 0] (0, 0) _ rfl (H9.out.get (i := 1) rfl) Try.underlying28 rfl (msg_info _ _ _ _ _ _ _)) rfl ?_
          exact ⟨ReadM.of HRQ.out (MsC_zero _ 0 0 0), H9.out.bel⟩
        · rw [if_neg hd]
          have HDD := Aside0.mk (HRS.out hd)
          clear hd HRR HRS HQ
          go_wp2_with (first | (refine wpList_load_row_g 28 (.tmp 5) rfl g5 rfl rfl 28 _ (0, 0) _ (H3.out.get (i := 0) rfl) Try.underlying28 rfl (msg_info _ _ _ _ _ _ _) ?_))
          refine (mright_any x 0 0 0 0 [] [] _ _ (MsC_zero _ _ _ _) (OkM_zero HX.out (by omega) (by omega))).mono ?_
          rintro e w8 ⟨rfl, hb8⟩
          have H8 := Aside0.mk (H3.out.call hb8)
          clear hb8 H3 HE3
          by_cases h134 : x = 1 ∨ x = 3 ∨ x = 4
          · have HDE := HDD.out
            rw [if_pos h134] at HDE
            have HD2 := Aside0.mk HDE
            rw [show rightM x 0 0 0 0 [] [] = true by unfold rightM isZ; rw [if_pos h134]; simp]
            clear HDE HDD h134
            go_wp2_with (first | (refine wpList_load_row_g 28 (.tmp 5) rfl g5 rfl rfl 28 _ (0, 0) _ (H8.out.get (i := 0) rfl) Try.underlying28 rfl (msg_info _ _ _ _ _ _ _) ?_) | (refine wpList_store_row rfl 28 (.tmp 2) (.tmp 50) rfl B #[.int .u8 x, .int .u32 0, .int .u32 0, .int .u32 0, .int .u32 0, .slice none 0 0, .slice none 0 0] rfl rfl 28 _ (H8.out.get (i := 1) rfl) (msg_info _ _ _ _ _ _ _) rfl (by simp [Value.oneCell']) ?_))
            have H9 := Aside0.mk ((H8.out).setRow (i := 1) rfl #[.int .u8 x, .int .u32 0, .int .u32 0, .int .u32 0, .int .u32 0, .slice none 0 0, .slice none 0 0])
            have HRQ : Aside0 (readR q = ⟨true, x, 0, 0, 0, 0, [], []⟩) := ⟨HD2.out⟩
            refine bodyPost_ret (results_ct rfl _ _ B _ #[.int .u8 x, .int .u32 0, .int .u32 0, .int .u32 0, .int .u32 0, .slice none 0 0, .slice none 0 0] (0, 0) _ rfl (H9.out.get (i := 1) rfl) Try.underlying28 rfl (msg_info _ _ _ _ _ _ _)) rfl ?_
            exact ⟨ReadM.of HRQ.out (MsC_zero _ _ _ _), H9.out.bel⟩
          · have HDE := HDD.out
            rw [if_neg h134] at HDE
            have HD2 := Aside0.mk HDE
            rw [show rightM x 0 0 0 0 [] [] = false by unfold rightM; rw [if_neg h134, if_neg x2, if_neg (by omega)]]
            clear HDE HDD h134
            go_wp2_with (first | (refine wpList_store_row rfl 28 (.tmp 2) (.tmp 49) rfl B #[.int .u8 0, .int .u32 0, .int .u32 0, .int .u32 0, .int .u32 0, .slice none 0 0, .slice none 0 0] rfl rfl 28 _ (H8.out.get (i := 1) rfl) (msg_info _ _ _ _ _ _ _) rfl (by simp [Value.oneCell']) ?_))
            have H9 := Aside0.mk (H8.out.setRow (i := 1) rfl #[.int .u8 0, .int .u32 0, .int .u32 0, .int .u32 0, .int .u32 0, .slice none 0 0, .slice none 0 0])
            have HRQ : Aside0 (readR q = badR) := ⟨HD2.out⟩
            refine bodyPost_ret (results_ct rfl _ _ B _ #[.int .u8 0, .int .u32 0, .int .u32 0, .int .u32 0, .int .u32 0, .slice none 0 0, .slice none 0 0] (0, 0) _ rfl (H9.out.get (i := 1) rfl) Try.underlying28 rfl (msg_info _ _ _ _ _ _ _)) rfl ?_
            exact ⟨ReadM.of HRQ.out (MsC_zero _ 0 0 0), H9.out.bel⟩
end Go.Proofs.Yticpjidcgaaldaa

namespace Go.Proofs.Yticpjidcgaaldaa
open Go.RowKit Go.Proofs.YticpjidcgaaldaaW.PrintWords Go.Proofs.YticpjidcgaaldaaW.PrintLast Go.Proofs.YticpjidcgaaldaaW.PrintMore
set_option linter.unusedVariables false
set_option linter.unusedSimpArgs false

def FParseR (p : List Int) (w' : World) (e : Ending) : Prop := ∃ v, e = .returned (.tuple #[v, .int .i64 (parseF p).err]) ∧ FrC w' (parseF p).ep (parseF p).sq (parseF p).nx (parseF p).bt (parseF p).fi (parseF p).la (parseF p).al (parseF p).D v
theorem FParseR.of {p : List Int} {r : FRes} {w' : World} {v : Value} (hp : parseF p = r) (hv : FrC w' r.ep r.sq r.nx r.bt r.fi r.la r.al r.D v) : FParseR p w' (.returned (.tuple #[v, .int .i64 r.err])) := by
  subst hp; exact ⟨v, rfl, hv⟩
theorem FrC_zero (w : World) : FrC w 0 0 0 0 false false false [] (.agg #[.int .u16 0, .int .u16 0, .int .u16 0, .int .u32 0, .bool false, .bool false, .bool false, .slice none 0 0]) := ⟨none, 0, rfl, Nat.le_refl _, Kd.C_nil _ _⟩
theorem zero_frame (w : World) : (zeroValue 72).run Try.prog w = .ok (.agg #[.int .u16 0, .int .u16 0, .int .u16 0, .int .u32 0, .bool false, .bool false, .bool false, .slice none 0 0]) w := by kernel_rfl
theorem and_b1 (f : Int) (h : 0 ≤ f ∧ f < 256) : bits .and .u8 f 1 = f % 2 := by
  obtain ⟨n, rfl⟩ : ∃ n : Nat, f = (n : Int) := ⟨f.toNat, by omega⟩
  have key : ∀ n : Nat, n < 256 → bits .and .u8 (n : Int) 1 = (n : Int) % 2 := by decide +kernel
  exact key n (by omega)
theorem and_b2 (f : Int) (h : 0 ≤ f ∧ f < 256) : bits .and .u8 f 2 = 2 * (f / 2 % 2) := by
  obtain ⟨n, rfl⟩ : ∃ n : Nat, f = (n : Int) := ⟨f.toNat, by omega⟩
  have key : ∀ n : Nat, n < 256 → bits .and .u8 (n : Int) 2 = 2 * ((n : Int) / 2 % 2) := by decide +kernel
  exact key n (by omega)
theorem and_b4 (f : Int) (h : 0 ≤ f ∧ f < 256) : bits .and .u8 f 4 = 4 * (f / 4 % 2) := by
  obtain ⟨n, rfl⟩ : ∃ n : Nat, f = (n : Int) := ⟨f.toNat, by omega⟩
  have key : ∀ n : Nat, n < 256 → bits .and .u8 (n : Int) 4 = 4 * ((n : Int) / 4 % 2) := by decide +kernel
  exact key n (by omega)
theorem and_b (f : Int) (h : 0 ≤ f ∧ f < 256) : (bits .and .u8 f 1 != 0) = b1F f ∧ (bits .and .u8 f 2 != 0) = b2F f ∧ (bits .and .u8 f 4 != 0) = b4F f := by
  rw [and_b1 f h, and_b2 f h, and_b4 f h]
  unfold b1F b2F b4F
  refine ⟨?_, ?_, ?_⟩ <;> (rw [Bool.eq_iff_iff]; rw [bne_iff_ne, decide_eq_true_iff]; omega)

theorem eblob_bytes (most : Nat) (hm : most < 18446744073709551616) (l : List Int) (bad : Bool) (hb : Bytes l) : Bytes (eBlob most l bad).1 := by
  obtain ⟨n, h1, h2, h3, h4⟩ := eNum_facts most hm l bad hb
  unfold eBlob
  generalize eNum most l bad = r at *
  obtain ⟨a, b, d⟩ := r
  simp only at h3 ⊢
  split
  · exact Bytes.nil
  · exact h3.take _
set_option maxRecDepth 100000 in
set_option maxHeartbeats 16000000 in
theorem fparse_any (A : Option Addr) (n c : Nat) (p : List Int) (w00 : World) (hp : (Kd.int .u8).C w00 A n p) (hc : n ≤ c) (hn : n ≤ 100000) (hb : Bytes p) :
    Calls Try.prog 29 #[.slice A n c] w00 fun e w' => FParseR p w' e ∧ Below w00.heap.size w00 w' := by
  have HF : Aside0 (∀ z, Below w00.heap.size w00 z → (Kd.int .u8).C z A n p) := ⟨fun z hz => Kd.C_below hp hz⟩
  obtain ⟨B, hB⟩ : ∃ B, w00.heap.size = B := ⟨_, rfl⟩
  have H0 := Aside0.mk ((Hp.start w00).allocAt (.cells #[.int .u16 0, .int .u16 0, .int .u16 0, .int .u32 0, .bool false, .bool false, .bool false, .slice none 0 0] 72) B hB)
  rw [hB] at H0 HF
  rw [hB]
  have HN := Aside0.mk (And.intro hn (And.intro hc hp.1))
  have HBP := Aside0.mk hb
  have hz8 := zero_frame
  clear hp hn hb hc
  go_enter Try.func29, Try.ntmps29
  go_wp2_with fail
  clear hB
  refine (make_any _).mono ?_
  rintro e w1 ⟨tb, rfl, hT, hb1⟩
  have H1 := Aside0.mk (H0.out.call hb1)
  have HT := Aside0.mk hT
  clear hb1 H0 hT
  go_wp2_with fail
  by_cases h4 : n < 4
  · have HPQ : Aside0 (parseF p = badF 2) := ⟨by unfold parseF; rw [if_pos (by have := HN.out.2.2; omega)]⟩
    clear HT
    refine (open_short tb A n c _ h4).mono ?_
    rintro e w2 ⟨rfl, hb2⟩
    have H2 := Aside0.mk (H1.out.call hb2)
    clear hb2 H1
    go_wp2_with (first | (refine wpList_store_row rfl 72 (.tmp 2) (.tmp 18) rfl B #[.int .u16 0, .int .u16 0, .int .u16 0, .int .u32 0, .bool false, .bool false, .bool false, .slice none 0 0] rfl rfl 72 _ (H2.out.get (i := 0) rfl) (frame_info _ _ _ _ _ _ _ _) rfl (by simp [Value.oneCell']) ?_))
    have H9 := Aside0.mk (H2.out.setRow (i := 0) rfl #[.int .u16 0, .int .u16 0, .int .u16 0, .int .u32 0, .bool false, .bool false, .bool false, .slice none 0 0])
    refine bodyPost_ret (results_ct rfl _ _ B _ #[.int .u16 0, .int .u16 0, .int .u16 0, .int .u32 0, .bool false, .bool false, .bool false, .slice none 0 0] (0, 0) _ rfl (H9.out.get (i := 0) rfl) Try.underlying72 rfl (frame_info _ _ _ _ _ _ _ _)) rfl ?_
    exact ⟨FParseR.of HPQ.out (FrC_zero _), H9.out.bel⟩
  · obtain ⟨β, hβ⟩ : ∃ β, sealedB p = β := ⟨_, rfl⟩
    have hq : decide (p.drop (n - 4) = tailL (sumN tab (p.take (n - 4)))) = β := by rw [← hβ]; unfold sealedB; rw [HN.out.2.2]
    refine (open_long β tab tb A n c p _ HT.out (HF.out _ H1.out.bel) HN.out.2.1 HBP.out (by omega) (by have := HN.out.1; omega) hq).mono ?_
    rintro e w2 ⟨v2, rfl, hv2, hb2⟩
    clear hq HT
    cases β with
    | false =>
      have HPQ : Aside0 (parseF p = badF 5) := ⟨by unfold parseF; rw [if_neg (by have := HN.out.2.2; omega), if_pos hβ]⟩
      have H2 := Aside0.mk (H1.out.call hb2)
      obtain ⟨A2, c2, rfl, _, _⟩ := Kd.R_reads hv2
      clear hb2 hv2 H1 hβ
      simp only [Bool.false_eq_true, if_false]
      go_wp2_with (first | (refine wpList_store_row rfl 72 (.tmp 2) (.tmp 18) rfl B #[.int .u16 0, .int .u16 0, .int .u16 0, .int .u32 0, .bool false, .bool false, .bool false, .slice none 0 0] rfl rfl 72 _ (H2.out.get (i := 0) rfl) (frame_info _ _ _ _ _ _ _ _) rfl (by simp [Value.oneCell']) ?_))
      have H9 := Aside0.mk (H2.out.setRow (i := 0) rfl #[.int .u16 0, .int .u16 0, .int .u16 0, .int .u32 0, .bool false, .bool false, .bool false, .slice none 0 0])
      refine bodyPost_ret (results_ct rfl _ _ B _ #[.int .u16 0, .int .u16 0, .int .u16 0, .int .u32 0, .bool false, .bool false, .bool false, .slice none 0 0] (0, 0) _ rfl (H9.out.get (i := 0) rfl) Try.underlying72 rfl (frame_info _ _ _ _ _ _ _ _)) rfl ?_
      exact ⟨FParseR.of HPQ.out (FrC_zero _), H9.out.bel⟩
    | true =>
      simp only [if_true] at hv2 ⊢
      obtain ⟨q, hq⟩ : ∃ q, p.take (n - 4) = q := ⟨_, rfl⟩
      rw [hq] at hv2
      have HPQ : Aside0 (parseF p = if (eyeF q).good p = true then ⟨0, (eyeF q).ep, (eyeF q).sq, (eyeF q).nx, (eyeF q).bt, b1F (eyeF q).fl, b2F (eyeF q).fl, b4F (eyeF q).fl, (eyeF q).D⟩ else badF 2) := ⟨by
        unfold parseF; rw [if_neg (by have := HN.out.2.2; omega), if_neg (by rw [hβ]; decide), HN.out.2.2, hq]⟩
      have HBQ : Aside0 (Bytes q) := ⟨by rw [← hq]; exact HBP.out.take _⟩
      have HQN : Aside0 (q.length ≤ 100000) := ⟨by rw [← hq, List.length_take]; have := HN.out.1; omega⟩
      obtain ⟨A2, c2, rfl, hc2, hC2⟩ := Kd.R_reads hv2
      have H2 := Aside0.mk (H1.out.call hb2)
      have KR := Aside0.mk (read_any A2 q.length c2 q w2 hC2 (by have := HQN.out; omega))
      clear hv2 hb2 hC2 hc2 H1 hβ hq
      go_wp2_with fail
      refine KR.out.mono ?_
      rintro e w3 ⟨ge, rfl, hge, hEy, hb3⟩
      obtain ⟨BB, hBB⟩ : ∃ BB, w3.heap.size = BB := ⟨_, rfl⟩
      rw [hBB] at hEy
      have hgB : ge < BB := by obtain ⟨_, _, _, _, _, _, _, h5⟩ := hEy; exact h5
      have hge2 : B < ge := Nat.lt_of_lt_of_le (H2.out.lt (i := 0) rfl) hge
      have HGE := Aside0.mk (And.intro hge2 (And.intro hgB (show BB ≤ w3.heap.size by omega)))
      have H3 := Aside0.mk (H2.out.call hb3)
      have HE3 := Aside0.mk hEy
      clear hge hEy hb3 hBB hge2 hgB H2 KR
      obtain ⟨⟨mg, l1, b1⟩, e1⟩ : ∃ y, eByte q false = y := ⟨_, rfl⟩
      obtain ⟨⟨ep, l2, b2⟩, e2⟩ : ∃ y, eFix 2 l1 b1 = y := ⟨_, rfl⟩
      obtain ⟨⟨sq, l3, b3⟩, e3⟩ : ∃ y, eFix 2 l2 b2 = y := ⟨_, rfl⟩
      obtain ⟨⟨nx, l4, b4⟩, e4⟩ : ∃ y, eFix 2 l3 b3 = y := ⟨_, rfl⟩
      obtain ⟨⟨bt, l5, b5⟩, e5⟩ : ∃ y, eFix 4 l4 b4 = y := ⟨_, rfl⟩
      obtain ⟨⟨fl, l6, b6⟩, e6⟩ : ∃ y, eByte l5 b5 = y := ⟨_, rfl⟩
      obtain ⟨⟨D, l7, b7⟩, e7⟩ : ∃ y, eBlob 64 l6 b6 = y := ⟨_, rfl⟩
      have HX : Aside0 (eyeF q = ⟨mg, ep, sq, nx, bt, fl, D, l7, b7⟩) := ⟨by unfold eyeF; simp only [e1, e2, e3, e4, e5, e6, e7]⟩
      have q1 : Bytes l1 ∧ (0 ≤ mg ∧ mg < 256) := by have := eByte_b (bad := false) HBQ.out; rw [e1] at this; exact ⟨this.2, this.1⟩
      have q2 : Bytes l2 ∧ (0 ≤ ep ∧ ep < 65536) := by have h1 := eFix_b (bad := b1) 2 q1.1; have h2 := eFix_lt (bad := b1) 2 q1.1; rw [e2] at h1 h2; exact ⟨h1, h2⟩
      have q3 : Bytes l3 ∧ (0 ≤ sq ∧ sq < 65536) := by have h1 := eFix_b (bad := b2) 2 q2.1; have h2 := eFix_lt (bad := b2) 2 q2.1; rw [e3] at h1 h2; exact ⟨h1, h2⟩
      have q4 : Bytes l4 ∧ (0 ≤ nx ∧ nx < 65536) := by have h1 := eFix_b (bad := b3) 2 q3.1; have h2 := eFix_lt (bad := b3) 2 q3.1; rw [e4] at h1 h2; exact ⟨h1, h2⟩
      have q5 : Bytes l5 ∧ (0 ≤ bt ∧ bt < 4294967296) := by have h1 := eFix_b (bad := b4) 4 q4.1; have h2 := eFix_lt (bad := b4) 4 q4.1; rw [e5] at h1 h2; exact ⟨h1, h2⟩
      have q6 : Bytes l6 ∧ (0 ≤ fl ∧ fl < 256) := by have := eByte_b (bad := b5) q5.1; rw [e6] at this; exact ⟨this.2, this.1⟩
      have len1 : l1.length ≤ q.length := by have := congrArg (fun y => y.2.1.length) e1; unfold eByte at this; split at this <;> simp at this <;> omega
      have lenf : ∀ (k : Nat) (l : List Int) (b : Bool), (eFix k l b).2.1.length ≤ l.length := fun k l b => by unfold eFix; split <;> simp
      have lenb : ∀ (l : List Int) (b : Bool), (eByte l b).2.1.length ≤ l.length := fun l b => by unfold eByte; split <;> simp
      have hl6 : l6.length ≤ 100000 := by
        have z2 := lenf 2 l1 b1
        have z3 := lenf 2 l2 b2
        have z4 := lenf 2 l3 b3
        have z5 := lenf 4 l4 b4
        have z6 := lenb l5 b5
        rw [e2] at z2; rw [e3] at z3; rw [e4] at z4; rw [e5] at z5; rw [e6] at z6
        simp only at z2 z3 z4 z5 z6
        have := HQN.out; omega
      have HBND := Aside0.mk (And.intro q1.2 (And.intro q2.2 (And.intro q3.2 (And.intro q4.2 (And.intro q5.2 q6.2)))))
      have K1 := Aside0.mk (fun (X : World) (hx : Ey X ge BB q false) => ebyte_any ge BB q false X hx)
      have K2 := Aside0.mk (fun (X : World) (hx : Ey X ge BB l1 b1) => ehalf_any ge BB l1 b1 X hx q1.1)
      have K3 := Aside0.mk (fun (X : World) (hx : Ey X ge BB l2 b2) => ehalf_any ge BB l2 b2 X hx q2.1)
      have K4 := Aside0.mk (fun (X : World) (hx : Ey X ge BB l3 b3) => ehalf_any ge BB l3 b3 X hx q3.1)
      have K5 := Aside0.mk (fun (X : World) (hx : Ey X ge BB l4 b4) => eword_any ge BB l4 b4 X hx q4.1)
      have K6 := Aside0.mk (fun (X : World) (hx : Ey X ge BB l5 b5) => ebyte_any ge BB l5 b5 X hx)
      have K7 := Aside0.mk (fun (X : World) (hx : Ey X ge BB l6 b6) => eblob_any ge BB l6 b6 64 X hx q6.1 (by omega) (by omega))
      rw [e1] at K1
      rw [e2] at K2
      rw [e3] at K3
      rw [e4] at K4
      rw [e5] at K5
      rw [e6] at K6
      rw [e7] at K7
      have HAB := Aside0.mk (and_b fl q6.2)
      have HDB : Aside0 (Bytes D) := ⟨by have := eblob_bytes 64 (by decide) l6 b6 q6.1; rw [e7] at this; exact this⟩
      clear e1 e2 e3 e4 e5 e6 e7 q1 q2 q3 q4 q5 q6 len1 lenf lenb hl6
      go_wp2_with fail
      refine (K1.out _ HE3.out).mono ?_
      rintro e w4 ⟨rfl, he4⟩
      have H4 := Aside0.mk (H3.out.eyeL he4 (Nat.le_of_lt HGE.out.1) (fun p hp => by obtain rfl := List.mem_singleton.1 hp; exact Nat.ne_of_lt HGE.out.1))
      have HE4 := Aside0.mk he4.1
      have HSZn : Aside0 (w3.heap.size ≤ w4.heap.size) := ⟨he4.2.1.1⟩
      clear he4 H3 HE3 K1
      have HSZ := HSZn
      clear HSZn
      go_wp2_with fail
      refine (K2.out _ HE4.out).mono ?_
      rintro e w5 ⟨rfl, he5⟩
      have H5 := Aside0.mk (H4.out.eyeL he5 (Nat.le_of_lt HGE.out.1) (fun p hp => by obtain rfl := List.mem_singleton.1 hp; exact Nat.ne_of_lt HGE.out.1))
      have HE5 := Aside0.mk he5.1
      have HSZn : Aside0 (w3.heap.size ≤ w5.heap.size) := ⟨Nat.le_trans HSZ.out he5.2.1.1⟩
      clear he5 H4 HE4 K2 HSZ
      have HSZ := HSZn
      clear HSZn
      go_wp2_with fail
      refine (K3.out _ HE5.out).mono ?_
      rintro e w6 ⟨rfl, he6⟩
      have H6 := Aside0.mk (H5.out.eyeL he6 (Nat.le_of_lt HGE.out.1) (fun p hp => by obtain rfl := List.mem_singleton.1 hp; exact Nat.ne_of_lt HGE.out.1))
      have HE6 := Aside0.mk he6.1
      have HSZn : Aside0 (w3.heap.size ≤ w6.heap.size) := ⟨Nat.le_trans HSZ.out he6.2.1.1⟩
      clear he6 H5 HE5 K3 HSZ
      have HSZ := HSZn
      clear HSZn
      go_wp2_with fail
      refine (K4.out _ HE6.out).mono ?_
      rintro e w7 ⟨rfl, he7⟩
      have H7 := Aside0.mk (H6.out.eyeL he7 (Nat.le_of_lt HGE.out.1) (fun p hp => by obtain rfl := List.mem_singleton.1 hp; exact Nat.ne_of_lt HGE.out.1))
      have HE7 := Aside0.mk he7.1
      have HSZn : Aside0 (w3.heap.size ≤ w7.heap.size) := ⟨Nat.le_trans HSZ.out he7.2.1.1⟩
      clear he7 H6 HE6 K4 HSZ
      have HSZ := HSZn
      clear HSZn
      go_wp2_with fail
      refine (K5.out _ HE7.out).mono ?_
      rintro e w8 ⟨rfl, he8⟩
      have H8 := Aside0.mk (H7.out.eyeL he8 (Nat.le_of_lt HGE.out.1) (fun p hp => by obtain rfl := List.mem_singleton.1 hp; exact Nat.ne_of_lt HGE.out.1))
      have HE8 := Aside0.mk he8.1
      have HS8 : Aside0 (ge < w8.heap.size ∧ BB ≤ w8.heap.size) := ⟨Nat.lt_of_lt_of_le (Nat.lt_of_lt_of_le HGE.out.2.1 HGE.out.2.2) (Nat.le_trans HSZ.out he8.2.1.1), Nat.le_trans (Nat.le_trans HGE.out.2.2 HSZ.out) he8.2.1.1⟩
      have HSZn : Aside0 (w3.heap.size ≤ w8.heap.size) := ⟨Nat.le_trans HSZ.out he8.2.1.1⟩
      clear he8 H7 HE7 K5 HSZ
      have HSZ := HSZn
      clear HSZn
      obtain ⟨g8, hg8⟩ : ∃ g8, w8.heap.size = g8 := ⟨_, rfl⟩
      have H9 := Aside0.mk (H8.out.allocAt (.cells #[.int .u16 ep, .int .u16 sq, .int .u16 nx, .int .u32 bt, .bool false, .bool false, .bool false, .slice none 0 0] 72) g8 hg8)
      have HE9 := Aside0.mk (HE8.out.below ((below_alloc (Below.refl w8.heap.size w8) (.cells #[.int .u16 ep, .int .u16 sq, .int .u16 nx, .int .u32 bt, .bool false, .bool false, .bool false, .slice none 0 0] 72)).mono HS8.out.2) HS8.out.2)
      have HG8 : Aside0 (ge < g8 ∧ B < g8 ∧ BB ≤ g8) := ⟨by rw [← hg8]; exact HS8.out.1, by have := HGE.out.1; have := HS8.out.1; omega, by rw [← hg8]; exact HS8.out.2⟩
      clear H8 HE8 HS8 HSZ
      go_wp2_with fail
      generalize w8.alloc (.cells #[.int .u16 ep, .int .u16 sq, .int .u16 nx, .int .u32 bt, .bool false, .bool false, .bool false, .slice none 0 0] 72) = W9 at *
      clear hg8
      refine (K6.out _ HE9.out).mono ?_
      rintro e w10 ⟨rfl, he10⟩
      have H10 := Aside0.mk (H9.out.eyeL he10 (Nat.le_of_lt HGE.out.1) (fun p hp => by
        simp only [List.mem_cons, List.not_mem_nil, or_false] at hp
        rcases hp with rfl | rfl
        · exact Nat.ne_of_gt HG8.out.1
        · exact Nat.ne_of_lt HGE.out.1))
      have HE10 := Aside0.mk he10.1
      clear he10 H9 HE9 K6
      have c4 := blk_cell (H10.out.get (i := 0) rfl) 4
      have c5 := blk_cell (H10.out.get (i := 0) rfl) 5
      have c6 := blk_cell (H10.out.get (i := 0) rfl) 6
      have f4 := blk_frozen (H10.out.get (i := 0) rfl) 4
      have f5 := blk_frozen (H10.out.get (i := 0) rfl) 5
      have f6 := blk_frozen (H10.out.get (i := 0) rfl) 6
      obtain ⟨a1, a2, a4⟩ := HAB.out
      go_wp2_with fail
      clear c4 c5 c6 f4 f5 f6
      try rw [a1]
      try rw [a2]
      try rw [a4]
      clear a1 a2 a4 HAB
      have H11 := Aside0.mk (((H10.out.setCell (i := 0) rfl 4 (.bool (b1F fl))).setCell (i := 0) rfl 5 (.bool (b2F fl))).setCell (i := 0) rfl 6 (.bool (b4F fl)))
      have HE11 := Aside0.mk (HE10.out.below ((((Below.refl BB w10).setCell (p := ⟨g8, 4, none⟩) HG8.out.2.2 (.bool (b1F fl))).setCell (p := ⟨g8, 5, none⟩) HG8.out.2.2 (.bool (b2F fl))).setCell (p := ⟨g8, 6, none⟩) HG8.out.2.2 (.bool (b4F fl))) (Nat.le_trans HG8.out.2.2 (Nat.le_of_lt (H10.out.lt (i := 0) rfl))))
      clear H10 HE10
      generalize ((w10.setCell ⟨g8, 4, none⟩ (.bool (b1F fl))).setCell ⟨g8, 5, none⟩ (.bool (b2F fl))).setCell ⟨g8, 6, none⟩ (.bool (b4F fl)) = W11 at *
      have H12 : Aside0 (Hp B w00 W11 [(g8, .cells #[.int .u16 ep, .int .u16 sq, .int .u16 nx, .int .u32 bt, .bool (b1F fl), .bool (b2F fl), .bool (b4F fl), .slice none 0 0] 72 (0, 0)), (B, .cells #[.int .u16 0, .int .u16 0, .int .u16 0, .int .u32 0, .bool false, .bool false, .bool false, .slice none 0 0] 72 (0, 0))] []) := ⟨H11.out⟩
      clear H11
      refine (K7.out _ HE11.out).mono ?_
      rintro e w13 ⟨w12, vo, rfl, he12, hD, hb13⟩
      have H13 := Aside0.mk (H12.out.eyeL he12 (Nat.le_of_lt HGE.out.1) (fun p hp => by
        simp only [List.mem_cons, List.not_mem_nil, or_false] at hp
        rcases hp with rfl | rfl
        · exact Nat.ne_of_gt HG8.out.1
        · exact Nat.ne_of_lt HGE.out.1))
      have HE13 := Aside0.mk he12.1
      have HSB : Aside0 (BB ≤ w12.heap.size) := ⟨Nat.le_trans HG8.out.2.2 (Nat.le_of_lt (H13.out.lt (i := 0) rfl))⟩
      obtain ⟨Ad, cd, rfl, hcd, _⟩ := Kd.R_reads hD
      have H14 := Aside0.mk (H13.out.row hb13 hD)
      have HE14 := Aside0.mk (HE13.out.below (hb13.mono HSB.out) HSB.out)
      obtain ⟨dn, hdn⟩ : ∃ dn, D.length = dn := ⟨_, rfl⟩
      rw [hdn] at H14 hcd
      rw [hdn]
      have HDN := Aside0.mk (And.intro hdn hcd)
      clear he12 hD hb13 hcd hdn H12 HE11 H13 HE13 K7 HSB
      have c7 := blk_cell (H14.out.get (i := 0) rfl) 7
      have f7 := blk_frozen (H14.out.get (i := 0) rfl) 7
      go_wp2_with fail
      clear c7 f7
      have H15 := Aside0.mk (H14.out.setCell (i := 0) rfl 7 (.slice Ad dn cd))
      have HE15 := Aside0.mk (HE14.out.below ((Below.refl BB w13).setCell (p := ⟨g8, 7, none⟩) HG8.out.2.2 (.slice Ad dn cd)) (Nat.le_trans HG8.out.2.2 (Nat.le_of_lt (H14.out.lt (i := 0) rfl))))
      clear H14 HE14
      generalize w13.setCell ⟨g8, 7, none⟩ (.slice Ad dn cd) = W15 at *
      have H16 : Aside0 (Hp B w00 W15 [(g8, .cells #[.int .u16 ep, .int .u16 sq, .int .u16 nx, .int .u32 bt, .bool (b1F fl), .bool (b2F fl), .bool (b4F fl), .slice Ad dn cd] 72 (0, 0)), (B, .cells #[.int .u16 0, .int .u16 0, .int .u16 0, .int .u32 0, .bool false, .bool false, .bool false, .slice none 0 0] 72 (0, 0))] [fun w => (Kd.int .u8).R 5 w B (fun _ => True) (.slice Ad dn cd) D]) := ⟨H15.out⟩
      clear H15
      have HFR : Aside0 (∀ z, (Kd.int .u8).R 5 z B (fun _ => True) (.slice Ad dn cd) D → FrC z ep sq nx bt (b1F fl) (b2F fl) (b4F fl) D (.agg #[.int .u16 ep, .int .u16 sq, .int .u16 nx, .int .u32 bt, .bool (b1F fl), .bool (b2F fl), .bool (b4F fl), .slice Ad dn cd])) := ⟨fun z hz => ⟨Ad, cd, by rw [HDN.out.1], by rw [HDN.out.1]; exact HDN.out.2, by rw [HDN.out.1]; exact (Ru_C hz).2.2⟩⟩
      have HGD : Aside0 ((eyeF q).good p = (decide (¬ (b7 = true ∨ 0 < l7.length)) && (decide (mg = 86) && (rightF sq dn (b1F fl) (b2F fl) (b4F fl) && decide (fBytes ep.toNat sq.toNat nx.toNat bt.toNat (b1F fl) (b2F fl) (b4F fl) D = p))))) := ⟨by rw [HX.out]; unfold ERes.good; rw [← HDN.out.1]⟩
      refine (done_any ge BB l7 b7 W15 HE15.out).mono ?_
      rintro e w16 ⟨rfl, rfl⟩
      clear HE15
      by_cases hd : b7 = true ∨ 0 < l7.length
      · rw [if_pos hd]
        have HBAD : Aside0 (parseF p = badF 2) := ⟨by rw [HPQ.out, if_neg (by rw [HGD.out, decide_eq_false (fun h => h hd)]; simp)]⟩
        clear hd
        go_wp2_with (first | (refine wpList_store_row rfl 72 (.tmp 2) (.tmp 70) rfl B #[.int .u16 0, .int .u16 0, .int .u16 0, .int .u32 0, .bool false, .bool false, .bool false, .slice none 0 0] rfl rfl 72 _ (H16.out.get (i := 1) rfl) (frame_info _ _ _ _ _ _ _ _) rfl (by simp [Value.oneCell']) ?_))
        have H9 := Aside0.mk (H16.out.setRow (i := 1) rfl #[.int .u16 0, .int .u16 0, .int .u16 0, .int .u32 0, .bool false, .bool false, .bool false, .slice none 0 0])
        refine bodyPost_ret (results_ct rfl _ _ B _ #[.int .u16 0, .int .u16 0, .int .u16 0, .int .u32 0, .bool false, .bool false, .bool false, .slice none 0 0] (0, 0) _ rfl (H9.out.get (i := 1) rfl) Try.underlying72 rfl (frame_info _ _ _ _ _ _ _ _)) rfl ?_
        exact ⟨FParseR.of HBAD.out (FrC_zero _), H9.out.bel⟩
      · rw [if_neg hd]
        have HD1 := Aside0.mk hd
        clear hd
        by_cases hm : mg = 86
        · subst hm
          go_wp2_with (first | (refine wpList_load_row_g 72 (.tmp 8) rfl g8 rfl rfl 72 _ (0, 0) _ (H16.out.get (i := 0) rfl) Try.underlying72 rfl (frame_info _ _ _ _ _ _ _ _) ?_))
          refine (fright_any ep sq nx bt (b1F fl) (b2F fl) (b4F fl) D _ _ (HFR.out _ (H16.out.fact (i := 0) rfl))).mono ?_
          rintro e w17 ⟨rfl, hb17⟩
          have H17 := Aside0.mk (H16.out.call hb17)
          rw [HDN.out.1]
          clear hb17 H16
          obtain ⟨ρ, hρ⟩ : ∃ ρ, rightF sq dn (b1F fl) (b2F fl) (b4F fl) = ρ := ⟨_, rfl⟩
          have HRH := Aside0.mk hρ
          rw [hρ]
          clear hρ
          cases ρ with
          | false =>
            have HBAD : Aside0 (parseF p = badF 2) := ⟨by rw [HPQ.out, if_neg (by rw [HGD.out, HRH.out]; simp)]⟩
            go_wp2_with (first | (refine wpList_store_row rfl 72 (.tmp 2) (.tmp 70) rfl B #[.int .u16 0, .int .u16 0, .int .u16 0, .int .u32 0, .bool false, .bool false, .bool false, .slice none 0 0] rfl rfl 72 _ (H17.out.get (i := 1) rfl) (frame_info _ _ _ _ _ _ _ _) rfl (by simp [Value.oneCell']) ?_))
            have H9 := Aside0.mk (H17.out.setRow (i := 1) rfl #[.int .u16 0, .int .u16 0, .int .u16 0, .int .u32 0, .bool false, .bool false, .bool false, .slice none 0 0])
            refine bodyPost_ret (results_ct rfl _ _ B _ #[.int .u16 0, .int .u16 0, .int .u16 0, .int .u32 0, .bool false, .bool false, .bool false, .slice none 0 0] (0, 0) _ rfl (H9.out.get (i := 1) rfl) Try.underlying72 rfl (frame_info _ _ _ _ _ _ _ _)) rfl ?_
            exact ⟨FParseR.of HBAD.out (FrC_zero _), H9.out.bel⟩
          | true =>
            obtain ⟨epn, rfl⟩ : ∃ x : Nat, ep = (x : Int) := ⟨ep.toNat, by have := HBND.out; omega⟩
            obtain ⟨sqn, rfl⟩ : ∃ x : Nat, sq = (x : Int) := ⟨sq.toNat, by have := HBND.out; omega⟩
            obtain ⟨nxn, rfl⟩ : ∃ x : Nat, nx = (x : Int) := ⟨nx.toNat, by have := HBND.out; omega⟩
            obtain ⟨btn, rfl⟩ : ∃ x : Nat, bt = (x : Int) := ⟨bt.toNat, by have := HBND.out; omega⟩
            have KFB := Aside0.mk (fun (z : World) (h : FrC z epn sqn nxn btn (b1F fl) (b2F fl) (b4F fl) D (.agg #[.int .u16 epn, .int .u16 sqn, .int .u16 nxn, .int .u32 btn, .bool (b1F fl), .bool (b2F fl), .bool (b4F fl), .slice Ad dn cd])) => fbytes_any epn sqn nxn btn (b1F fl) (b2F fl) (b4F fl) D _ z h (by have := HBND.out; omega) HDB.out)
            obtain ⟨fb, hfb⟩ : ∃ fb, fBytes epn sqn nxn btn (b1F fl) (b2F fl) (b4F fl) D = fb := ⟨_, rfl⟩
            have HGD2 : Aside0 ((eyeF q).good p = decide (fb = p)) := ⟨by
              rw [HGD.out, HRH.out, decide_eq_true HD1.out]
              simp only [Int.toNat_natCast, hfb]
              simp⟩
            have HFBB : Aside0 (Bytes fb) := ⟨by rw [← hfb]; exact fBytes_bytes _ _ _ _ _ _ _ D HDB.out⟩
            rw [hfb] at KFB
            clear hfb HGD
            go_wp2_with (first | (refine wpList_load_row_g 72 (.tmp 8) rfl g8 rfl rfl 72 _ (0, 0) _ (H17.out.get (i := 0) rfl) Try.underlying72 rfl (frame_info _ _ _ _ _ _ _ _) ?_))
            refine (KFB.out _ (HFR.out _ (H17.out.fact (i := 0) rfl))).mono ?_
            rintro e w18 ⟨v18, rfl, hv18, hb18⟩
            have H18 := Aside0.mk (H17.out.row hb18 hv18)
            obtain ⟨Af, cf, rfl, hcf, _⟩ := Kd.R_reads hv18
            obtain ⟨fn, hfn⟩ : ∃ fn, fb.length = fn := ⟨_, rfl⟩
            rw [hfn] at H18 hcf
            rw [hfn]
            have HCF := Aside0.mk hcf
            clear hv18 hb18 hcf H17 KFB hfn
            obtain ⟨γ, hγ⟩ : ∃ γ : Bool, γ = true ↔ fb = p := ⟨decide (fb = p), decide_eq_true_iff⟩
            have HGM := Aside0.mk hγ
            go_wp2_with fail
            refine (bequalG_any Af A fn n cf c fb p _ (Ru_C (H18.out.fact (i := 0) rfl)).2.2 HCF.out (HF.out _ H18.out.bel) HN.out.2.1 HFBB.out HBP.out γ hγ).mono ?_
            rintro e w19 ⟨rfl, hb19⟩
            have H19 := Aside0.mk (H18.out.call hb19)
            clear hb19 H18 hγ
            cases γ with
            | false =>
              have HBAD : Aside0 (parseF p = badF 2) := ⟨by rw [HPQ.out, if_neg (by rw [HGD2.out]; simp only [decide_eq_true_iff]; intro h; have := HGM.out.2 h; cases this)]⟩
              go_wp2_with (first | (refine wpList_store_row rfl 72 (.tmp 2) (.tmp 70) rfl B #[.int .u16 0, .int .u16 0, .int .u16 0, .int .u32 0, .bool false, .bool false, .bool false, .slice none 0 0] rfl rfl 72 _ (H19.out.get (i := 1) rfl) (frame_info _ _ _ _ _ _ _ _) rfl (by simp [Value.oneCell']) ?_))
              have H9 := Aside0.mk (H19.out.setRow (i := 1) rfl #[.int .u16 0, .int .u16 0, .int .u16 0, .int .u32 0, .bool false, .bool false, .bool false, .slice none 0 0])
              refine bodyPost_ret (results_ct rfl _ _ B _ #[.int .u16 0, .int .u16 0, .int .u16 0, .int .u32 0, .bool false, .bool false, .bool false, .slice none 0 0] (0, 0) _ rfl (H9.out.get (i := 1) rfl) Try.underlying72 rfl (frame_info _ _ _ _ _ _ _ _)) rfl ?_
              exact ⟨FParseR.of HBAD.out (FrC_zero _), H9.out.bel⟩
            | true =>
              have HOKP : Aside0 (parseF p = ⟨0, epn, sqn, nxn, btn, b1F fl, b2F fl, b4F fl, D⟩) := ⟨by rw [HPQ.out, if_pos (by rw [HGD2.out]; exact decide_eq_true (HGM.out.1 rfl)), HX.out]⟩
              go_wp2_with (first | (refine wpList_load_row_g 72 (.tmp 8) rfl g8 rfl rfl 72 _ (0, 0) _ (H19.out.get (i := 0) rfl) Try.underlying72 rfl (frame_info _ _ _ _ _ _ _ _) ?_) | (refine wpList_store_row rfl 72 (.tmp 2) (.tmp 71) rfl B #[.int .u16 epn, .int .u16 sqn, .int .u16 nxn, .int .u32 btn, .bool (b1F fl), .bool (b2F fl), .bool (b4F fl), .slice Ad dn cd] rfl rfl 72 _ (H19.out.get (i := 1) rfl) (frame_info _ _ _ _ _ _ _ _) rfl (by simp [Value.oneCell']) ?_))
              have H20 := Aside0.mk (H19.out.setRow (i := 1) rfl #[.int .u16 epn, .int .u16 sqn, .int .u16 nxn, .int .u32 btn, .bool (b1F fl), .bool (b2F fl), .bool (b4F fl), .slice Ad dn cd])
              refine bodyPost_ret (results_ct rfl _ _ B _ #[.int .u16 epn, .int .u16 sqn, .int .u16 nxn, .int .u32 btn, .bool (b1F fl), .bool (b2F fl), .bool (b4F fl), .slice Ad dn cd] (0, 0) _ rfl (H20.out.get (i := 1) rfl) Try.underlying72 rfl (frame_info _ _ _ _ _ _ _ _)) rfl ?_
              exact ⟨FParseR.of HOKP.out (HFR.out _ (H20.out.fact (i := 1) rfl)), H20.out.bel⟩
        · have HBAD : Aside0 (parseF p = badF 2) := ⟨by rw [HPQ.out, if_neg (by rw [HGD.out, decide_eq_false hm]; simp)]⟩
          go_wp2_with (first | (refine wpList_store_row rfl 72 (.tmp 2) (.tmp 70) rfl B #[.int .u16 0, .int .u16 0, .int .u16 0, .int .u32 0, .bool false, .bool false, .bool false, .slice none 0 0] rfl rfl 72 _ (H16.out.get (i := 1) rfl) (frame_info _ _ _ _ _ _ _ _) rfl (by simp [Value.oneCell']) ?_))
          have H9 := Aside0.mk (H16.out.setRow (i := 1) rfl #[.int .u16 0, .int .u16 0, .int .u16 0, .int .u32 0, .bool false, .bool false, .bool false, .slice none 0 0])
          refine bodyPost_ret (results_ct rfl _ _ B _ #[.int .u16 0, .int .u16 0, .int .u16 0, .int .u32 0, .bool false, .bool false, .bool false, .slice none 0 0] (0, 0) _ rfl (H9.out.get (i := 1) rfl) Try.underlying72 rfl (frame_info _ _ _ _ _ _ _ _)) rfl ?_
          exact ⟨FParseR.of HBAD.out (FrC_zero _), H9.out.bel⟩
end Go.Proofs.Yticpjidcgaaldaa

namespace Go.Proofs.Yticpjidcgaaldaa
open Go.RowKit Go.Proofs.YticpjidcgaaldaaW.PrintWords Go.Proofs.YticpjidcgaaldaaW.PrintLast Go.Proofs.YticpjidcgaaldaaW.PrintMore
set_option linter.unusedVariables false
set_option linter.unusedSimpArgs false

structure S70 where
  f0 : Int
  f1 : Int
def k70 : Kd S70 := Kd.iso (Kd.pair (Kd.int .u16) (Kd.int .u32)) (fun x : S70 => (x.f0, x.f1))
structure S72 where
  f0 : Int
  f1 : Int
  f2 : S70
  f3 : Bool
  f4 : Bool
  f5 : Bool
  f6 : List Int
def k72 : Kd S72 := Kd.iso (Kd.pair (Kd.int .u16) (Kd.pair (Kd.int .u16) (Kd.pair k70 (Kd.pair Kd.bool (Kd.pair Kd.bool (Kd.pair Kd.bool (Kd.slice 5 (Kd.int .u8)))))))) (fun x : S72 => (x.f0, x.f1, x.f2, x.f3, x.f4, x.f5, x.f6))
def OkFr (x : S72) : Prop := (Lit.int .u16 x.f0).wf = true ∧ (Lit.int .u16 x.f1).wf = true ∧ ((Lit.int .u16 x.f2.f0).wf = true ∧ (Lit.int .u32 x.f2.f1).wf = true) ∧ True ∧ True ∧ True ∧ ∀ y ∈ x.f6, (Lit.int .u8 y).wf = true
theorem frame_in {w : World} {x : S72} {cs : List Value} (h : k72.K w x cs) : FrC w x.f0 x.f1 x.f2.f0 x.f2.f1 x.f3 x.f4 x.f5 x.f6 (.agg cs.toArray) := by
  obtain ⟨_, _, rfl, rfl, _, _, rfl, rfl, _, _, rfl, ⟨_, _, rfl, rfl, rfl⟩, _, _, rfl, rfl, _, _, rfl, rfl, _, _, rfl, rfl, ⟨A, c, rfl, h1, h2⟩⟩ := h
  exact ⟨A, c, rfl, h1, h2⟩
theorem fBytes_no {ep sq nx bt : Nat} {fi la al : Bool} {D : List Int} (h : rightF sq D.length fi la al = false) : fBytes ep sq nx bt fi la al D = [] := by unfold fBytes; rw [if_neg (by rw [h]; decide)]
theorem fBytes_len {ep sq nx bt : Nat} {fi la al : Bool} {D : List Int} (h : rightF sq D.length fi la al = true) : (fBytes ep sq nx bt fi la al D).length = 17 + D.length := by
  unfold fBytes; rw [if_pos h, sealL_len, fBody_len]; omega
end Go.Proofs.Yticpjidcgaaldaa

namespace Go.Proofs.Yticpjidcgaaldaa
open Go.RowKit Go.Proofs.YticpjidcgaaldaaW.PrintWords Go.Proofs.YticpjidcgaaldaaW.PrintLast Go.Proofs.YticpjidcgaaldaaW.PrintMore
set_option linter.unusedVariables false
set_option linter.unusedSimpArgs false

set_option maxRecDepth 100000 in
set_option maxHeartbeats 16000000 in
theorem mlike_any (k t m tk hs k' t' m' tk' hs' : Int) (P P' : List Int) (R R' : List S59) (v u : Value) (w00 : World) (hv : MsC w00 k t m tk hs P R v) (hu : MsC w00 k' t' m' tk' hs' P' R' u) (hP : Bytes P) (hP' : Bytes P') (hn : R.length ≤ 1000000) (hn' : R'.length ≤ 1000000) (β : Bool) (hβ : β = true ↔ k = k' ∧ t = t' ∧ m = m' ∧ tk = tk' ∧ hs = hs' ∧ P = P' ∧ R = R') :
    Calls Try.prog 20 #[v, u] w00 fun e w' => e = .returned (.bool β) ∧ Below w00.heap.size w00 w' := by
  obtain ⟨A, c, A2, c2, rfl, h2, h3, h4, h5⟩ := hv
  obtain ⟨A', c', A2', c2', rfl, k2, k3, k4, k5⟩ := hu
  have HBE := Aside0.mk hβ
  have HF : Aside0 (∀ z, Below w00.heap.size w00 z → DvC z tk hs P R (.agg #[.int .u32 tk, .int .u32 hs, .slice A P.length c, .slice A2 R.length c2]) ∧ DvC z tk' hs' P' R' (.agg #[.int .u32 tk', .int .u32 hs', .slice A' P'.length c', .slice A2' R'.length c2'])) := ⟨fun z hb => ⟨⟨A, c, A2, c2, rfl, h2, h3, Kd.C_below h4 hb, Kd.C_below h5 hb⟩, ⟨A', c', A2', c2', rfl, k2, k3, Kd.C_below k4 hb, Kd.C_below k5 hb⟩⟩⟩
  have KD := Aside0.mk (fun (γ : Bool) (hγ : γ = true ↔ tk = tk' ∧ hs = hs' ∧ P = P' ∧ R = R') (z : World) (hz : Below w00.heap.size w00 z) => dsameG_any tk hs tk' hs' P P' R R' _ _ z (HF.out z hz).1 (HF.out z hz).2 hP hP' hn hn' γ hγ)
  have H0 := Aside0.mk (((Hp.start w00).alloc (.cells #[.int .u8 k, .int .u32 t, .int .u32 m, .int .u32 tk, .int .u32 hs, .slice A P.length c, .slice A2 R.length c2] 28)).allocAt (.cells #[.int .u8 k', .int .u32 t', .int .u32 m', .int .u32 tk', .int .u32 hs', .slice A' P'.length c', .slice A2' R'.length c2'] 28) (w00.heap.size + 1) (by simp))
  clear h2 h3 h4 h5 k2 k3 k4 k5 hn hn' hP hP' hβ
  obtain ⟨n, hn⟩ : ∃ n, P.length = n := ⟨_, rfl⟩
  obtain ⟨p, hp⟩ : ∃ p, R.length = p := ⟨_, rfl⟩
  obtain ⟨n', hn'⟩ : ∃ n, P'.length = n := ⟨_, rfl⟩
  obtain ⟨p', hp'⟩ : ∃ p, R'.length = p := ⟨_, rfl⟩
  rw [hn, hp, hn', hp'] at KD HF H0
  rw [hn, hp, hn', hp']
  clear hn hp hn' hp'
  go_enter Try.func20, Try.ntmps20
  go_upto_region 1 with fail
  generalize (w00.alloc (.cells #[.int .u8 k, .int .u32 t, .int .u32 m, .int .u32 tk, .int .u32 hs, .slice A n c, .slice A2 p c2] 28)).alloc (.cells #[.int .u8 k', .int .u32 t', .int .u32 m', .int .u32 tk', .int .u32 hs', .slice A' n' c', .slice A2' p' c2'] 28) = W at *
  obtain ⟨gd, hgd⟩ : ∃ gd, w00.heap.size = gd := ⟨_, rfl⟩
  rw [hgd] at H0 HF KD
  rw [hgd]
  have HGD := Aside0.mk hgd
  clear hgd
  have a0 := blk_cell (H0.out.get (i := 1) rfl) 0
  have a1 := blk_cell (H0.out.get (i := 1) rfl) 1
  have a2 := blk_cell (H0.out.get (i := 1) rfl) 2
  have a3 := blk_cell (H0.out.get (i := 1) rfl) 3
  have a4 := blk_cell (H0.out.get (i := 1) rfl) 4
  have a5 := blk_cell (H0.out.get (i := 1) rfl) 5
  have a6 := blk_cell (H0.out.get (i := 1) rfl) 6
  have b0 := blk_cell (H0.out.get (i := 0) rfl) 0
  have b1 := blk_cell (H0.out.get (i := 0) rfl) 1
  have b2 := blk_cell (H0.out.get (i := 0) rfl) 2
  have b3 := blk_cell (H0.out.get (i := 0) rfl) 3
  have b4 := blk_cell (H0.out.get (i := 0) rfl) 4
  have b5 := blk_cell (H0.out.get (i := 0) rfl) 5
  have b6 := blk_cell (H0.out.get (i := 0) rfl) 6
  by_cases e0 : k = k'
  · subst e0
    by_cases e1 : t = t'
    · subst e1
      by_cases e2 : m = m'
      · subst e2
        go_wp2_with fail
        refine (KD.out β ⟨fun h => (HBE.out.1 h).2.2.2, fun h => HBE.out.2 (by exact ⟨trivial, trivial, trivial, h⟩)⟩ W H0.out.bel).mono ?_
        rintro e w1 ⟨rfl, hb1⟩
        have H1 := Aside0.mk (H0.out.call hb1)
        clear a0 a1 a2 a3 a4 a5 a6 b0 b1 b2 b3 b4 b5 b6 hb1 H0
        go_wp2_with fail
        go_ret
        rw [HGD.out]
        exact ⟨rfl, H1.out.bel⟩
      · have HT : Aside0 (β = false) := ⟨by
          rw [Bool.eq_false_iff]
          intro e
          exact e2 (HBE.out.1 e).2.2.1⟩
        go_wp2_with fail
        go_ret
        rw [HGD.out, HT.out]
        exact ⟨rfl, H0.out.bel⟩
    · have HT : Aside0 (β = false) := ⟨by
        rw [Bool.eq_false_iff]
        intro e
        exact e1 (HBE.out.1 e).2.1⟩
      go_wp2_with fail
      go_ret
      rw [HGD.out, HT.out]
      exact ⟨rfl, H0.out.bel⟩
  · have HT : Aside0 (β = false) := ⟨by
      rw [Bool.eq_false_iff]
      intro e
      exact e0 (HBE.out.1 e).1⟩
    go_wp2_with fail
    go_ret
    rw [HGD.out, HT.out]
    exact ⟨rfl, H0.out.bel⟩
theorem Kd.C_any0 {α : Type} {d : Kd α} {w : World} {A : Option Addr} (h : d.C w A 0 []) (z : World) : d.C z A 0 [] := ⟨rfl, by simp, fun hn => absurd hn (by simp)⟩
theorem ex_bytes : mBytes 2 5 2 0 0 [] [] = [2, 5, 0, 0, 0, 2, 0, 0, 0] := by decide
theorem ex_read : readR [2, 5, 0, 0, 0, 2, 0, 0, 0] = ⟨true, 2, 5, 2, 0, 0, [], []⟩ := by rw [readR_two]; rfl
theorem ex_ok : OkM 2 5 2 0 0 [] [] := OkM_zero (by omega) (by omega) (by omega)
set_option maxRecDepth 100000 in
set_option maxHeartbeats 16000000 in
theorem awake11_any (w00 : World) : Calls Try.prog 10 #[] w00 fun e w' => e = .returned (.bool true) ∧ Below w00.heap.size w00 w' := by
  obtain ⟨B, hB⟩ : ∃ B, w00.heap.size = B := ⟨_, rfl⟩
  have H0 := Aside0.mk ((Hp.start w00).allocAt (.cells #[.int .u8 2, .int .u32 5, .int .u32 2, .int .u32 0, .int .u32 0, .slice none 0 0, .slice none 0 0] 28) B hB)
  rw [hB] at H0
  rw [hB]
  have HB := Aside0.mk hB
  have hz7 := zero_msg
  go_enter Try.func10, Try.ntmps10
  go_wp2_with (first | (refine wpList_load_row_g 28 (.tmp 1) rfl B rfl rfl 28 _ (0, 0) _ (H0.out.get (i := 0) rfl) Try.underlying28 rfl (msg_info _ _ _ _ _ _ _) ?_))
  refine (mbytes_any 2 5 2 0 0 [] [] _ _ (MsC_zero _ _ _ _) ex_ok).mono ?_
  rintro e w1 ⟨v1, rfl, hv1, hb1⟩
  rw [ex_bytes] at hv1
  have H1 := Aside0.mk (H0.out.row hb1 hv1)
  obtain ⟨A1, c1, rfl, hc1, _⟩ := Kd.R_reads hv1
  rw [show ([2, 5, 0, 0, 0, 2, 0, 0, 0] : List Int).length = 9 from rfl] at H1 hc1
  rw [show ([2, 5, 0, 0, 0, 2, 0, 0, 0] : List Int).length = 9 from rfl]
  clear hv1 hb1 H0
  go_wp2_with fail
  refine (mread_any A1 9 c1 [2, 5, 0, 0, 0, 2, 0, 0, 0] _ (Ru_C (H1.out.fact (i := 0) rfl)).2.2 hc1 (by omega) (by intro b hb; simp only [List.mem_cons, List.not_mem_nil, or_false] at hb; omega)).mono ?_
  rintro e w2 ⟨⟨v2, rfl, hv2⟩, hb2⟩
  rw [ex_read] at hv2 ⊢
  simp only at hv2
  obtain ⟨A2, c2, A3, c3, rfl, h2, h3, h4, h5⟩ := hv2
  obtain ⟨g2, hg2⟩ : ∃ g2, w2.heap.size = g2 := ⟨_, rfl⟩
  have H2 := Aside0.mk ((H1.out.call hb2).allocAt (.cells #[.int .u8 2, .int .u32 5, .int .u32 2, .int .u32 0, .int .u32 0, .slice A2 0 c2, .slice A3 0 c3] 28) g2 hg2)
  have HV : Aside0 (∀ z, MsC z 2 5 2 0 0 [] [] (.agg #[.int .u8 2, .int .u32 5, .int .u32 2, .int .u32 0, .int .u32 0, .slice A2 0 c2, .slice A3 0 c3])) := ⟨fun z => ⟨A2, c2, A3, c3, rfl, Nat.zero_le _, Nat.zero_le _, Kd.C_any0 h4 z, Kd.C_any0 h5 z⟩⟩
  clear hb2 h2 h3 h4 h5 H1 hc1
  rw [show ([] : List Int).length = 0 from rfl, show ([] : List S59).length = 0 from rfl]
  go_wp2_with (first | (refine wpList_load_row_g 28 (.tmp 1) rfl B rfl rfl 28 _ (0, 0) _ (H2.out.get (i := 1) rfl) Try.underlying28 rfl (msg_info _ _ _ _ _ _ _) ?_))
  generalize w2.alloc (.cells #[.int .u8 2, .int .u32 5, .int .u32 2, .int .u32 0, .int .u32 0, .slice A2 0 c2, .slice A3 0 c3] 28) = W at *
  clear hg2
  refine (mbytes_any 2 5 2 0 0 [] [] _ _ (MsC_zero _ _ _ _) ex_ok).mono ?_
  rintro e w3 ⟨v3, rfl, hv3, hb3⟩
  rw [ex_bytes] at hv3
  have H3 := Aside0.mk (H2.out.call hb3)
  obtain ⟨A4, c4, rfl, hc4, _⟩ := Kd.R_reads hv3
  rw [show ([2, 5, 0, 0, 0, 2, 0, 0, 0] : List Int).length = 9 from rfl]
  clear hv3 hb3 H2 hc4
  go_wp2_with (first | (refine wpList_load_row_g 28 (.tmp 1) rfl B rfl rfl 28 _ (0, 0) _ (H3.out.get (i := 1) rfl) Try.underlying28 rfl (msg_info _ _ _ _ _ _ _) ?_) | (refine wpList_load_row_g 28 (.tmp 2) rfl g2 rfl rfl 28 _ (0, 0) _ (H3.out.get (i := 0) rfl) Try.underlying28 rfl (msg_info _ _ _ _ _ _ _) ?_))
  refine (mlike_any 2 5 2 0 0 2 5 2 0 0 [] [] [] [] _ _ _ (HV.out _) (MsC_zero _ _ _ _) Bytes.nil Bytes.nil (by simp) (by simp) true (by simp)).mono ?_
  rintro e w4 ⟨rfl, hb4⟩
  have H4 := Aside0.mk (H3.out.call hb4)
  clear hb4 H3
  go_wp2_with fail
  go_ret
  exact ⟨rfl, H4.out.bel⟩
end Go.Proofs.Yticpjidcgaaldaa

namespace Go.Proofs.Yticpjidcgaaldaa
open Go.RowKit Go.Proofs.YticpjidcgaaldaaW.PrintWords Go.Proofs.YticpjidcgaaldaaW.PrintLast Go.Proofs.YticpjidcgaaldaaW.PrintMore
attribute [local go_sem] max2_int min2_int max_two min_two max_three min_three max_four min_four   -- for this text's walks alone
set_option linter.unusedVariables false
set_option linter.unusedSimpArgs false

/-! ### hoodwinkref02_Turned: function 28 -/
def hoodwinkref02_Turned.l0 : Nat → Int → Int → List Int → Int → Option (List Int)
  | 0, _, _, _, _ => none
  | k + 1, x1, x2, x7, x8 => if x8 < 32 then (if (wrap64 (Int.tdiv (wrap64 (x1 + x8)) 8)) < (x7.length : Int) then (if 0 ≤ x8 then (if (Int.tmod (shr .u32 x2 x8) 2) = 1 then (if 0 ≤ (wrap64 (Int.tdiv (wrap64 (x1 + x8)) 8)) then ((some (([1, 2, 4, 8, 16, 32, 64, 128] : List Int) : List Int)).bind fun y144 => (if 0 ≤ (Int.tmod (wrap64 (x1 + x8)) 8) then (if (Int.tmod (wrap64 (x1 + x8)) 8) < (y144.length : Int) then (hoodwinkref02_Turned.l0 k x1 x2 (x7.set ((wrap64 (Int.tdiv (wrap64 (x1 + x8)) 8)) : Int).toNat (Go.bits .xor .u8 (rd x7 (wrap64 (Int.tdiv (wrap64 (x1 + x8)) 8))) (rd y144 (Int.tmod (wrap64 (x1 + x8)) 8)))) (wrap64 (x8 + 1))) else (none)) else (none))) else (none)) else (hoodwinkref02_Turned.l0 k x1 x2 x7 (wrap64 (x8 + 1)))) else (none)) else (hoodwinkref02_Turned.l0 k x1 x2 x7 (wrap64 (x8 + 1)))) else (some x7)
def hoodwinkref02_Turned.f (k : Nat) (l0 : List Int) (a1 : Int) (a2 : Int) : Option (List Int) := (hoodwinkref01_Join.f k (([l0] : List (List Int)))).bind fun t140 => (hoodwinkref02_Turned.l0 k a1 a2 t140 0)
theorem hoodwinkref02_Turned.mono_l : ∀ k, (∀ y0 y1 y2 y3, LeO (hoodwinkref02_Turned.l0 k y0 y1 y2 y3) (hoodwinkref02_Turned.l0 (k + 1) y0 y1 y2 y3))
  | 0 => fun _ _ _ _ r h => by simp [hoodwinkref02_Turned.l0] at h
  | k + 1 => by
    have ih0 := hoodwinkref02_Turned.mono_l k
    · intro y0 y1 y2 y3
      unfold hoodwinkref02_Turned.l0
      repeat' first
      | (with_reducible exact ih0 _ _ _ _)
      | (with_reducible exact hoodwinkref01_Join.mono _ _)
      | (with_reducible exact LeO.refl _)
      | (with_reducible exact LeO.none _)
      | (with_reducible refine LeO.ite ?_ ?_)
      | (with_reducible refine LeO.bind ?_ (fun _ => ?_))
      | exact ih0 _ _ _ _
      | exact hoodwinkref01_Join.mono _ _
      | exact LeO.none _
      | refine LeO.ite ?_ ?_
      | refine LeO.bind ?_ (fun _ => ?_)
theorem hoodwinkref02_Turned.mono : ∀ a0 a1 a2 k, LeO (hoodwinkref02_Turned.f k a0 a1 a2) (hoodwinkref02_Turned.f (k + 1) a0 a1 a2) := by
  intro a0 a1 a2 k
  have ih0 := hoodwinkref02_Turned.mono_l k
  unfold hoodwinkref02_Turned.f
  repeat' first
      | (with_reducible exact ih0 _ _ _ _)
      | (with_reducible exact hoodwinkref01_Join.mono _ _)
      | (with_reducible exact LeO.refl _)
      | (with_reducible exact LeO.none _)
      | (with_reducible refine LeO.ite ?_ ?_)
      | (with_reducible refine LeO.bind ?_ (fun _ => ?_))
      | exact ih0 _ _ _ _
      | exact hoodwinkref01_Join.mono _ _
      | exact LeO.none _
      | refine LeO.ite ?_ ?_
      | refine LeO.bind ?_ (fun _ => ?_)
def hoodwinkref02_Turned.T7 : Bool × List (List Nat × List Nat) := (true, [([], []), ([], []), ([1], [1]), ([0, 2], [0, 2]), ([3], [3]), ([], []), ([], []), ([6], [6]), ([5, 7], [5, 7]), ([8], [8]), ([4, 9], [4, 9]), ([0, 2, 0, 1, 2, 3, 4, 5, 6, 7, 8, 9, 10], [0, 2]), ([11, 10, 0, 1, 2, 3, 4, 5, 6, 7, 8, 9, 10], [10, 11])])
def hoodwinkref02_Turned.B7 : List Nat := [0, 0, 2, 7, 15, 0, 0, 64, 224, 480, 1023, 2047, 4095]
theorem hoodwinkref02_Turned.tab7 : rtab .any (opsOf Try.f28 7) = hoodwinkref02_Turned.T7 := by kernel_rfl
theorem hoodwinkref02_Turned.bits7 : waitsOk hoodwinkref02_Turned.T7.2 hoodwinkref02_Turned.B7 = true := by kernel_rfl
set_option maxHeartbeats 8000000 in
set_option maxRecDepth 100000 in
theorem hoodwinkref02_Turned.calls (k : Nat) (P0_ : Nat → Prop) (A0 : Option Addr) (c0 : Nat) (l0 : List Int) (a1 : Int) (a2 : Int) (r : List Int) (w : World) (hs0 : Kd.V (Kd.int .u8) 5 w w.heap.size (fun k_ => P0_ k_) (.slice A0 l0.length c0) l0) (h : hoodwinkref02_Turned.f k l0 a1 a2 = some r) :
    Calls Try.prog 28 #[.slice A0 l0.length c0, .int .i64 a1, .int .u32 a2] w fun e w' => ∃ v0_ : Value, e = .returned (v0_) ∧ Kd.R (Kd.int .u8) 5 w' w.heap.size (fun k_ => (w.heap.size ≤ k_)) v0_ r ∧ Below w.heap.size w w' := by
  have HO0 := Aside0.mk (show Kd.V (Kd.int .u8) 5 w w.heap.size (fun k_ => (P0_ k_ ∨ w.heap.size ≤ k_)) (.slice A0 l0.length c0) l0 from Kd.V_mono hs0 (fun k_ hk => .inl hk))
  have HB := Aside0.mk (Below.refl w.heap.size w)
  have H : ((hoodwinkref01_Join.f k (([l0] : List (List Int)))).bind fun t140 => (hoodwinkref02_Turned.l0 k a1 a2 t140 0)) = some r := h
  clear h
  obtain ⟨y137, hy137⟩ : ∃ y_ : List (List Int), y_ = (([l0] : List (List Int))) := ⟨_, rfl⟩
  replace H : ((hoodwinkref01_Join.f k y137).bind fun t140 => (hoodwinkref02_Turned.l0 k a1 a2 t140 0)) = some r := by first | (rw [hy137]; with_reducible exact H) | (have H2_ := (Option.bind_some _ _).symm.trans H; rw [hy137]; with_reducible exact H2_) | (have H2_ := (Option.bind_some _ _).symm.trans H; with_reducible exact H2_) | with_reducible exact H | (rw [hy137]; exact H) | exact H
  have Ny137 := Aside0.mk hy137
  clear hy137
  replace H := Option.bind_eq_some_iff.mp H
  obtain ⟨t140, A40, H⟩ := H
  replace H : (hoodwinkref02_Turned.l0 k a1 a2 t140 0) = some r := H
  have A4 := Aside0.mk A40
  clear A40
  have H' := Aside0.mk H
  clear H
  go_enter Try.func28, Try.ntmps28
  go_wp2_with (first | ((with_reducible refine gate_dst (N := 11) rfl ?_); refine Kd.N_lit (Kd.slice 5 (Kd.int .u8)) _ 23 ?hg (N' := 11) ?hd (xs := ([l0] : List (List Int))) (inner := [.slice A0 l0.length c0]) (ok := (fun k_ => (P0_ k_ ∨ w.heap.size ≤ k_))) (okp := (fun k_ => (P0_ k_ ∨ w.heap.size ≤ k_))) ?hr ?hp (fun _ hk => hk) ((show ∀ k_, w.heap.size ≤ k_ → (fun k_ => (P0_ k_ ∨ w.heap.size ≤ k_)) k_ from fun k_ hk => (.inr (Nat.le_trans (below_size (by repeat (first | (with_reducible first | exact HB.out | apply below_alloc | apply pw_below_drewN | apply below_drew1) | exact HB.out))) hk))) _ (Nat.le_refl _)) (Below.refl _ _) (Nat.le_refl _) (by simp) ?_; (case hd => rfl); (case hg => rfl); (case hr => first | (go_simp; done) | (go_simp; rfl)); (case hp => exact (Reps.one (show Kd.FK (Kd.slice 5 (Kd.int .u8)) _ _ l0 [.slice A0 l0.length c0] from (Kd.FK_slice_mk (Kd.V_reads' (Kd.V_mono (ok' := (fun k_ => (P0_ k_ ∨ w.heap.size ≤ k_))) (HO0.out) (fun k_ hk => hk))).2.1 (Kd.V_F (Kd.V_mono (ok' := (fun k_ => (P0_ k_ ∨ w.heap.size ≤ k_))) (HO0.out) (fun k_ hk => hk))))) (Reps.none _ _))); intro v138 w5 ho6 hb hg_ hnew_; clear hg_ hnew_; (first | rw [← Ny137.out] at ho6 | (simp only [Int.reduceToNat] at ho6; rw [← Ny137.out] at ho6)); have n0_ := Aside0.mk (Kd.V_elder' (by (with_reducible repeat (first | apply Kd.V_alloc | apply Kd.V_drewN | apply Kd.V_drew)); exact HO0.out) (Kd.N_base ho6) hb); have n1_ := Aside0.mk (Kd.N_lower ho6 (below_size (by repeat (first | (with_reducible first | exact HB.out | apply below_alloc | apply pw_below_drewN | apply below_drew1) | exact HB.out)))); have n2_ := Aside0.mk (below_step (by repeat (first | (with_reducible first | exact HB.out | apply below_alloc | apply pw_below_drewN | apply below_drew1) | exact HB.out)) hb); clear HO0; clear HB; have HO0 := n0_; have HO139 := n1_; have HB := n2_; clear n0_ n1_ n2_; clear hb ho6; obtain ⟨Ao7, co7, eo7⟩ := Kd.N_slice HO139.out; subst eo7) | ((with_reducible refine gate_callee (f := 21) rfl ?_); refine goesL_ (some 12) rfl rfl Try.func21 (by kernel_rfl) rfl #[.slice Ao7 y137.length co7] rfl (by (try simp only [List.map_toArray, List.map_cons, List.map_nil]); first | done | rfl | (simp only [List.length_drop, List.length_take]; rfl)) ?_; (with_reducible refine (hoodwinkref01_Join.calls k _ _ y137 t140 _ ?side1 ?side2 A4.out).mono ?_); (case side1 => repeat (first | exact (Kd.N_reads' HO139.out).2.2 | (with_reducible refine Kd.C_alloc ?_ _) | (with_reducible refine Kd.C_drewN ?_ _) | (with_reducible refine Kd.C_drew ?_))); (case side2 => exact (Kd.N_reads' HO139.out).2.1); rintro e w8 ⟨v141, rfl, ho0, hb⟩; refine ⟨_, rfl, ?_⟩; have n0_ := Aside0.mk (Kd.V_elder' (by (with_reducible repeat (first | apply Kd.V_alloc | apply Kd.V_drewN | apply Kd.V_drew)); exact HO0.out) (Kd.R_base ho0) hb); have n1_ := Aside0.mk (Kd.N_elder' (by (with_reducible repeat (first | apply Kd.N_alloc | apply Kd.N_drewN | apply Kd.N_drew)); exact HO139.out) (Kd.R_base ho0) hb); have n2_ := Aside0.mk (Kd.R_lower (Kd.R_newM (M := fun k_ => (w.heap.size ≤ k_)) ho0 (below_size (by repeat (first | (with_reducible first | exact HB.out | apply below_alloc | apply pw_below_drewN | apply below_drew1) | exact HB.out))) (fun k_ h_ => h_)) (below_size (by repeat (first | (with_reducible first | exact HB.out | apply below_alloc | apply pw_below_drewN | apply below_drew1) | exact HB.out)))); have n3_ := Aside0.mk (below_step (by repeat (first | (with_reducible first | exact HB.out | apply below_alloc | apply pw_below_drewN | apply below_drew1) | exact HB.out)) hb); clear HO0; clear HO139; clear HB; have HO0 := n0_; have HO139 := n1_; have HO142 := n2_; have HB := n3_; clear n0_ n1_ n2_ n3_; (try clear hb); (try clear hb2); (try clear hk); (try clear hi); (try clear ho0)))
  go_loopg [8] k (fun kq v8 w' => ∃ (x7_1 : List Int) (x8_1 : Int), v8 = .int .i64 x8_1 ∧ Aside0 (hoodwinkref02_Turned.l0 kq a1 a2 x7_1 x8_1 = some r) ∧ Aside0 (kq ≤ k) ∧ Aside0 (Kd.R (Kd.int .u8) 5 w' w.heap.size (fun k_ => (w.heap.size ≤ k_)) v141 x7_1) ∧ Aside0 (Below w.heap.size w w'))
  case atStart => exact ⟨(t140), (0), (by first | rfl | (simp; done) | (simp [*]; done)), H', ⟨Nat.le_refl _⟩, ⟨by (with_reducible repeat (first | apply Kd.R_alloc | apply Kd.R_drewN | apply Kd.R_drew)); exact Kd.R_mono HO142.out (fun _ hk => hk.1)⟩, ⟨by repeat (first | (with_reducible first | exact HB.out | apply below_alloc | apply pw_below_drewN | apply below_drew1) | exact HB.out)⟩⟩
  case round =>
    clear H'
    try clear c2
    try clear p2
    obtain ⟨x7_1, x8_1, rfl, HA, HK1, HO_7, HB⟩ := hrel
    cases gk with
    | zero => exact absurd HA.out (by simp [hoodwinkref02_Turned.l0])
    | succ k1 =>
      have H := HA.out
      clear HA
      simp only [hoodwinkref02_Turned.l0] at H
      by_cases c9 : x8_1 < 32
      · rw [if_pos c9] at H
        have c9b0 : decide (x8_1 < 32) = true := decide_eq_true c9
        clear c9
        by_cases c10 : (wrap64 (Int.tdiv (wrap64 (a1 + x8_1)) 8)) < (x7_1.length : Int)
        · rw [if_pos c10] at H
          have c10b0 : decide ((wrap64 (Int.tdiv (wrap64 (a1 + x8_1)) 8)) < (x7_1.length : Int)) = true := decide_eq_true c10
          clear c10
          by_cases c11 : 0 ≤ x8_1
          · rw [if_pos c11] at H
            have c11b0 := eq_true c11
            have c11b1 : decide (0 ≤ x8_1) = true := decide_eq_true c11
            clear c11
            obtain ⟨ji12, hji12⟩ : ∃ j_ : Int, (shr .u32 a2 x8_1) = j_ := ⟨_, rfl⟩
            replace H : (if (Int.tmod (ji12) 2) = 1 then (if 0 ≤ (wrap64 (Int.tdiv (wrap64 (a1 + x8_1)) 8)) then ((some (([1, 2, 4, 8, 16, 32, 64, 128] : List Int) : List Int)).bind fun y144 => (if 0 ≤ (Int.tmod (wrap64 (a1 + x8_1)) 8) then (if (Int.tmod (wrap64 (a1 + x8_1)) 8) < (y144.length : Int) then (hoodwinkref02_Turned.l0 k1 a1 a2 (x7_1.set ((wrap64 (Int.tdiv (wrap64 (a1 + x8_1)) 8)) : Int).toNat (Go.bits .xor .u8 (rd x7_1 (wrap64 (Int.tdiv (wrap64 (a1 + x8_1)) 8))) (rd y144 (Int.tmod (wrap64 (a1 + x8_1)) 8)))) (wrap64 (x8_1 + 1))) else (none)) else (none))) else (none)) else (hoodwinkref02_Turned.l0 k1 a1 a2 x7_1 (wrap64 (x8_1 + 1)))) = some r := by first | (rw [hji12] at H; exact H) | (simp only [hji12] at H ⊢; exact H)
            have hji12_ : (a2 / 2 ^ min x8_1.toNat 32) = ji12 := hji12
            have hji12z : x8_1 ≤ 32 → (a2 / 2 ^ x8_1.toNat) = ji12 := shr_small hji12
            by_cases c13 : (Int.tmod (ji12) 2) = 1
            · rw [if_pos c13] at H
              have c13b0 : ((Int.tmod (ji12) 2) == 1) = true := beq_iff_eq.mpr c13
              have c13b1 : ((Int.tmod (ji12) 2) != 1) = false := bne_eq_false_iff_eq.mpr c13
              clear c13
              obtain ⟨ji14, hji14⟩ : ∃ j_ : Int, (wrap64 (Int.tdiv (wrap64 (a1 + x8_1)) 8)) = j_ := ⟨_, rfl⟩
              replace H : (if 0 ≤ (ji14) then ((some (([1, 2, 4, 8, 16, 32, 64, 128] : List Int) : List Int)).bind fun y144 => (if 0 ≤ (Int.tmod (wrap64 (a1 + x8_1)) 8) then (if (Int.tmod (wrap64 (a1 + x8_1)) 8) < (y144.length : Int) then (hoodwinkref02_Turned.l0 k1 a1 a2 (x7_1.set ((ji14) : Int).toNat (Go.bits .xor .u8 (rd x7_1 (ji14)) (rd y144 (Int.tmod (wrap64 (a1 + x8_1)) 8)))) (wrap64 (x8_1 + 1))) else (none)) else (none))) else (none)) = some r := by first | (rw [hji14] at H; exact H) | (simp only [hji14] at H ⊢; exact H)
              (try rw [hji14] at c10b0)
              have hji14w : (IntKind.i64.wrap (Int.tdiv (wrap64 (a1 + x8_1)) 8)) = ji14 := (i64_w _).trans hji14
              by_cases c15 : 0 ≤ (ji14)
              · rw [if_pos c15] at H
                have c15b0 : decide (0 ≤ (ji14)) = true := decide_eq_true c15
                clear c15
                obtain ⟨y144, hy144⟩ : ∃ y_ : List Int, y_ = (([1, 2, 4, 8, 16, 32, 64, 128] : List Int)) := ⟨_, rfl⟩
                replace H : (if 0 ≤ (Int.tmod (wrap64 (a1 + x8_1)) 8) then (if (Int.tmod (wrap64 (a1 + x8_1)) 8) < (y144.length : Int) then (hoodwinkref02_Turned.l0 k1 a1 a2 (x7_1.set ((ji14) : Int).toNat (Go.bits .xor .u8 (rd x7_1 (ji14)) (rd y144 (Int.tmod (wrap64 (a1 + x8_1)) 8)))) (wrap64 (x8_1 + 1))) else (none)) else (none)) = some r := by first | (rw [hy144]; with_reducible exact H) | (have H2_ := (Option.bind_some _ _).symm.trans H; rw [hy144]; with_reducible exact H2_) | (have H2_ := (Option.bind_some _ _).symm.trans H; with_reducible exact H2_) | with_reducible exact H | (rw [hy144]; exact H) | exact H
                have Ny144 := Aside0.mk hy144
                clear hy144
                obtain ⟨ji16, hji16⟩ : ∃ j_ : Int, (Int.tmod (wrap64 (a1 + x8_1)) 8) = j_ := ⟨_, rfl⟩
                replace H : (if 0 ≤ (ji16) then (if (ji16) < (y144.length : Int) then (hoodwinkref02_Turned.l0 k1 a1 a2 (x7_1.set ((ji14) : Int).toNat (Go.bits .xor .u8 (rd x7_1 (ji14)) (rd y144 (ji16)))) (wrap64 (x8_1 + 1))) else (none)) else (none)) = some r := by first | (rw [hji16] at H; exact H) | (simp only [hji16] at H ⊢; exact H)
                by_cases c17 : 0 ≤ (ji16)
                · rw [if_pos c17] at H
                  have c17b0 : decide (0 ≤ (ji16)) = true := decide_eq_true c17
                  clear c17
                  by_cases c18 : (ji16) < (y144.length : Int)
                  · rw [if_pos c18] at H
                    have c18b0 : decide ((ji16) < (y144.length : Int)) = true := decide_eq_true c18
                    clear c18
                    obtain ⟨y148, hy148⟩ : ∃ y_ : List Int, y_ = (x7_1.set ((ji14) : Int).toNat (Go.bits .xor .u8 (rd x7_1 (ji14)) (rd y144 (ji16)))) := ⟨_, rfl⟩
                    replace H : (hoodwinkref02_Turned.l0 k1 a1 a2 y148 (wrap64 (x8_1 + 1))) = some r := by first | (rw [hy148]; with_reducible exact H) | (have H2_ := (Option.bind_some _ _).symm.trans H; rw [hy148]; with_reducible exact H2_) | (have H2_ := (Option.bind_some _ _).symm.trans H; with_reducible exact H2_) | with_reducible exact H | (rw [hy148]; exact H) | exact H
                    have Ny148 := Aside0.mk hy148
                    clear hy148
                    have H' := Aside0.mk H
                    clear H
                    obtain ⟨Ao20, co20, eo20⟩ := Kd.R_slice HO_7.out
                    subst eo20
                    try go_wp2
                    have pi147 : (0 ≤ ((ji16) : Int)) = True := eq_true (of_decide_eq_true (by first | (with_reducible assumption) | assumption))
                    have qi147 : ((ji16) < (y144.length : Int)) = True := eq_true (of_decide_eq_true (by first | (with_reducible assumption) | assumption))
                    have n0_ := Aside0.mk (Kd.R_drew HO_7.out)
                    have n1_ := Aside0.mk (below_drew1 HB.out)
                    clear HO_7
                    clear HB
                    have HO_7 := n0_
                    have HB := n1_
                    clear n0_ n1_
                    have p143 : 0 ≤ ((ji14) : Int) := of_decide_eq_true (by first | (with_reducible assumption) | assumption)
                    have q143 : (ji14) < (x7_1.length : Int) := of_decide_eq_true (by first | (with_reducible assumption) | assumption)
                    obtain ⟨ad143, e143, hx143_0⟩ := Kd.at_int (Kd.R_reads' HO_7.out).2.2 (ji14) p143 q143
                    cases e143
                    replace p143 := eq_true p143
                    replace q143 := eq_true q143
                    refine start_ (n := 13) (S := fun w' => w'.cell? (ad143.add ((ji14)).toNat) = some (.int .u8 (rd x7_1 (ji14)))) (ds := [12]) #[false, false, false, false, false, false, false, false, false, false, false, false, false] (by kernel_rfl) rfl rfl (hx143_0) (fun hHeld => ?_); refine with_tabW hoodwinkref02_Turned.tab7 hoodwinkref02_Turned.bits7 (fun HT_ HW_ => ?_)
                    generalize wr.drew = w21 at HO_7 HB hx143_0 hHeld ⊢
                    refine pure_ (i := 0) (N := some 32) (v := ?_) (a' := ?_) #[true, false, false, false, false, false, false, false, false, false, false, false, false] rfl rfl (any_of HT_.out (by kernel_rfl)) (fun _ _ _ h => h) (Or.inl ⟨by rfl, ?_⟩) ?_ ?_
                    rotate_left
                    · intro w'
                      go_simp
                      with_reducible rfl
                    rotate_left
                    · simp only [Act.put, List.setIfInBounds_toArray, List.set_cons_zero, List.set_cons_succ, i64_w, i32_w]
                      rfl
                    refine pure_ (i := 1) (N := some 33) (v := ?_) (a' := ?_) #[true, true, false, false, false, false, false, false, false, false, false, false, false] rfl rfl (any_of HT_.out (by kernel_rfl)) (fun _ _ _ h => h) (Or.inl ⟨by rfl, ?_⟩) ?_ ?_
                    rotate_left
                    · intro w'
                      go_simp
                      with_reducible rfl
                    rotate_left
                    · simp only [Act.put, List.setIfInBounds_toArray, List.set_cons_zero, List.set_cons_succ, i64_w, i32_w]
                      rfl
                    refine pure_ (i := 2) (N := some 34) (v := ?_) (a' := ?_) #[true, true, true, false, false, false, false, false, false, false, false, false, false] rfl rfl (any_of HT_.out (by kernel_rfl)) (fun _ _ _ h => h) (Or.inl ⟨by rfl, ?_⟩) ?_ ?_
                    rotate_left
                    · intro w'
                      go_simp
                      with_reducible rfl
                    rotate_left
                    · simp only [Act.put, List.setIfInBounds_toArray, List.set_cons_zero, List.set_cons_succ, i64_w, i32_w]
                      rfl
                    refine pure_ (i := 3) (N := some 35) (v := ?_) (a' := ?_) #[true, true, true, true, false, false, false, false, false, false, false, false, false] rfl rfl (any_of HT_.out (by kernel_rfl)) (fun _ _ _ h => h) (Or.inl ⟨by rfl, ?_⟩) ?_ ?_
                    rotate_left
                    · intro w'
                      go_simp
                      with_reducible rfl
                    rotate_left
                    · simp only [Act.put, List.setIfInBounds_toArray, List.set_cons_zero, List.set_cons_succ, i64_w, i32_w]
                      rfl
                    refine pure_ (i := 6) (N := some 38) (v := ?_) (a' := ?_) #[true, true, true, true, false, false, true, false, false, false, false, false, false] rfl rfl (any_of HT_.out (by kernel_rfl)) (fun _ _ _ h => h) (Or.inl ⟨by rfl, ?_⟩) ?_ ?_
                    rotate_left
                    · intro w'
                      go_simp
                      with_reducible rfl
                    rotate_left
                    · simp only [Act.put, List.setIfInBounds_toArray, List.set_cons_zero, List.set_cons_succ, i64_w, i32_w]
                      rfl
                    refine pure_ (i := 7) (N := some 39) (v := ?_) (a' := ?_) #[true, true, true, true, false, false, true, true, false, false, false, false, false] rfl rfl (any_of HT_.out (by kernel_rfl)) (fun _ _ _ h => h) (Or.inl ⟨by rfl, ?_⟩) ?_ ?_
                    rotate_left
                    · intro w'
                      go_simp
                      with_reducible rfl
                    rotate_left
                    · simp only [Act.put, List.setIfInBounds_toArray, List.set_cons_zero, List.set_cons_succ, i64_w, i32_w]
                      rfl
                    refine take_ (i := 4) (N := some 36) (v := ?_) (a' := ?_) #[true, true, true, true, true, false, true, true, false, false, false, false, false] rfl rfl (take_ofW HT_.out HW_.out (by kernel_rfl)) (fun _ _ _ h => h) (Or.inl ⟨by rfl, ?_⟩) hHeld ?_ ?_
                    rotate_left
                    · intro w' s0
                      go_simp
                      with_reducible rfl
                    rotate_left
                    · simp only [Act.put, List.setIfInBounds_toArray, List.set_cons_zero, List.set_cons_succ, i64_w, i32_w]
                      rfl
                    refine one_ (i := 5) (N := some 37) #[true, true, true, true, true, true, true, true, false, false, false, false, false] rfl rfl (one_of HT_.out (by kernel_rfl)) (by decide) (fun K hK => ?_)
                    refine Kd.R_lit_step (Kd.int .u8) _ 5 ?hg (N := 37) ?hd (xs := ([1, 2, 4, 8, 16, 32, 64, 128] : List Int)) (inner := [.int .u8 1, .int .u8 2, .int .u8 4, .int .u8 8, .int .u8 16, .int .u8 32, .int .u8 64, .int .u8 128]) (ok := fun _ => True) (okp := fun _ => True) ?hr ?hp (fun _ hk => hk) trivial (Below.refl _ _) (Nat.le_refl _) (by simp) ?_; (case hd => rfl); (case hg => rfl); (case hr => first | (go_simp; done) | (go_simp; rfl)); (case hp => exact (Reps.one (show Kd.M (Kd.int .u8) _ _ _ 1 [.int .u8 1] from rfl) (Reps.one (show Kd.M (Kd.int .u8) _ _ _ 2 [.int .u8 2] from rfl) (Reps.one (show Kd.M (Kd.int .u8) _ _ _ 4 [.int .u8 4] from rfl) (Reps.one (show Kd.M (Kd.int .u8) _ _ _ 8 [.int .u8 8] from rfl) (Reps.one (show Kd.M (Kd.int .u8) _ _ _ 16 [.int .u8 16] from rfl) (Reps.one (show Kd.M (Kd.int .u8) _ _ _ 32 [.int .u8 32] from rfl) (Reps.one (show Kd.M (Kd.int .u8) _ _ _ 64 [.int .u8 64] from rfl) (Reps.one (show Kd.M (Kd.int .u8) _ _ _ 128 [.int .u8 128] from rfl) (Reps.none _ _))))))))))
                    intro v145 w22 ho23 hb hg_ hnew_
                    have HS0_ := (hb.cell (World.block_lt_of_cell? _ _ (hHeld))).trans (hHeld)
                    clear hg_ hnew_
                    (first | rw [← Ny144.out] at ho23 | (simp only [Int.reduceToNat] at ho23; rw [← Ny144.out] at ho23))
                    have n0_ := Aside0.mk (Kd.R_elder' (by (with_reducible repeat (first | apply Kd.R_alloc | apply Kd.R_drewN | apply Kd.R_drew)); exact HO_7.out) (Kd.R_base ho23) hb)
                    have n1_ := Aside0.mk (Kd.R_lower (Kd.R_new' (Kd.R_newM (M := fun k_ => (w.heap.size ≤ k_)) ho23 (below_size (by repeat (first | (with_reducible first | exact HB.out | apply below_alloc | apply pw_below_drewN | apply below_drew1) | exact HB.out))) (fun k_ h_ => h_)) (Kd.R_lt (by (with_reducible repeat (first | apply Kd.R_alloc | apply Kd.R_drewN | apply Kd.R_drew)); exact HO_7.out))) (below_size (by repeat (first | (with_reducible first | exact HB.out | apply below_alloc | apply pw_below_drewN | apply below_drew1) | exact HB.out))))
                    have n2_ := Aside0.mk (below_step (by repeat (first | (with_reducible first | exact HB.out | apply below_alloc | apply pw_below_drewN | apply below_drew1) | exact HB.out)) hb)
                    clear HO_7
                    clear HB
                    have HO_7 := n0_
                    have HO146 := n1_
                    have HB := n2_
                    clear n0_ n1_ n2_
                    clear hb ho23
                    obtain ⟨Ao24, co24, eo24⟩ := Kd.R_slice HO146.out
                    subst eo24
                    obtain ⟨ado24, fo24, _⟩ := Kd.at_int (Kd.R_reads' HO146.out).2.2 0 (by decide) (by rw [Ny144.out]; simp)
                    cases fo24
                    have p19 : 0 ≤ ((ji14) : Int) := of_decide_eq_true (by first | (with_reducible assumption) | assumption)
                    have q19 : ((ji14) : Int) < ((x7_1.length : Int) : Int) := of_decide_eq_true (by first | (with_reducible assumption) | assumption)
                    obtain ⟨go19, co19, eo19, gb19, gl19, cl19, HG19⟩ := Kd.R_form HO_7.out (by omega)
                    (first | cases eo19 | (injection eo19 with ea_ en_ ec_; (first | subst ea_ | (injection ea_ with ea_; subst ea_)); subst ec_; clear en_))
                    have GB19 := Aside0.mk gb19
                    have GG19 := Aside0.mk HG19
                    clear gb19 gl19 HG19
                    (first | simp only [add_plain] at hx143_0 | skip)
                    obtain ⟨hx19_0, hf19_0⟩ := Kd.R_celln 0 HO_7.out ((ji14) : Int) p19 q19
                    replace p19 := eq_true p19
                    replace q19 := eq_true q19
                    have HP25 := Kd.R_putn HO_7.out ((ji14) : Int) (Go.bits .xor .u8 (rd x7_1 (ji14)) (rd y144 (ji16)))
                    rw [← Ny148.out] at HP25
                    have HQ25 := Aside0.mk HP25
                    clear HP25
                    refine hK.out _ _ (HS0_) (fun hHeld => ?_)
                    clear hK K
                    refine norm_ (a' := ?_) ?_ ?_
                    rotate_left
                    · show Act.put _ (some 37) _ = _
                      simp only [Act.put, List.setIfInBounds_toArray, List.set_cons_zero, List.set_cons_succ, i64_w, i32_w]
                      rfl
                    refine pure_ (i := 8) (N := some 40) (v := ?_) (a' := ?_) #[true, true, true, true, true, true, true, true, true, false, false, false, false] rfl rfl (any_of HT_.out (by kernel_rfl)) (fun _ _ _ h => h) (Or.inl ⟨by rfl, ?_⟩) ?_ ?_
                    rotate_left
                    · intro w'
                      go_simp
                      with_reducible rfl
                    rotate_left
                    · simp only [Act.put, List.setIfInBounds_toArray, List.set_cons_zero, List.set_cons_succ, i64_w, i32_w]
                      rfl
                    refine one_ (i := 9) (N := some 41) #[true, true, true, true, true, true, true, true, true, true, false, false, false] rfl rfl (one_of HT_.out (by kernel_rfl)) (by decide) (fun K hK => ?_)
                    (have p147 : 0 ≤ ((ji16) : Int) := of_decide_eq_true (by first | (with_reducible assumption) | assumption); have q147 : (ji16) < (y144.length : Int) := of_decide_eq_true (by first | (with_reducible assumption) | assumption); obtain ⟨ad147, e147, hx147_0⟩ := Kd.at_int (Kd.R_reads' HO146.out).2.2 (ji16) p147 q147; obtain rfl : ado24 = ad147 := (by injection e147))
                    refine value_ (w1 := ?_) (v := ?_) (by rfl) rfl ?_ ?_
                    rotate_left 2
                    · go_simp
                      constructor
                      · rfl
                      · rfl
                    clear hx147_0
                    refine hK.out _ _ (hHeld) (fun hHeld => ?_)
                    clear hK K
                    refine norm_ (a' := ?_) ?_ ?_
                    rotate_left
                    · show Act.put _ (some 41) _ = _
                      simp only [Act.put, List.setIfInBounds_toArray, List.set_cons_zero, List.set_cons_succ, i64_w, i32_w]
                      rfl
                    refine pure_ (i := 10) (N := some 42) (v := ?_) (a' := ?_) #[true, true, true, true, true, true, true, true, true, true, true, false, false] rfl rfl (any_of HT_.out (by kernel_rfl)) (fun _ _ _ h => h) (Or.inl ⟨by rfl, ?_⟩) ?_ ?_
                    rotate_left
                    · intro w'
                      go_simp
                      with_reducible rfl
                    rotate_left
                    · simp only [Act.put, List.setIfInBounds_toArray, List.set_cons_zero, List.set_cons_succ, i64_w, i32_w]
                      rfl
                    refine pure_ (i := 11) (N := some 43) (v := ?_) (a' := ?_) #[true, true, true, true, true, true, true, true, true, true, true, true, false] rfl rfl (any_of HT_.out (by kernel_rfl)) (fun _ _ _ h => h) (Or.inl ⟨by rfl, ?_⟩) ?_ ?_
                    rotate_left
                    · intro w'
                      go_simp
                      with_reducible rfl
                    rotate_left
                    · simp only [Act.put, List.setIfInBounds_toArray, List.set_cons_zero, List.set_cons_succ, i64_w, i32_w]
                      rfl
                    refine last_ (i := 12) (N := none) #[true, true, true, true, true, true, true, true, true, true, true, true, true] rfl rfl (one_of HT_.out (by kernel_rfl)) (by decide) (fun K hK => ?_)
                    refine skip_ (w1 := ?_) (by rfl) rfl ?_ ?_
                    rotate_left
                    · go_simp
                      rfl
                    refine hK.out _ _ ?_
                    clear hK K
                    refine done_ (done_of HT_.out (by kernel_rfl)) ?_
                    try go_wp2
                    go_roundg k1
                    case measure => have := HK1.out; omega
                    case rel => exact ⟨(y148), (wrap64 (x8_1 + 1)), (by first | rfl | (simp; done) | (simp [*]; done)), H', ⟨by have := HK1.out; omega⟩, ⟨by (with_reducible repeat (first | apply Kd.R_alloc | apply Kd.R_drewN | apply Kd.R_drew)); exact Kd.R_mono HQ25.out (fun _ hk => hk.1)⟩, ⟨by repeat (first | (with_reducible first | exact HB.out | apply below_alloc | apply pw_below_drewN | apply below_drew1 | refine below_set ?_ GB19.out) | exact HB.out)⟩⟩
                  · rw [if_neg c18] at H
                    exact absurd H (by simp)
                · rw [if_neg c17] at H
                  exact absurd H (by simp)
              · rw [if_neg c15] at H
                exact absurd H (by simp)
            · rw [if_neg c13] at H
              have c13b0 : ((Int.tmod (ji12) 2) == 1) = false := beq_eq_false_iff_ne.mpr c13
              have c13b1 : ((Int.tmod (ji12) 2) != 1) = true := bne_iff_ne.mpr c13
              have H' := Aside0.mk H
              clear H
              obtain ⟨Ao26, co26, eo26⟩ := Kd.R_slice HO_7.out
              subst eo26
              go_wp2
              go_roundg k1
              case measure => have := HK1.out; omega
              case rel => exact ⟨(x7_1), (wrap64 (x8_1 + 1)), (by first | rfl | (simp; done) | (simp [*]; done)), H', ⟨by have := HK1.out; omega⟩, ⟨by (with_reducible repeat (first | apply Kd.R_alloc | apply Kd.R_drewN | apply Kd.R_drew)); exact HO_7.out⟩, ⟨by repeat (first | (with_reducible first | exact HB.out | apply below_alloc | apply pw_below_drewN | apply below_drew1) | exact HB.out)⟩⟩
          · rw [if_neg c11] at H
            exact absurd H (by simp)
        · rw [if_neg c10] at H
          have c10b0 : decide ((wrap64 (Int.tdiv (wrap64 (a1 + x8_1)) 8)) < (x7_1.length : Int)) = false := decide_eq_false c10
          clear c10
          have H' := Aside0.mk H
          clear H
          obtain ⟨Ao27, co27, eo27⟩ := Kd.R_slice HO_7.out
          subst eo27
          go_wp2
          go_roundg k1
          case measure => have := HK1.out; omega
          case rel => exact ⟨(x7_1), (wrap64 (x8_1 + 1)), (by first | rfl | (simp; done) | (simp [*]; done)), H', ⟨by have := HK1.out; omega⟩, ⟨by (with_reducible repeat (first | apply Kd.R_alloc | apply Kd.R_drewN | apply Kd.R_drew)); exact HO_7.out⟩, ⟨by repeat (first | (with_reducible first | exact HB.out | apply below_alloc | apply pw_below_drewN | apply below_drew1) | exact HB.out)⟩⟩
      · rw [if_neg c9] at H
        have c9b0 : decide (x8_1 < 32) = false := decide_eq_false c9
        clear c9
        obtain rfl := Option.some.inj H
        go_wp2
        go_ret
        exact ⟨_, by first | rfl | (simp [errW_none, errW_some] <;> rfl) | (simp [*, errW_none, errW_some] <;> rfl), by (with_reducible repeat (first | apply Kd.R_alloc | apply Kd.R_drewN | apply Kd.R_drew)); exact HO_7.out, by repeat (first | (with_reducible first | exact HB.out | apply below_alloc | apply pw_below_drewN | apply below_drew1) | exact HB.out)⟩

end Go.Proofs.Yticpjidcgaaldaa

namespace Go.Proofs.Yticpjidcgaaldaa
open Go.RowKit Go.Proofs.YticpjidcgaaldaaW.PrintWords Go.Proofs.YticpjidcgaaldaaW.PrintLast Go.Proofs.YticpjidcgaaldaaW.PrintMore
set_option linter.unusedVariables false
set_option linter.unusedSimpArgs false

/-! ### Bytes as one number, and the register over it -/
theorem val_tail {l : List Int} (hb : Bytes l) (hl : l.length = 4) {m : Nat} (h : m < 4294967296) : valN l = m ↔ l = tailL m := by
  match l, hl with
  | [a, b, c, d], _ =>
    have ha := hb a (by simp)
    have hb' := hb b (by simp)
    have hc := hb c (by simp)
    have hd := hb d (by simp)
    simp only [valN, tailL, List.cons.injEq, and_true]
    omega
/-- It is sealed just if the register behind it is the one. -/
theorem sealed_reg {l : List Int} (hb : Bytes l) {n : Nat} (hl : l.length = n + 4) : l.drop n = tailL (sumN tab (l.take n)) ↔ steps 4294967295 l = bits8 32 4294967295 := by
  have e : l = l.take n ++ l.drop n := (List.take_append_drop n l).symm
  have hd : (l.drop n).length = 4 := by rw [List.length_drop]; omega
  have hs := steps_lt (hb.take n) (by omega : (4294967295 : Nat) < 4294967296)
  have hm := sumN_lt (l := l.take n)
  have hv := valN_lt (hb.drop n)
  rw [hd] at hv
  have h1 : steps 4294967295 l = bits8 32 (steps 4294967295 (l.take n) ^^^ valN (l.drop n)) := by
    have h2 : steps 4294967295 l = steps (steps 4294967295 (l.take n)) (l.drop n) := by rw [← steps_append, List.take_append_drop]
    rw [h2, steps_val (hb.drop n), hd]
  rw [h1, ← val_tail (hb.drop n) hd hm]
  have h3 : sumN tab (l.take n) = 4294967295 - steps 4294967295 (l.take n) := by unfold sumN; rw [tsum_steps (hb.take n)]
  rw [h3]
  generalize steps 4294967295 (l.take n) = s at *
  generalize valN (l.drop n) = v at *
  have hx : s ^^^ (4294967295 - s) = 4294967295 := by
    have h4 := u32_flip hs
    have h5 : bits .xor .u32 IntKind.u32.max (s : Int) = ((4294967295 ^^^ s : Nat) : Int) := u32_xor_nat 4294967295 s (by omega) hs
    rw [h5] at h4
    have h6 : 4294967295 ^^^ s = 4294967295 - s := by omega
    rw [← h6, Nat.xor_comm s, Nat.xor_assoc, Nat.xor_self, Nat.xor_zero]
  constructor
  · intro h; rw [h, hx]
  · intro h
    have h7 : bits8 32 ((s ^^^ v) ^^^ 4294967295) = 0 := by rw [bits8_xor, h, Nat.xor_self]
    have h8 := eq_of_xor (bits8_zero 32 (Nat.xor_lt_two_pow (n := 32) (Nat.xor_lt_two_pow (n := 32) (by omega) (by omega)) (by omega)) h7)
    have h9 : s ^^^ (s ^^^ v) = s ^^^ 4294967295 := by rw [h8]
    rw [← Nat.xor_assoc, Nat.xor_self, Nat.zero_xor] at h9
    have h10 : s ^^^ (s ^^^ (4294967295 - s)) = s ^^^ 4294967295 := by rw [hx]
    rw [← Nat.xor_assoc, Nat.xor_self, Nat.zero_xor] at h10
    rw [h9, h10]
/-- A burst of 32 bits is shown. -/
theorem burst_shown {q r : List Int} (hq : Bytes q) (hr : Bytes r) {n at_ M : Nat} (hlq : q.length = n + 4) (hlr : r.length = n + 4) (hat : at_ < 8 * (n + 4)) (hM : M < 4294967296) (hv : valN r = valN q ^^^ M * 2 ^ at_)
    (hs : q.drop n = tailL (sumN tab (q.take n))) : decide (r.drop n = tailL (sumN tab (r.take n))) = decide (q = r) := by
  refine decide_eq_decide.2 ⟨fun h => ?_, fun h => by rw [← h]; exact hs⟩
  have h1 := (sealed_reg hq hlq).1 hs
  have h2 := (sealed_reg hr hlr).1 h
  rw [steps_val hq, hlq] at h1
  rw [steps_val hr, hlr, hv, ← Nat.xor_assoc, bits8_xor, h1] at h2
  have h3 : bits8 (8 * (n + 4)) (M * 2 ^ at_) = 0 := by
    have : bits8 32 4294967295 ^^^ (bits8 32 4294967295 ^^^ bits8 (8 * (n + 4)) (M * 2 ^ at_)) = bits8 32 4294967295 ^^^ bits8 32 4294967295 := by rw [h2]
    rw [← Nat.xor_assoc, Nat.xor_self, Nat.zero_xor] at this
    exact this
  rw [show 8 * (n + 4) = (8 * (n + 4) - at_) + at_ by omega, bits8_add, bits8_shift] at h3
  have h4 := bits8_zero _ hM h3
  rw [h4, Nat.zero_mul, Nat.xor_zero] at hv
  exact valN_inj hq hr (by omega) hv.symm

/-! ### Turned -/
theorem valN_set : ∀ {l : List Int} {j : Nat} (hb : Bytes l) (hj : j < l.length) {y : Nat} (hy : y < 256), valN (l.set j (((l[j]).toNat ^^^ y : Nat) : Int)) = valN l ^^^ y * 2 ^ (8 * j)
  | a :: l, 0, hb, _, y, hy => by
    have h := hb a List.mem_cons_self
    show ((((a.toNat ^^^ y : Nat) : Int)).toNat + 256 * valN l) = (a.toNat + 256 * valN l) ^^^ y * 2 ^ 0
    have hx : a.toNat ^^^ y < 256 := Nat.xor_lt_two_pow (n := 8) (by omega) hy
    rw [Int.toNat_natCast, mul_xor_add _ _ hx, mul_xor_add _ _ (by omega), Nat.pow_zero, Nat.mul_one]
    rw [Nat.xor_assoc, Nat.xor_comm y, ← Nat.xor_assoc]
  | a :: l, j + 1, hb, hj, y, hy => by
    have h := hb a List.mem_cons_self
    have hjl : j < l.length := by simpa using hj
    have ih := valN_set (l := l) (j := j) (fun x hx => hb x (List.mem_cons_of_mem _ hx)) hjl hy
    show a.toNat + 256 * valN (l.set j (((l[j]).toNat ^^^ y : Nat) : Int)) = (a.toNat + 256 * valN l) ^^^ y * 2 ^ (8 * (j + 1))
    rw [ih, mul_xor_add _ _ (by omega), mul_xor_add _ _ (by omega)]
    have e : (valN l ^^^ y * 2 ^ (8 * j)) * 2 ^ 8 = valN l * 2 ^ 8 ^^^ y * 2 ^ (8 * (j + 1)) := by
      rw [← Nat.shiftLeft_eq, Nat.shiftLeft_xor_distrib, Nat.shiftLeft_eq, Nat.shiftLeft_eq, Nat.mul_assoc, ← Nat.pow_add]; congr 2
    rw [e, Nat.xor_assoc]
theorem xor_shift (a b k : Nat) : (a ^^^ b) * 2 ^ k = a * 2 ^ k ^^^ b * 2 ^ k := by
  rw [← Nat.shiftLeft_eq, Nat.shiftLeft_xor_distrib, Nat.shiftLeft_eq, Nat.shiftLeft_eq]
theorem bit_at {r : Nat} (h : r < 8) : ([1, 2, 4, 8, 16, 32, 64, 128] : List Int)[r]'h = ((2 ^ r : Nat) : Int) := by
  match r, h with
  | 0, _ => rfl
  | 1, _ => rfl
  | 2, _ => rfl
  | 3, _ => rfl
  | 4, _ => rfl
  | 5, _ => rfl
  | 6, _ => rfl
  | 7, _ => rfl
theorem tdiv8 (x : Nat) (h : x < 100000) : wrap64 (Int.tdiv (x : Int) 8) = ((x / 8 : Nat) : Int) := by
  rw [Int.tdiv_eq_ediv_of_nonneg (by omega), w64 (by omega)]; rfl
theorem tmod8 (x : Nat) : Int.tmod (x : Int) 8 = ((x % 8 : Nat) : Int) := by
  rw [Int.tmod_eq_emod_of_nonneg (by omega)]; rfl
theorem pow_lt8 (x : Nat) : 2 ^ (x % 8) < 256 := by
  have := Nat.pow_lt_pow_right (a := 2) (by omega) (Nat.mod_lt x (by omega : 0 < 8))
  omega
theorem mask_lt {M i : Nat} (h : M < 2 ^ i) : M < 2 ^ (i + 1) ∧ M ^^^ 2 ^ i < 2 ^ (i + 1) := by
  have hp : 2 ^ i < 2 ^ (i + 1) := Nat.pow_lt_pow_right (by omega) (by omega)
  exact ⟨Nat.lt_trans h hp, Nat.xor_lt_two_pow (Nat.lt_trans h hp) hp⟩
theorem pow_split (a i : Nat) : 2 ^ ((a + i) % 8) * 2 ^ (8 * ((a + i) / 8)) = 2 ^ i * 2 ^ a := by
  rw [← Nat.pow_add, ← Nat.pow_add]
  congr 1
  omega
theorem turned_l0 (q : List Int) (hb : Bytes q) (hl : q.length ≤ 1000) (a m : Nat) (ha : a < 10000) (d : Nat) : ∀ (k i : Nat) (out : List Int) (M : Nat), i + d = 32 → d < k → Bytes out → out.length = q.length → M < 2 ^ i → valN out = valN q ^^^ M * 2 ^ a →
    ∃ out' M', hoodwinkref02_Turned.l0 k (a : Int) (m : Int) out (i : Int) = some out' ∧ Bytes out' ∧ out'.length = q.length ∧ M' < 2 ^ 32 ∧ valN out' = valN q ^^^ M' * 2 ^ a := by
  induction d with
  | zero =>
    intro k i out M hi hk ho hlo hM hv
    obtain ⟨k, rfl⟩ : ∃ q, k = q + 1 := ⟨k - 1, by omega⟩
    have hi32 : i = 32 := by omega
    refine ⟨out, M, ?_, ho, hlo, by rw [← hi32]; exact hM, hv⟩
    simp only [hoodwinkref02_Turned.l0]
    rw [if_neg (by omega)]
  | succ d ih =>
    intro k i out M hi hk ho hlo hM hv
    obtain ⟨k, rfl⟩ : ∃ q, k = q + 1 := ⟨k - 1, by omega⟩
    have HV := Lib.hid hv
    have HM := Lib.hid hM
    clear hv hM
    have h1 : wrap64 ((a : Int) + (i : Int)) = ((a + i : Nat) : Int) := w64 (by omega)
    have h2 := tdiv8 (a + i) (by omega)
    have h3 := tmod8 (a + i)
    simp only [hoodwinkref02_Turned.l0]
    rw [if_pos (by omega), h1, h2, h3, next64 (by omega)]
    by_cases hj : (a + i) / 8 < out.length
    · rw [if_pos (by omega), if_pos (by omega)]
      by_cases hbit : Int.tmod (shr .u32 (m : Int) (i : Int)) 2 = 1
      · rw [if_pos hbit, if_pos (by omega)]
        simp only [Option.bind_some]
        rw [if_pos (by omega), if_pos (by show _ < ((8 : Nat) : Int); omega), Int.toNat_natCast, rd_getElem hj, rd_getElem (show (a + i) % 8 < ([1, 2, 4, 8, 16, 32, 64, 128] : List Int).length from Nat.mod_lt _ (by omega)), bit_at (Nat.mod_lt _ (by omega))]
        obtain ⟨b, hbe, hbl⟩ := ho.nat hj
        have hy := pow_lt8 (a + i)
        have hset := valN_set ho hj hy
        rw [hbe] at hset ⊢
        rw [Int.toNat_natCast] at hset
        have hx : bits .xor .u8 (b : Int) ((2 ^ ((a + i) % 8) : Nat) : Int) = ((b ^^^ 2 ^ ((a + i) % 8) : Nat) : Int) := u8_xor_nat b _ hbl hy
        rw [hx]
        have hxl : b ^^^ 2 ^ ((a + i) % 8) < 256 := Nat.xor_lt_two_pow (n := 8) (by omega) hy
        have hB : Bytes (out.set ((a + i) / 8) ((b ^^^ 2 ^ ((a + i) % 8) : Nat) : Int)) := by
          intro y hy'
          rcases List.mem_or_eq_of_mem_set hy' with h | h
          · exact ho y h
          · rw [h]; clear hset hbe hy'; omega
        have hval : valN (out.set ((a + i) / 8) ((b ^^^ 2 ^ ((a + i) % 8) : Nat) : Int)) = valN q ^^^ (M ^^^ 2 ^ i) * 2 ^ a := by
          rw [hset, HV.out, xor_shift, Nat.xor_assoc, pow_split]
        exact ih k (i + 1) _ (M ^^^ 2 ^ i) (by clear hset hval; omega) (by clear hset hval; omega) hB (by rw [List.length_set]; exact hlo) (mask_lt HM.out).2 hval
      · rw [if_neg hbit]
        exact ih k (i + 1) out M (by omega) (by omega) ho hlo (mask_lt HM.out).1 HV.out
    · rw [if_neg (by omega)]
      exact ih k (i + 1) out M (by omega) (by omega) ho hlo (mask_lt HM.out).1 HV.out
theorem turned_any (A : Option Addr) (n c : Nat) (q : List Int) (a m : Nat) (w : World) (hr : (Kd.int .u8).C w A n q) (hc : n ≤ c) (hb : Bytes q) (hl : n ≤ 1000) (ha : a < 10000) :
    Calls Try.prog 28 #[.slice A n c, .int .i64 a, .int .u32 m] w fun e w' => ∃ v out M, e = .returned v ∧ (Kd.int .u8).R 5 w' w.heap.size (fun _ => True) v out ∧ Below w.heap.size w w' ∧ Bytes out ∧ out.length = n ∧ M < 4294967296 ∧ valN out = valN q ^^^ M * 2 ^ a := by
  obtain rfl := hr.1
  obtain ⟨out, M, h1, h2, h3, h4, h5⟩ := turned_l0 q hb hl a m ha 32 40 0 q 0 (by omega) (by omega) hb rfl (by decide) (by rw [Nat.zero_mul, Nat.xor_zero])
  have e0 : ((0 : Nat) : Int) = 0 := rfl
  rw [e0] at h1
  have hj := join_f [q] (by simp; omega) (by simp)
  have hj2 : hoodwinkref01_Join.f 40 [q] = some q := by
    have := at_rounds (g := fun k => hoodwinkref01_Join.f k [q]) (fun k => hoodwinkref01_Join.mono _ k) (k := [q].length + 1) (k' := 40) (by simp) hj
    simpa using this
  refine (hoodwinkref02_Turned.calls 40 _ A c q a m out w (Kd.V_mk hc (Kd.C_F (Kd.heap_int .u8) hr)) (by unfold hoodwinkref02_Turned.f; rw [hj2, Option.bind_some]; exact h1)).mono ?_
  rintro e w' ⟨v, rfl, ho, hb'⟩
  exact ⟨v, out, M, rfl, Kd.R_mono ho (fun _ _ => trivial), hb', h2, h3, h4, h5⟩
end Go.Proofs.Yticpjidcgaaldaa

namespace Go.Proofs.Yticpjidcgaaldaa
open Go.RowKit Go.Proofs.YticpjidcgaaldaaW.PrintWords Go.Proofs.YticpjidcgaaldaaW.PrintLast Go.Proofs.YticpjidcgaaldaaW.PrintMore
set_option linter.unusedVariables false
set_option linter.unusedSimpArgs false

theorem right_or {sq : Int} {n : Nat} {fi la al : Bool} (h : rightF sq n fi la al = false) (hn : n ≤ 64) : al = true := by
  unfold rightF at h
  cases al with
  | true => rfl
  | false => simp at h; omega
/-- What is read of a right frame's bytes of which some bits are turned. -/
theorem shown_err {fb out : List Int} {ep sq nx bt : Nat} {fi la al : Bool} {D : List Int} {at_ M : Nat} (hfb : fBytes ep sq nx bt fi la al D = fb) (he : ep < 65536 ∧ sq < 65536 ∧ nx < 65536 ∧ bt < 4294967296) (hr : rightF sq D.length fi la al = true) (hq : Bytes fb) (ho : Bytes out) (hl : out.length = fb.length) (hat : at_ < 8 * fb.length) (hM : M < 4294967296) (hv : valN out = valN fb ^^^ M * 2 ^ at_) :
    (parseF out).err = if fb = out then 0 else 5 := by
  by_cases h : fb = out
  · rw [if_pos h, ← h, ← hfb, parseF_back ep sq nx bt fi la al D he hr]
  · rw [if_neg h]
    have hlen : fb.length = 17 + D.length := by rw [← hfb]; exact fBytes_len hr
    have hs : sealedB fb = true := by rw [← hfb]; unfold fBytes; rw [if_pos hr]; exact sealL_sealed _
    have hs2 : fb.drop (fb.length - 4) = tailL (sumN tab (fb.take (fb.length - 4))) := by unfold sealedB at hs; exact of_decide_eq_true hs
    have hb := burst_shown hq ho (n := fb.length - 4) (at_ := at_) (M := M) (by omega) (by omega) (by omega) hM hv hs2
    have hso : sealedB out = false := by
      unfold sealedB
      rw [hl, hb]
      exact decide_eq_false h
    unfold parseF
    rw [if_neg (by omega), if_pos hso]; rfl

set_option maxRecDepth 100000 in
set_option maxHeartbeats 16000000 in
theorem shows_walk (x : S72) (cs : List Value) (a0 m0 : Int) (w00 : World) (hK : k72.K w00 x cs) (hx : OkFr x) (hA : 0 ≤ a0 ∧ a0 ≤ 65535) (hM : 0 ≤ m0 ∧ m0 ≤ 4294967295) :
    Calls Try.prog 6 #[.agg cs.toArray, .int .u16 a0, .int .u32 m0] w00 fun e w' => e = .returned (.bool true) ∧ Below w00.heap.size w00 w' := by
  obtain ⟨f0, f1, ⟨f2, f2b⟩, fi, la, al, D0⟩ := x
  have hD := frame_in hK
  obtain ⟨k0, k1, ⟨k2, k3⟩, _, _, _, k6⟩ := hx
  have b0 := bounds_u16 k0
  have b1 := bounds_u16 k1
  have b2 := bounds_u16 k2
  have b3 := bounds_u32 k3
  simp only at hD b0 b1 b2 b3 k6
  obtain ⟨ep, rfl⟩ : ∃ x : Nat, f0 = (x : Int) := ⟨f0.toNat, by omega⟩
  obtain ⟨sq, rfl⟩ : ∃ x : Nat, f1 = (x : Int) := ⟨f1.toNat, by omega⟩
  obtain ⟨nx, rfl⟩ : ∃ x : Nat, f2 = (x : Int) := ⟨f2.toNat, by omega⟩
  obtain ⟨bt, rfl⟩ : ∃ x : Nat, f2b = (x : Int) := ⟨f2b.toNat, by omega⟩
  have HE : Aside0 (ep < 65536 ∧ sq < 65536 ∧ nx < 65536 ∧ bt < 4294967296) := ⟨by omega⟩
  obtain ⟨B, hB⟩ : ∃ B, w00.heap.size = B := ⟨_, rfl⟩
  obtain ⟨A, c, he, hc, hC⟩ := hD
  obtain ⟨n, hn⟩ : ∃ n, D0.length = n := ⟨_, rfl⟩
  rw [hn] at he hc hC
  have HF : Aside0 (∀ z, Below B w00 z → (Kd.int .u8).C z A n D0) := ⟨fun z hz => Kd.C_below hC (hB ▸ hz)⟩
  rw [he]
  have H0 := Aside0.mk ((Hp.start w00).allocAt (.cells #[.int .u16 ep, .int .u16 sq, .int .u16 nx, .int .u32 bt, .bool fi, .bool la, .bool al, .slice A n c] 72) B hB)
  rw [hB] at H0
  rw [hB]
  obtain ⟨D, hDD⟩ : ∃ D, D0.take 64 = D := ⟨_, rfl⟩
  have HDB : Aside0 (Bytes D) := ⟨fun b hb => by rw [← hDD] at hb; have := bounds_u8 (k6 b (List.mem_of_mem_take hb)); omega⟩
  have HDL : Aside0 (D.length ≤ 64) := ⟨by rw [← hDD]; exact List.length_take_le _ _⟩
  have KC := Aside0.mk (fun (z : World) (h : (Kd.int .u8).C z A n D0) => cut_any A n c D0 64 z h hc (by omega))
  rw [show (64 : Int).toNat = 64 from rfl, hDD] at KC
  obtain ⟨a, rfl⟩ : ∃ x : Nat, a0 = (x : Int) := ⟨a0.toNat, by omega⟩
  obtain ⟨mk, rfl⟩ : ∃ x : Nat, m0 = (x : Int) := ⟨m0.toNat, by omega⟩
  have HAM : Aside0 (a ≤ 65535 ∧ mk ≤ 4294967295) := ⟨by omega, by omega⟩
  clear hK k0 k1 k2 k3 k6 b0 b1 b2 b3 he hc hC hn hDD hA hM
  go_enter Try.func6, Try.ntmps6
  go_wp2_with fail
  refine (awake11_any _).mono ?_
  rintro e w1 ⟨rfl, hb1⟩
  have H1 := Aside0.mk (H0.out.call hb1)
  clear hb1 H0
  have c7 := blk_cell (H1.out.get (i := 0) rfl) 7
  go_wp2_with fail
  clear c7
  refine (KC.out _ (HF.out _ H1.out.bel)).mono ?_
  rintro e w2 ⟨v2, rfl, hv2, hb2⟩
  have H2 := Aside0.mk (H1.out.row hb2 hv2)
  obtain ⟨Ad, cd, rfl, hcd, _⟩ := Kd.R_reads hv2
  obtain ⟨dn, hdn⟩ : ∃ n, D.length = n := ⟨_, rfl⟩
  rw [hdn] at H2 hcd HDL
  rw [hdn]
  have HDN := Aside0.mk (And.intro hdn hcd)
  clear hb2 hv2 hcd H1 KC HF hdn
  have c7 := blk_cell (H2.out.get (i := 0) rfl) 7
  have f7 := blk_frozen (H2.out.get (i := 0) rfl) 7
  go_wp2_with (first | (refine wpList_load_row_g 72 (.tmp 3) rfl B rfl rfl 72 _ (0, 0) _ ((H2.out.setCell (i := 0) rfl 7 (.slice Ad dn cd)).get (i := 0) rfl) Try.underlying72 rfl (frame_info _ _ _ _ _ _ _ _) ?_))
  clear c7 f7
  have H3 := Aside0.mk (H2.out.setCell (i := 0) rfl 7 (.slice Ad dn cd))
  generalize w2.setCell ⟨B, 7, none⟩ (.slice Ad dn cd) = W3 at *
  have H4 : Aside0 (Hp B w00 W3 [(B, .cells #[.int .u16 ep, .int .u16 sq, .int .u16 nx, .int .u32 bt, .bool fi, .bool la, .bool al, .slice Ad dn cd] 72 (0, 0))] [fun w => (Kd.int .u8).R 5 w B (fun _ => True) (.slice Ad dn cd) D]) := ⟨H3.out⟩
  clear H2 H3
  have hfr : FrC W3 ep sq nx bt fi la al D (.agg #[.int .u16 ep, .int .u16 sq, .int .u16 nx, .int .u32 bt, .bool fi, .bool la, .bool al, .slice Ad dn cd]) := ⟨Ad, cd, by rw [HDN.out.1], by rw [HDN.out.1]; exact HDN.out.2, by rw [HDN.out.1]; exact (Ru_C (H4.out.fact (i := 0) rfl)).2.2⟩
  obtain ⟨fb, hfb⟩ : ∃ fb, fBytes ep sq nx bt fi la al D = fb := ⟨_, rfl⟩
  have KB := Aside0.mk (fbytes_any ep sq nx bt fi la al D _ W3 hfr HE.out HDB.out)
  rw [hfb] at KB
  have HFB := Aside0.mk hfb
  clear hfr
  refine KB.out.mono ?_
  rintro e w4 ⟨v4, rfl, hv4, hb4⟩
  have H5 := Aside0.mk (H4.out.row hb4 hv4)
  obtain ⟨Ab, cb, rfl, hcb, _⟩ := Kd.R_reads hv4
  obtain ⟨bl, hbl⟩ : ∃ n, fb.length = n := ⟨_, rfl⟩
  rw [hbl] at H5 hcb
  rw [hbl]
  have HCB := Aside0.mk (And.intro hcb hbl)
  have HFBB : Aside0 (Bytes fb) := ⟨by rw [← hfb]; exact fBytes_bytes _ _ _ _ _ _ _ D HDB.out⟩
  clear hb4 hv4 hcb hbl hfb H4 KB
  obtain ⟨ρ, hρ⟩ : ∃ ρ, rightF sq D.length fi la al = ρ := ⟨_, rfl⟩
  have HRH := Aside0.mk hρ
  clear hρ
  cases ρ with
  | false =>
    have hb0 : bl = 0 := by rw [← HCB.out.2, ← HFB.out, fBytes_no HRH.out]; rfl
    have hal : al = true := right_or HRH.out (by rw [HDN.out.1]; exact HDL.out)
    subst hb0 hal
    have c6 := blk_cell (H5.out.get (i := 0) rfl) 6
    go_wp2_with fail
    go_ret
    exact ⟨rfl, H5.out.bel⟩
  | true =>
    have hbl : bl = 17 + dn := by rw [← HCB.out.2, ← HFB.out, fBytes_len HRH.out, HDN.out.1]
    have hb81 : bl ≤ 81 := by have := HDL.out; omega
    have hb17 : 17 ≤ bl := by omega
    have HBL := Aside0.mk (And.intro hb17 hb81)
    have hne : ¬ (bl : Int) = 0 := by omega
    have hne2 : ¬ bl = 0 := by omega
    have h8 : (8 : Int) * (bl : Int) = ((8 * bl : Nat) : Int) := by omega
    obtain ⟨e8, he8⟩ : ∃ e8 : Nat, 8 * bl = e8 := ⟨_, rfl⟩
    have hje : (a : Int) % (e8 : Int) = ((a % e8 : Nat) : Int) := rfl
    have hj : a % e8 < e8 := Nat.mod_lt _ (by omega)
    obtain ⟨j0, hj0⟩ : ∃ j : Nat, a % e8 = j := ⟨_, rfl⟩
    rw [hj0] at hje hj
    rw [he8] at h8
    have HJ : Aside0 (j0 < 8 * bl) := ⟨by omega⟩
    have h8a : (1 : Int) ≤ (e8 : Int) := by omega
    have h8b : (e8 : Int) ≤ 1000 := by omega
    have ha0 : (0 : Int) ≤ (a : Int) := by omega
    have ha1 : (a : Int) ≤ 65535 := by have := HAM.out; omega
    have hmk : (mk : Int) ≤ 4294967295 := by have := HAM.out; omega
    clear hbl hb81 hb17 hj hj0 he8
    go_wp2_with fail
    refine (turned_any Ab bl cb fb j0 mk w4 (Ru_C (H5.out.fact (i := 0) rfl)).2.2 HCB.out.1 HFBB.out (by have := HBL.out; omega) (by have := HBL.out; have := HJ.out; omega)).mono ?_
    rintro e w6 ⟨v6, out, M, rfl, hv6, hb6, ho, hol, hM, hval⟩
    have H6 := Aside0.mk (H5.out.row hb6 hv6)
    obtain ⟨Ao, co, rfl, hco, _⟩ := Kd.R_reads hv6
    rw [hol] at H6 hco
    rw [hol]
    have HER := Aside0.mk (shown_err HFB.out HE.out HRH.out HFBB.out ho (by rw [hol, HCB.out.2]) (at_ := j0) (by rw [HCB.out.2]; exact HJ.out) hM hval)
    have HO := Aside0.mk (And.intro hco (And.intro hol ho))
    clear hv6 hb6 hco hol ho hM hval H5 hje h8
    go_wp2_with fail
    refine (fparse_any Ao bl co out w6 (Ru_C (H6.out.fact (i := 0) rfl)).2.2 HO.out.1 (by have := HBL.out; omega) HO.out.2.2).mono ?_
    rintro e w7 ⟨⟨v7, rfl, hv7⟩, hb7⟩
    obtain ⟨A7, c7, rfl, _, _⟩ := hv7
    have H7 := Aside0.mk (H6.out.call hb7)
    obtain ⟨er, her⟩ : ∃ er, (parseF out).err = er := ⟨_, rfl⟩
    rw [her]
    rw [her] at HER
    clear hb7 H6 her
    go_wp2_with fail
    refine (same_told fb out _ _ _ ⟨Ab, cb, by rw [HCB.out.2], by rw [HCB.out.2]; exact HCB.out.1, by rw [HCB.out.2]; exact Kd.C_alloc (Ru_C (H7.out.fact (i := 1) rfl)).2.2 _⟩ ⟨Ao, co, by rw [HO.out.2.1], by rw [HO.out.2.1]; exact HO.out.1, by rw [HO.out.2.1]; exact Kd.C_alloc (Ru_C (H7.out.fact (i := 0) rfl)).2.2 _⟩).mono ?_
    rintro e w8 ⟨rfl, hb8⟩
    have H8 := Aside0.mk ((H7.out.box _).call hb8)
    clear hb8 H7
    by_cases hq : fb = out
    · rw [decide_eq_true hq]
      have he0 : er = 0 := by rw [HER.out, if_pos hq]
      subst he0
      clear hq HER
      go_wp2_with fail
      go_ret
      exact ⟨rfl, H8.out.bel⟩
    · rw [decide_eq_false hq]
      have he0 : er = 5 := by rw [HER.out, if_neg hq]
      subst he0
      clear hq HER
      go_wp2_with fail
      go_ret
      exact ⟨rfl, H8.out.bel⟩
end Go.Proofs.Yticpjidcgaaldaa
