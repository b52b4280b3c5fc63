/- Walks: a block of statements. -/
import Derived.Test.YtjoiflokekebkaaDoorR13
set_option linter.all false
namespace Go.Proofs.YtjoiflokekebkaaDoor
open Go.RowKit

theorem info_Stmt : (Tryd.prog.info? 65).map (fun i => (i.zero, i.size, i.bytes)) = some (some (.agg #[.int .i64 0, .int .i64 0, .string ⟨#[]⟩, .int .i64 0, .string ⟨#[]⟩, .slice none 0 0, .string ⟨#[]⟩, .slice none 0 0, .int .i64 0, .slice none 0 0, .string ⟨#[]⟩, .slice none 0 0, .string ⟨#[]⟩, .string ⟨#[]⟩, .bool false, .int .i64 0, .string ⟨#[]⟩, .slice none 0 0, .slice none 0 0, .slice none 0 0, .slice none 0 0]), 21, 352) := by kernel_rfl
theorem Stm.ds_snoc (a : List Stm) (x : Stm) : Stm.ds (a ++ [x]) = Stm.ds a ++ [Stm.d x] := by
  induction a with
  | nil => simp [Stm.ds]
  | cons y a ih => simp [Stm.ds, ih]
section
variable {blk : Ps (List Stm)} {n : Nat} {acc : List Stm} {ts us : List Tk} {x : Stm}
theorem stmts_t (hw : isW (⟨#[125]⟩ : ByteArray) ts = false) (hx : stmtP blk ts = .ok (x, us)) : ((stmtsP blk (n + 1)).bd fun l => Ps.ret (acc ++ l)) ts = ((stmtsP blk n).bd fun l => Ps.ret ((acc ++ [x]) ++ l)) us := by
  have h : stmtsP blk (n + 1) ts = ((stmtP blk).bd fun s => (stmtsP blk n).bd fun l => .ret (s :: l)) ts := optE_f hw
  rw [Ps.bd_ok hx] at h
  unfold Ps.bd at h ⊢
  rw [h]
  cases hq : stmtsP blk n us with
  | error e => rfl
  | ok r => simp [Ps.ret]
theorem stmts_e {e : Int × Int} (hw : isW (⟨#[125]⟩ : ByteArray) ts = false) (hx : stmtP blk ts = .error e) : ((stmtsP blk (n + 1)).bd fun l => Ps.ret (acc ++ l)) ts = .error e := by
  have h : stmtsP blk (n + 1) ts = ((stmtP blk).bd fun s => (stmtsP blk n).bd fun l => .ret (s :: l)) ts := optE_f hw
  rw [Ps.bd_err hx] at h
  exact Ps.bd_err h
theorem stmts_f (hw : isW (⟨#[125]⟩ : ByteArray) ts = true) : ((stmtsP blk (n + 1)).bd fun l => Ps.ret (acc ++ l)) ts = .ok (acc, ts.tail) := by
  have h : stmtsP blk (n + 1) ts = .ok ([], ts.tail) := optE_t hw
  rw [Ps.bd_ok h]
  simp [Ps.ret]
theorem block_s {k : Nat} (hx : must (⟨#[123]⟩ : ByteArray) ts = .ok ((), us)) : blockP (k + 1) ts = ((stmtsP (blockP k) (us.length + 1)).bd fun l => Ps.ret ([] ++ l)) us := by
  have h : blockP (k + 1) ts = stmtsP (blockP k) (us.length + 1) us := by rw [blockP, Ps.bd_ok hx]
  rw [h]
  unfold Ps.bd
  cases stmtsP (blockP k) (us.length + 1) us with
  | error e => rfl
  | ok r => simp [Ps.ret]
theorem must_f (s : ByteArray) (hw : isW s ts = false) : must s ts = .error (60, (hd ts).at_) := by simp [must, hw]
end
set_option maxRecDepth 100000 in
set_option maxHeartbeats 4000000 in
theorem block_zero : BlkOk 0 := by
  intro d h0 hd0 W R ts h
  obtain rfl : d = 61 := by omega
  have H := Lib.hid h
  have hR := h.lt
  have hnew : (W.alloc (.cells #[.string ⟨#[123]⟩] 9)).cell? ⟨W.heap.size, 0, none⟩ = some (.string ⟨#[123]⟩) := blk_cell (heap_alloc_new W _) 0
  have HN := Lib.hid hnew
  have HB := Lib.hid (bel_one hR (.cells #[.string ⟨#[123]⟩] 9))
  have HA := Lib.hid (grown_alloc (World.grownBy.refl W (some R)) (.cells #[.string ⟨#[123]⟩] 9))
  clear h hnew hd0 h0
  go_enter Tryd.func37, Tryd.ntmps37
  go_wp2_with fail
  refine (is_rd (H.out.below HB.out (by omega)) ⟨#[123]⟩ HN.out (by simp)).mono ?_
  rintro e w1 ⟨rfl, hb⟩
  have HB1 := Lib.hid (HB.out.trans (hb.mono (by simp; omega)))
  have HA1 := Lib.hid (grown_then HA.out hb HA.out.size)
  have HR1 := Lib.hid (H.out.below HB1.out (by omega))
  clear hb
  cases hw : isW (⟨#[123]⟩ : ByteArray) ts with
  | true =>
    have HW := Lib.hid hw
    clear hw
    go_wp2_with fail
    refine (stop_rd HR1.out 61).mono ?_
    rintro e w2 ⟨rfl, hb⟩
    go_wp2_with fail
    exact ⟨rfl, grown_then HA1.out hb HA1.out.size, .inr ⟨61, (hd ts).at_, by simp [blockP, HW.out], rfl⟩⟩
  | false =>
    have HW := Lib.hid hw
    clear hw
    go_wp2_with fail
    refine (must_rd HR1.out ⟨#[123]⟩).mono ?_
    rintro e w2 ⟨hg, ⟨⟨⟩, us, v, hp, rfl, rfl, hr, hle⟩ | ⟨er, at_, hp, rfl⟩⟩
    · rw [must_f _ HW.out] at hp
      cases hp
    · go_wp2_with fail
      exact ⟨rfl, World.grownBy.trans HA1.out hg, .inr ⟨er, at_, (by rw [must_f _ HW.out] at hp; injection hp with hp; rw [← hp]; simp [blockP, HW.out]), rfl⟩⟩
set_option maxRecDepth 100000 in
set_option maxHeartbeats 16000000 in
theorem block_succ {k : Nat} (ih : BlkOk k) : BlkOk (k + 1) := by
  intro d h0 hd1 W R ts h
  have h60 : ¬ d > 60 := by omega
  have hd61 : d ≤ 61 := by omega
  have hR := h.lt
  have hlen := h.ok.len
  have HS := Lib.hid (fun w us (h : Rdr w R us) => stmt_rd (ts := us) h ih d h0 (by omega))
  have hnew : (W.alloc (.cells #[.string ⟨#[123]⟩] 9)).cell? ⟨W.heap.size, 0, none⟩ = some (.string ⟨#[123]⟩) := blk_cell (heap_alloc_new W _) 0
  have HN := Lib.hid hnew
  have HB := Lib.hid (bel_one hR (.cells #[.string ⟨#[123]⟩] 9))
  have HA := Lib.hid (grown_alloc (World.grownBy.refl W (some R)) (.cells #[.string ⟨#[123]⟩] 9))
  have H := Lib.hid h
  clear h hnew hd1 ih
  go_enter Tryd.func37, Tryd.ntmps37
  go_wp2_with fail
  refine (is_rd (H.out.below HB.out (by omega)) ⟨#[123]⟩ HN.out (by simp)).mono ?_
  rintro e w1 ⟨rfl, hb⟩
  have HB1 := Lib.hid (HB.out.trans (hb.mono (by simp; omega)))
  have HG1 := Lib.hid (grown_then HA.out hb HA.out.size)
  have HR1 := Lib.hid (H.out.below HB1.out (by omega))
  clear hb H HN HA HB HB1
  cases hw : isW (⟨#[123]⟩ : ByteArray) ts with
  | false =>
    have HW := Lib.hid hw
    clear hw
    go_wp2_with fail
    refine (must_rd HR1.out ⟨#[123]⟩).mono ?_
    rintro e w2 ⟨hg, ⟨⟨⟩, us, v, hp, rfl, rfl, hr, hle⟩ | ⟨er, at_, hp, rfl⟩⟩
    · rw [must_f _ HW.out] at hp
      cases hp
    · go_wp2_with fail
      exact ⟨rfl, World.grownBy.trans HG1.out hg, .inr ⟨er, at_, Ps.bd_err hp, rfl⟩⟩
  | true =>
    clear hw
    go_wp2_with fail
    refine (must_rd HR1.out ⟨#[123]⟩).mono ?_
    rintro e w2 ⟨hg, ⟨⟨⟩, us, v, hp, rfl, rfl, hr, hle⟩ | ⟨er, at_, hp, rfl⟩⟩
    · have HG := Lib.hid (World.grownBy.trans HG1.out hg)
      have HR := Lib.hid hr
      have HP := Lib.hid (block_s (k := k) hp)
      have HL0 : Hid (Rd w2 (fun j => W.heap.size ≤ j) (.slice none 0 0) (.row 65 21 (Stm.ds []))) := Lib.hid (by simp only [Stm.ds]; exact Rd.nil _ _ _ _)
      clear hg hr hp HG1 HR1
      go_wp2_with fail
      go_loopg [5] (us.length + 1) (fun gk u5 wr => ∃ (us' : List Tk) (acc : List Stm) (A : Option Addr) (c n : Nat), u5 = .slice A acc.length c ∧ us'.length < gk ∧ us'.length < n ∧ acc.length + us'.length ≤ ts.length ∧ Hid (Rdr wr R us') ∧ Hid (W.grownBy wr (some R)) ∧ Hid (Rd wr (fun j => W.heap.size ≤ j) (.slice A acc.length c) (.row 65 21 (Stm.ds acc))) ∧ Hid (blockP (k + 1) ts = ((stmtsP (blockP k) n).bd fun l => Ps.ret (acc ++ l)) us'))
      case atStart => exact ⟨us, [], none, 0, us.length + 1, rfl, by omega, by omega, by simpa using hle, HR, HG, HL0, HP⟩
      case round =>
        clear HR HG HL0 HP
        obtain ⟨us', acc, A, c, n, rfl, hgk, hn, hacc, HR, HG, HL, HP⟩ := hrel
        obtain ⟨n, rfl⟩ : ∃ m, n = m + 1 := ⟨n - 1, by omega⟩
        go_wp2_with fail
        refine (opt_rd HR.out ⟨#[125]⟩).mono ?_
        rintro e w4 ⟨hg, ⟨hw, rfl, hr⟩ | ⟨hw, rfl, hr⟩⟩
        · have htl := isW_pos hw
          have HP2 : Hid (blockP (k + 1) ts = .ok (acc, us'.tail)) := Lib.hid (by rw [HP.out]; exact stmts_f hw)
          have HR4 := Lib.hid hr
          have HG4 := Lib.hid (World.grownBy.trans HG.out hg)
          have HL4 := Lib.hid (HL.out.kept hg hR)
          clear hw hr hg HR HG HL HP
          go_wp2_with fail
          go_ret
          exact ⟨HG4.out, .inl ⟨acc, us'.tail, _, HP2.out, rfl, HL4.out, HR4.out, by omega⟩⟩
        · have HW := Lib.hid hw
          have HR4 := Lib.hid hr
          have HG4 := Lib.hid (World.grownBy.trans HG.out hg)
          have HL4 := Lib.hid (HL.out.kept hg hR)
          clear hw hr hg HR HG HL
          go_wp2_with fail
          refine (HS.out _ _ HR4.out).mono ?_
          rintro e w5 ⟨hg, ⟨y, us2, v, hp, rfl, ⟨cs2, rfl, hc⟩, hr, hle⟩ | ⟨er, at_, hp, rfl⟩⟩
          · have hlt : us2.length < us'.length := (Lt.stmt (Le.block k) us' y us2 hp).2
            have hs4 : W.heap.size ≤ w4.heap.size := HG4.out.size
            have HG5 := Lib.hid (World.grownBy.trans HG4.out hg)
            have HL5 := Lib.hid (HL4.out.kept hg hR)
            have HR5 := Lib.hid hr
            have HC := Lib.hid hc
            have HP2 : Hid (blockP (k + 1) ts = ((stmtsP (blockP k) n).bd fun l => Ps.ret ((acc ++ [y]) ++ l)) us2) := Lib.hid (by rw [HP.out]; exact stmts_t HW.out hp)
            have HNE : Hid (∀ k, w4.heap.size ≤ k → (W.heap.size ≤ k ∧ (Value.slice A acc.length c).ownBlock ≠ some k)) := Lib.hid (fun k hk => ⟨by omega, fun e => by have := (HL4.out.new k e).2; omega⟩)
            have HGS := Lib.hid hg.size
            clear hg hp hr hle HG4 HL4 HR4 HW HP
            obtain ⟨kk, at2, n2, tk, tn, tl, pn, pl, rk, ops, rpn, rpl, rn, rv, b2, on2, om2, ol2, th2, el2, arms2, A1, c1, A2, c2, A3, c3, A4, c4, A5, c5, A6, c6, A7, c7, A8, c8, rfl, rfl, _⟩ := stm_open hc
            clear hc
            have hl6 : (acc ++ [Stm.mk kk at2 n2 (.mk tk tn tl) ⟨pn, pl⟩ ⟨rk, ops, ⟨rpn, rpl⟩, rn, rv⟩ ⟨b2, on2, ⟨om2, ol2⟩⟩ th2 el2 arms2]).length = acc.length + 1 := by simp
            have HLN : Hid ((Stm.ds acc).length = acc.length) := Lib.hid (Stm.ds_length acc)
            go_wp2_with (first | (at_builtin; refine Rd.append_at (W := w5) (cs := [.int .i64 kk, .int .i64 at2, .string n2, .int .i64 tk, .string tn, .slice A1 tl.length c1, .string pn, .slice A2 pl.length c2, .int .i64 rk, .slice A3 ops.length c3, .string rpn, .slice A4 rpl.length c4, .string rn, .string rv, .bool b2, .int .i64 on2, .string om2, .slice A5 ol2.length c5, .slice A6 th2.length c6, .slice A7 el2.length c7, .slice A8 arms2.length c8]) (ds := Stm.d (.mk kk at2 n2 (.mk tk tn tl) ⟨pn, pl⟩ ⟨rk, ops, ⟨rpn, rpl⟩, rn, rv⟩ ⟨b2, on2, ⟨om2, ol2⟩⟩ th2 el2 arms2)) (ok := fun k => W.heap.size ≤ k) (okp := fun k => w4.heap.size ≤ k) (l := Stm.ds acc) rfl (.tmp 20) (.tmp 24) 36 (.agg #[.int .i64 0, .int .i64 0, .string ⟨#[]⟩, .int .i64 0, .string ⟨#[]⟩, .slice none 0 0, .string ⟨#[]⟩, .slice none 0 0, .int .i64 0, .slice none 0 0, .string ⟨#[]⟩, .slice none 0 0, .string ⟨#[]⟩, .string ⟨#[]⟩, .bool false, .int .i64 0, .string ⟨#[]⟩, .slice none 0 0, .slice none 0 0, .slice none 0 0, .slice none 0 0]) 352 rfl Tryd.underlying36 info_Stmt rfl (by decide) (by decide) rfl rfl HL5.out HC.out (by simp [Stm.d, Ty.d, Plc.d, Rvl.d, Opr.d]) (fun k hk => by have := HGS.out; omega) HNE.out (by simp [Value.oneCell']) (by rw [Stm.ds_length]; omega) ?_; intro u6 w6 h6 hg6 hat6; obtain ⟨A6, c6, rfl⟩ := h6.slice; have HL6 := Lib.hid h6; have HG6 := Lib.hid (grown_own HG5.out hg6 (fun k hk => (HL5.out.new k hk).1)); have HR6 := Lib.hid (HR5.out.grown hg6 (fun k hk => by have := (HL5.out.new k hk).1; omega)); clear h6 hg6 hat6 HL5 HG5 HR5))
            go_roundg (us2.length + 1)
            case measure => omega
            case rel => exact ⟨us2, _, A6, c6, n, by rw [hl6]; simp [Stm.ds_length], by omega, by omega, by rw [hl6]; omega, HR6, HG6, Lib.hid (by have h := HL6.out; rw [Stm.ds_snoc, hl6]; simpa [Stm.ds_length] using h), HP2⟩
          · go_wp2_with fail
            exact ⟨rfl, World.grownBy.trans HG4.out hg, .inr ⟨er, at_, (by rw [HP.out]; exact stmts_e HW.out hp), rfl⟩⟩
    · go_wp2_with fail
      exact ⟨rfl, World.grownBy.trans HG1.out hg, .inr ⟨er, at_, Ps.bd_err hp, rfl⟩⟩
theorem block_ok : ∀ k, BlkOk k
  | 0 => block_zero
  | k + 1 => block_succ (block_ok k)
end Go.Proofs.YtjoiflokekebkaaDoor
