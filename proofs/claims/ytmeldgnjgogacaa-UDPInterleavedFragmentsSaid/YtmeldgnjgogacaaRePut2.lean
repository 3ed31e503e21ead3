/-
  The contract of (*Table).Put: no table, no valid packet, a whole datagram.
-/
import Derived.Test.YtmeldgnjgogacaaRePut
namespace Go.Proofs.Ytmeldgnjgogacaa.Re
set_option maxRecDepth 100000
open Go.RowKit Go.Proofs.Ytmeldgnjgogacaa.Wire
open Go.Proofs.Ytmeldgnjgogacaa.Ip (Pk vlenB)

def PkV (p : Pk) : Value := .agg #[.int .i64 p.f, .int .i64 p.t, .int .i64 p.pr, .int .i64 p.ttl, .int .i64 p.id, .bool p.df, .bool p.mf, .int .i64 p.off, .string p.s]
def PutRes (q : Pk) (ok : Bool) (err : Int) : Ending := .returned (.tuple #[PkV q, .bool ok, .int .i64 err])
set_option maxHeartbeats 4000000 in
theorem put_nil (now : Int) (p : Pk) (w : World) :
    Calls Try.prog 16 #[.pointer none, .int .i64 now, .agg #[.int .i64 p.f, .int .i64 p.t, .int .i64 p.pr, .int .i64 p.ttl, .int .i64 p.id, .bool p.df, .bool p.mf, .int .i64 p.off, .string p.s]] w fun x w' => x = PutRes pk0 false 1 ∧ Below w.heap.size w w' := by
  have HP := Lib.hid (block_alloc (alloc_new w (.cells #[.int .i64 p.f, .int .i64 p.t, .int .i64 p.pr, .int .i64 p.ttl, .int .i64 p.id, .bool p.df, .bool p.mf, .int .i64 p.off, .string p.s] 30)) (.cells #[.int .i64 0, .int .i64 0, .int .i64 0, .int .i64 0, .int .i64 0, .bool false, .bool false, .int .i64 0, .string ⟨#[]⟩] 30))
  have HR := Lib.hid (alloc_new' (w.alloc (.cells #[.int .i64 p.f, .int .i64 p.t, .int .i64 p.pr, .int .i64 p.ttl, .int .i64 p.id, .bool p.df, .bool p.mf, .int .i64 p.off, .string p.s] 30)) (.cells #[.int .i64 0, .int .i64 0, .int .i64 0, .int .i64 0, .int .i64 0, .bool false, .bool false, .int .i64 0, .string ⟨#[]⟩] 30) (w.heap.size + 1) (by simp))
  have HB := Lib.hid (below_alloc (o := .cells #[.int .i64 0, .int .i64 0, .int .i64 0, .int .i64 0, .int .i64 0, .bool false, .bool false, .int .i64 0, .string ⟨#[]⟩] 30) (below_alloc (o := .cells #[.int .i64 p.f, .int .i64 p.t, .int .i64 p.pr, .int .i64 p.ttl, .int .i64 p.id, .bool p.df, .bool p.mf, .int .i64 p.off, .string p.s] 30) (Below.refl w.heap.size w)))
  go_enter Try.func16, Try.ntmps16
  go_wp2_with fail
  refine bodyPost_ret (v := .tuple #[.agg #[.int .i64 0, .int .i64 0, .int .i64 0, .int .i64 0, .int .i64 0, .bool false, .bool false, .int .i64 0, .string ⟨#[]⟩], .bool false, .int .i64 1]) (res_cell3 Try.results16 (by exact HR.out) rfl Try.underlying30 rfl infoPkt) rfl ?_
  exact ⟨rfl, HB.out⟩
set_option maxHeartbeats 4000000 in
theorem put_bad (T : Nat) (now : Int) (p : Pk) (w : World) (hv : vldB p = false) (hs : p.s.size ≤ 9223372036854775807) :
    Calls Try.prog 16 #[.pointer (some ⟨T, 0, none⟩), .int .i64 now, .agg #[.int .i64 p.f, .int .i64 p.t, .int .i64 p.pr, .int .i64 p.ttl, .int .i64 p.id, .bool p.df, .bool p.mf, .int .i64 p.off, .string p.s]] w fun x w' => x = PutRes pk0 false 60 ∧ Below w.heap.size w w' := by
  have HVAL := Lib.hid fun W => Ip.valid_any p.f p.t p.pr p.ttl p.id p.df p.mf p.off p.s W hs
  have hv2 : vlenB p.f p.t p.pr p.ttl p.id p.df p.mf p.off p.s.size = false := hv
  rw [hv2] at HVAL; clear hv2 hv
  have HP := Lib.hid (block_alloc (alloc_new w (.cells #[.int .i64 p.f, .int .i64 p.t, .int .i64 p.pr, .int .i64 p.ttl, .int .i64 p.id, .bool p.df, .bool p.mf, .int .i64 p.off, .string p.s] 30)) (.cells #[.int .i64 0, .int .i64 0, .int .i64 0, .int .i64 0, .int .i64 0, .bool false, .bool false, .int .i64 0, .string ⟨#[]⟩] 30))
  have HR := Lib.hid (alloc_new' (w.alloc (.cells #[.int .i64 p.f, .int .i64 p.t, .int .i64 p.pr, .int .i64 p.ttl, .int .i64 p.id, .bool p.df, .bool p.mf, .int .i64 p.off, .string p.s] 30)) (.cells #[.int .i64 0, .int .i64 0, .int .i64 0, .int .i64 0, .int .i64 0, .bool false, .bool false, .int .i64 0, .string ⟨#[]⟩] 30) (w.heap.size + 1) (by simp))
  have HB := Lib.hid (below_alloc (o := .cells #[.int .i64 0, .int .i64 0, .int .i64 0, .int .i64 0, .int .i64 0, .bool false, .bool false, .int .i64 0, .string ⟨#[]⟩] 30) (below_alloc (o := .cells #[.int .i64 p.f, .int .i64 p.t, .int .i64 p.pr, .int .i64 p.ttl, .int .i64 p.id, .bool p.df, .bool p.mf, .int .i64 p.off, .string p.s] 30) (Below.refl w.heap.size w)))
  go_enter Try.func16, Try.ntmps16
  go_wp2_with fail
  refine (HVAL.out _).mono ?_
  rintro x w1 ⟨rfl, hb⟩
  have HR' := Lib.hid (bblock hb HR.out); clear HR; have HR := HR'; clear HR'
  have HB' := Lib.hid (below_call HB.out hb); clear HB hb; have HB := HB'; clear HB'
  have qR0 := (cell_of_block (k := 0) HR.out rfl).1; have zR0 := (cell_of_block (k := 0) HR.out rfl).2; have qR1 := (cell_of_block (k := 1) HR.out rfl).1; have zR1 := (cell_of_block (k := 1) HR.out rfl).2; have qR2 := (cell_of_block (k := 2) HR.out rfl).1; have zR2 := (cell_of_block (k := 2) HR.out rfl).2; have qR3 := (cell_of_block (k := 3) HR.out rfl).1; have zR3 := (cell_of_block (k := 3) HR.out rfl).2; have qR4 := (cell_of_block (k := 4) HR.out rfl).1; have zR4 := (cell_of_block (k := 4) HR.out rfl).2; have qR5 := (cell_of_block (k := 5) HR.out rfl).1; have zR5 := (cell_of_block (k := 5) HR.out rfl).2; have qR6 := (cell_of_block (k := 6) HR.out rfl).1; have zR6 := (cell_of_block (k := 6) HR.out rfl).2; have qR7 := (cell_of_block (k := 7) HR.out rfl).1; have zR7 := (cell_of_block (k := 7) HR.out rfl).2; have qR8 := (cell_of_block (k := 8) HR.out rfl).1; have zR8 := (cell_of_block (k := 8) HR.out rfl).2; have lt_R := blk_lt HR.out
  go_wp2_with fail
  have HZ := stN_all [.int .i64 0, .int .i64 0, .int .i64 0, .int .i64 0, .int .i64 0, .bool false, .bool false, .int .i64 0, .string ⟨#[]⟩] HR.out rfl
  refine bodyPost_ret (v := .tuple #[.agg #[.int .i64 0, .int .i64 0, .int .i64 0, .int .i64 0, .int .i64 0, .bool false, .bool false, .int .i64 0, .string ⟨#[]⟩], .bool false, .int .i64 60]) (res_cell3 Try.results16 (by exact HZ) rfl Try.underlying30 rfl infoPkt) rfl ?_
  exact ⟨rfl, stN_below (by simp) [.int .i64 0, .int .i64 0, .int .i64 0, .int .i64 0, .int .i64 0, .bool false, .bool false, .int .i64 0, .string ⟨#[]⟩] _ 0 HB.out⟩
set_option maxHeartbeats 4000000 in
theorem put_whole (T : Nat) (now : Int) (p : Pk) (w : World) (hv : vldB p = true) (hm : p.mf = false) (h0 : p.off = 0) (hs : p.s.size ≤ 9223372036854775807) :
    Calls Try.prog 16 #[.pointer (some ⟨T, 0, none⟩), .int .i64 now, .agg #[.int .i64 p.f, .int .i64 p.t, .int .i64 p.pr, .int .i64 p.ttl, .int .i64 p.id, .bool p.df, .bool p.mf, .int .i64 p.off, .string p.s]] w fun x w' => x = PutRes p true 0 ∧ Below w.heap.size w w' := by
  have HVAL := Lib.hid fun W => Ip.valid_any p.f p.t p.pr p.ttl p.id p.df p.mf p.off p.s W hs
  have hv2 : vlenB p.f p.t p.pr p.ttl p.id p.df p.mf p.off p.s.size = true := hv
  rw [hv2] at HVAL; clear hv2 hv
  have HRS : Hid (PutRes p true 0 = .returned (.tuple #[.agg #[.int .i64 p.f, .int .i64 p.t, .int .i64 p.pr, .int .i64 p.ttl, .int .i64 p.id, .bool p.df, .bool false, .int .i64 p.off, .string p.s], .bool true, .int .i64 0])) := Lib.hid (by unfold PutRes PkV; rw [hm])
  have HM := Lib.hid hm; have H0 := Lib.hid h0; clear hm h0
  have HP := Lib.hid (block_alloc (alloc_new w (.cells #[.int .i64 p.f, .int .i64 p.t, .int .i64 p.pr, .int .i64 p.ttl, .int .i64 p.id, .bool p.df, .bool p.mf, .int .i64 p.off, .string p.s] 30)) (.cells #[.int .i64 0, .int .i64 0, .int .i64 0, .int .i64 0, .int .i64 0, .bool false, .bool false, .int .i64 0, .string ⟨#[]⟩] 30))
  have HR := Lib.hid (alloc_new' (w.alloc (.cells #[.int .i64 p.f, .int .i64 p.t, .int .i64 p.pr, .int .i64 p.ttl, .int .i64 p.id, .bool p.df, .bool p.mf, .int .i64 p.off, .string p.s] 30)) (.cells #[.int .i64 0, .int .i64 0, .int .i64 0, .int .i64 0, .int .i64 0, .bool false, .bool false, .int .i64 0, .string ⟨#[]⟩] 30) (w.heap.size + 1) (by simp))
  have HB := Lib.hid (below_alloc (o := .cells #[.int .i64 0, .int .i64 0, .int .i64 0, .int .i64 0, .int .i64 0, .bool false, .bool false, .int .i64 0, .string ⟨#[]⟩] 30) (below_alloc (o := .cells #[.int .i64 p.f, .int .i64 p.t, .int .i64 p.pr, .int .i64 p.ttl, .int .i64 p.id, .bool p.df, .bool p.mf, .int .i64 p.off, .string p.s] 30) (Below.refl w.heap.size w)))
  go_enter Try.func16, Try.ntmps16
  go_wp2_with fail
  refine (HVAL.out _).mono ?_
  rintro x w1 ⟨rfl, hb⟩
  have HP' := Lib.hid (bblock hb HP.out); clear HP; have HP := HP'; clear HP'
  have HR' := Lib.hid (bblock hb HR.out); clear HR; have HR := HR'; clear HR'
  have HB' := Lib.hid (below_call HB.out hb); clear HB hb; have HB := HB'; clear HB'
  have qP0 := (cell_of_block (k := 0) HP.out rfl).1; have zP0 := (cell_of_block (k := 0) HP.out rfl).2; have qP1 := (cell_of_block (k := 1) HP.out rfl).1; have zP1 := (cell_of_block (k := 1) HP.out rfl).2; have qP2 := (cell_of_block (k := 2) HP.out rfl).1; have zP2 := (cell_of_block (k := 2) HP.out rfl).2; have qP3 := (cell_of_block (k := 3) HP.out rfl).1; have zP3 := (cell_of_block (k := 3) HP.out rfl).2; have qP4 := (cell_of_block (k := 4) HP.out rfl).1; have zP4 := (cell_of_block (k := 4) HP.out rfl).2; have qP5 := (cell_of_block (k := 5) HP.out rfl).1; have zP5 := (cell_of_block (k := 5) HP.out rfl).2; have qP6 := (cell_of_block (k := 6) HP.out rfl).1; have zP6 := (cell_of_block (k := 6) HP.out rfl).2; have qP7 := (cell_of_block (k := 7) HP.out rfl).1; have zP7 := (cell_of_block (k := 7) HP.out rfl).2; have qP8 := (cell_of_block (k := 8) HP.out rfl).1; have zP8 := (cell_of_block (k := 8) HP.out rfl).2; have lt_P := blk_lt HP.out
  have qR0 := (cell_of_block (k := 0) HR.out rfl).1; have zR0 := (cell_of_block (k := 0) HR.out rfl).2; have qR1 := (cell_of_block (k := 1) HR.out rfl).1; have zR1 := (cell_of_block (k := 1) HR.out rfl).2; have qR2 := (cell_of_block (k := 2) HR.out rfl).1; have zR2 := (cell_of_block (k := 2) HR.out rfl).2; have qR3 := (cell_of_block (k := 3) HR.out rfl).1; have zR3 := (cell_of_block (k := 3) HR.out rfl).2; have qR4 := (cell_of_block (k := 4) HR.out rfl).1; have zR4 := (cell_of_block (k := 4) HR.out rfl).2; have qR5 := (cell_of_block (k := 5) HR.out rfl).1; have zR5 := (cell_of_block (k := 5) HR.out rfl).2; have qR6 := (cell_of_block (k := 6) HR.out rfl).1; have zR6 := (cell_of_block (k := 6) HR.out rfl).2; have qR7 := (cell_of_block (k := 7) HR.out rfl).1; have zR7 := (cell_of_block (k := 7) HR.out rfl).2; have qR8 := (cell_of_block (k := 8) HR.out rfl).1; have zR8 := (cell_of_block (k := 8) HR.out rfl).2; have lt_R := blk_lt HR.out
  have qP6' : w1.cell? ⟨w.heap.size, 6, none⟩ = some (.bool p.mf) := qP6
  have qP7' : w1.cell? ⟨w.heap.size, 7, none⟩ = some (.int .i64 p.off) := qP7
  have e0 : (p.off == 0) = true := by rw [H0.out]; rfl
  clear qP6 qP7
  have hM := HM.out
  generalize p.mf = mf at *
  subst hM
  go_wp2_with fail
  have HZ := stN_all [.int .i64 p.f, .int .i64 p.t, .int .i64 p.pr, .int .i64 p.ttl, .int .i64 p.id, .bool p.df, .bool false, .int .i64 p.off, .string p.s] HR.out rfl
  refine bodyPost_ret (v := .tuple #[.agg #[.int .i64 p.f, .int .i64 p.t, .int .i64 p.pr, .int .i64 p.ttl, .int .i64 p.id, .bool p.df, .bool false, .int .i64 p.off, .string p.s], .bool true, .int .i64 0]) (res_cell3 Try.results16 (by exact HZ) rfl Try.underlying30 rfl infoPkt) rfl ?_
  exact ⟨HRS.out.symm, stN_below (by simp) [.int .i64 p.f, .int .i64 p.t, .int .i64 p.pr, .int .i64 p.ttl, .int .i64 p.id, .bool p.df, .bool false, .int .i64 p.off, .string p.s] _ 0 HB.out⟩
end Go.Proofs.Ytmeldgnjgogacaa.Re
