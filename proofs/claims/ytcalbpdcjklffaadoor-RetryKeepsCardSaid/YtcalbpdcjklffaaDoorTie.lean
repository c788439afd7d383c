/-
  DERIVED. GIVEN WITH THE SEED: THE PROGRAM's TIES (one call each: nine closed facts by the kernel) AND EACH ROW's TIE, after the 31st guide's Derived/Test/Toyas{Tie, Card}.lean. No idea stands in it: it is a product of the set-up. Laid BY PROGRAM, IN A SANDBOX (cutbox-door.mjs). By AI agents, Wed Nov 11 2026. No macro, syntax, notation, axiom, sorry.
-/
import Derived.Test.YtcalbpdcjklffaaDoorRows
import Derived.LaidByTextLater
import Derived.SevenTiedAt
import Derived.LaidSub
import Derived.LaidOnce
namespace Go.Proofs.YtcalbpdcjklffaaDoor
open Go
set_option maxRecDepth 100000
theorem seatTie1 : Tryd.prog.laidByTextLater [("math/bits.deBruijn32tab", Rows.laid_math_bits_deBruijn32tab), ("math/bits.deBruijn64tab", Rows.laid_math_bits_deBruijn64tab), ("internal/strconv.uint64pow10", Rows.laid_internal_strconv_uint64pow10), ("unicode/utf8.acceptRanges", Rows.laid_unicode_utf8_acceptRanges), ("postbag/api.ErrRange", Rows.laid_postbag_api_ErrRange), ("postbag/api.ErrForm", Rows.laid_postbag_api_ErrForm), ("postbag/api.ErrLong", Rows.laid_postbag_api_ErrLong), ("postbag/api.ErrName", Rows.laid_postbag_api_ErrName), ("postbag/api.ErrNone", Rows.laid_postbag_api_ErrNone), ("postbag/api.ErrExists", Rows.laid_postbag_api_ErrExists), ("postbag/api.ErrQuota", Rows.laid_postbag_api_ErrQuota), ("postbag/api.ErrPower", Rows.laid_postbag_api_ErrPower), ("postbag/api.ErrState", Rows.laid_postbag_api_ErrState), ("postbag/api.ErrSum", Rows.laid_postbag_api_ErrSum), ("postbag/api.ErrFull", Rows.laid_postbag_api_ErrFull), ("postbag/api.ErrDepth", Rows.laid_postbag_api_ErrDepth), ("postbag/api.ErrUser", Rows.laid_postbag_api_ErrUser), ("postbag/retry.waits", Rows.laid_postbag_retry_waits)] [.data, .data, .data, .data, .sentinel, .sentinel, .sentinel, .sentinel, .sentinel, .sentinel, .sentinel, .sentinel, .sentinel, .sentinel, .sentinel, .sentinel, .sentinel, .data] true :=
  Program.laidByTextLater_by_one 286 8 65 (by kernel_rfl) (by kernel_rfl) (by kernel_rfl) (by kernel_rfl) (by kernel_rfl) (by kernel_rfl) (fun _ _ => by kernel_rfl)
theorem pin_laid_unicode_utf8_first : Tryd.pinned.checked.prog.pinnedFits "unicode/utf8.first" = true := by kernel_rfl
theorem noOwnUnsafe : Tryd.pinned.checked.prog.headLifts.contains "ownunsafe" = false := by kernel_rfl
theorem tie : Tryd.prog.laidByTextLater [("postbag/api.ErrRange", Rows.laid_postbag_api_ErrRange), ("postbag/retry.waits", Rows.laid_postbag_retry_waits)] [.sentinel, .data] true :=
  Program.laidByTextLater.sub seatTie1 ["postbag/api.ErrRange", "postbag/retry.waits"] (by kernel_rfl) (by kernel_rfl)
theorem retryEnds_row_tie : Rows.retryEndsRow.laidByTextAt .later Tryd.pinned [.sentinel, .data] true :=
  OpenClaim.laidByTextAt_later rfl rfl tie noOwnUnsafe
theorem retryDue_row_tie : Rows.retryDueRow.laidByTextAt .later Tryd.pinned [.sentinel, .data] true :=
  OpenClaim.laidByTextAt_later rfl rfl tie noOwnUnsafe
theorem tie2 : Tryd.prog.laidByTextLater [("postbag/api.ErrRange", Rows.laid_postbag_api_ErrRange), ("postbag/api.ErrForm", Rows.laid_postbag_api_ErrForm), ("postbag/api.ErrLong", Rows.laid_postbag_api_ErrLong), ("postbag/api.ErrName", Rows.laid_postbag_api_ErrName), ("postbag/api.ErrNone", Rows.laid_postbag_api_ErrNone), ("postbag/api.ErrExists", Rows.laid_postbag_api_ErrExists), ("postbag/api.ErrQuota", Rows.laid_postbag_api_ErrQuota), ("postbag/api.ErrPower", Rows.laid_postbag_api_ErrPower), ("postbag/api.ErrState", Rows.laid_postbag_api_ErrState), ("postbag/api.ErrSum", Rows.laid_postbag_api_ErrSum), ("postbag/api.ErrFull", Rows.laid_postbag_api_ErrFull), ("postbag/api.ErrDepth", Rows.laid_postbag_api_ErrDepth), ("postbag/api.ErrUser", Rows.laid_postbag_api_ErrUser), ("postbag/retry.waits", Rows.laid_postbag_retry_waits)] [.sentinel, .sentinel, .sentinel, .sentinel, .sentinel, .sentinel, .sentinel, .sentinel, .sentinel, .sentinel, .sentinel, .sentinel, .sentinel, .data] true :=
  Program.laidByTextLater.sub seatTie1 ["postbag/api.ErrRange", "postbag/api.ErrForm", "postbag/api.ErrLong", "postbag/api.ErrName", "postbag/api.ErrNone", "postbag/api.ErrExists", "postbag/api.ErrQuota", "postbag/api.ErrPower", "postbag/api.ErrState", "postbag/api.ErrSum", "postbag/api.ErrFull", "postbag/api.ErrDepth", "postbag/api.ErrUser", "postbag/retry.waits"] (by kernel_rfl) (by kernel_rfl)
theorem retryNext_row_tie : Rows.retryNextRow.laidByTextAt .later Tryd.pinned [.sentinel, .sentinel, .sentinel, .sentinel, .sentinel, .sentinel, .sentinel, .sentinel, .sentinel, .sentinel, .sentinel, .sentinel, .sentinel, .data] true :=
  OpenClaim.laidByTextAt_later rfl rfl tie2 noOwnUnsafe
theorem fits3 : Tryd.pinned.checked.prog.listedFits [("unicode/utf8.acceptRanges", Rows.laid_unicode_utf8_acceptRanges), ("postbag/api.ErrForm", Rows.laid_postbag_api_ErrForm), ("unicode/utf8.first", Rows.laid_unicode_utf8_first)] = true := by
  unfold Program.listedFits
  rw [noOwnUnsafe]
  kernel_rfl
theorem tie3 : Tryd.prog.laidByTextLater [("unicode/utf8.acceptRanges", Rows.laid_unicode_utf8_acceptRanges), ("postbag/api.ErrForm", Rows.laid_postbag_api_ErrForm)] [.data, .sentinel] true :=
  Program.laidByTextLater.sub seatTie1 ["unicode/utf8.acceptRanges", "postbag/api.ErrForm"] (by kernel_rfl) (by kernel_rfl)
theorem pathParts_row_tie : Rows.pathPartsRow.laidByTextAt .later Tryd.pinned [.data, .sentinel, .pinned] true :=
  OpenClaim.laidByTextAt_pinned rfl rfl tie3 rfl rfl rfl rfl (fun y hy _e => by
    simp only [Rows.pathPartsRow, List.zip_cons_cons, List.zip_nil_right, List.mem_cons, List.mem_nil_iff, or_false] at hy
    rcases hy with rfl | rfl | rfl
    · cases _e
    · cases _e
    · exact ⟨pin_laid_unicode_utf8_first, by kernel_rfl⟩) fits3
theorem pathDots_row_tie : Rows.pathDotsRow.laidByTextAt .later Tryd.pinned [.data, .sentinel, .pinned] true :=
  OpenClaim.laidByTextAt_pinned rfl rfl tie3 rfl rfl rfl rfl (fun y hy _e => by
    simp only [Rows.pathDotsRow, List.zip_cons_cons, List.zip_nil_right, List.mem_cons, List.mem_nil_iff, or_false] at hy
    rcases hy with rfl | rfl | rfl
    · cases _e
    · cases _e
    · exact ⟨pin_laid_unicode_utf8_first, by kernel_rfl⟩) fits3
theorem fits4 : Tryd.pinned.checked.prog.listedFits [("unicode/utf8.acceptRanges", Rows.laid_unicode_utf8_acceptRanges), ("postbag/api.ErrRange", Rows.laid_postbag_api_ErrRange), ("postbag/api.ErrForm", Rows.laid_postbag_api_ErrForm), ("postbag/api.ErrLong", Rows.laid_postbag_api_ErrLong), ("postbag/api.ErrName", Rows.laid_postbag_api_ErrName), ("postbag/api.ErrNone", Rows.laid_postbag_api_ErrNone), ("postbag/api.ErrExists", Rows.laid_postbag_api_ErrExists), ("postbag/api.ErrQuota", Rows.laid_postbag_api_ErrQuota), ("postbag/api.ErrPower", Rows.laid_postbag_api_ErrPower), ("postbag/api.ErrState", Rows.laid_postbag_api_ErrState), ("postbag/api.ErrSum", Rows.laid_postbag_api_ErrSum), ("postbag/api.ErrFull", Rows.laid_postbag_api_ErrFull), ("postbag/api.ErrDepth", Rows.laid_postbag_api_ErrDepth), ("postbag/api.ErrUser", Rows.laid_postbag_api_ErrUser), ("unicode/utf8.first", Rows.laid_unicode_utf8_first)] = true := by
  unfold Program.listedFits
  rw [noOwnUnsafe]
  kernel_rfl
theorem tie4 : Tryd.prog.laidByTextLater [("unicode/utf8.acceptRanges", Rows.laid_unicode_utf8_acceptRanges), ("postbag/api.ErrRange", Rows.laid_postbag_api_ErrRange), ("postbag/api.ErrForm", Rows.laid_postbag_api_ErrForm), ("postbag/api.ErrLong", Rows.laid_postbag_api_ErrLong), ("postbag/api.ErrName", Rows.laid_postbag_api_ErrName), ("postbag/api.ErrNone", Rows.laid_postbag_api_ErrNone), ("postbag/api.ErrExists", Rows.laid_postbag_api_ErrExists), ("postbag/api.ErrQuota", Rows.laid_postbag_api_ErrQuota), ("postbag/api.ErrPower", Rows.laid_postbag_api_ErrPower), ("postbag/api.ErrState", Rows.laid_postbag_api_ErrState), ("postbag/api.ErrSum", Rows.laid_postbag_api_ErrSum), ("postbag/api.ErrFull", Rows.laid_postbag_api_ErrFull), ("postbag/api.ErrDepth", Rows.laid_postbag_api_ErrDepth), ("postbag/api.ErrUser", Rows.laid_postbag_api_ErrUser)] [.data, .sentinel, .sentinel, .sentinel, .sentinel, .sentinel, .sentinel, .sentinel, .sentinel, .sentinel, .sentinel, .sentinel, .sentinel, .sentinel] true :=
  Program.laidByTextLater.sub seatTie1 ["unicode/utf8.acceptRanges", "postbag/api.ErrRange", "postbag/api.ErrForm", "postbag/api.ErrLong", "postbag/api.ErrName", "postbag/api.ErrNone", "postbag/api.ErrExists", "postbag/api.ErrQuota", "postbag/api.ErrPower", "postbag/api.ErrState", "postbag/api.ErrSum", "postbag/api.ErrFull", "postbag/api.ErrDepth", "postbag/api.ErrUser"] (by kernel_rfl) (by kernel_rfl)
theorem pathParses_row_tie : Rows.pathParsesRow.laidByTextAt .later Tryd.pinned [.data, .sentinel, .sentinel, .sentinel, .sentinel, .sentinel, .sentinel, .sentinel, .sentinel, .sentinel, .sentinel, .sentinel, .sentinel, .sentinel, .pinned] true :=
  OpenClaim.laidByTextAt_pinned rfl rfl tie4 rfl rfl rfl rfl (fun y hy _e => by
    simp only [Rows.pathParsesRow, List.zip_cons_cons, List.zip_nil_right, List.mem_cons, List.mem_nil_iff, or_false] at hy
    rcases hy with rfl | rfl | rfl | rfl | rfl | rfl | rfl | rfl | rfl | rfl | rfl | rfl | rfl | rfl | rfl
    · cases _e
    · cases _e
    · cases _e
    · cases _e
    · cases _e
    · cases _e
    · cases _e
    · cases _e
    · cases _e
    · cases _e
    · cases _e
    · cases _e
    · cases _e
    · cases _e
    · exact ⟨pin_laid_unicode_utf8_first, by kernel_rfl⟩) fits4
theorem pathTexts_row_tie : Rows.pathTextsRow.laidByTextAt .later Tryd.pinned [.data, .sentinel, .sentinel, .sentinel, .sentinel, .sentinel, .sentinel, .sentinel, .sentinel, .sentinel, .sentinel, .sentinel, .sentinel, .sentinel, .pinned] true :=
  OpenClaim.laidByTextAt_pinned rfl rfl tie4 rfl rfl rfl rfl (fun y hy _e => by
    simp only [Rows.pathTextsRow, List.zip_cons_cons, List.zip_nil_right, List.mem_cons, List.mem_nil_iff, or_false] at hy
    rcases hy with rfl | rfl | rfl | rfl | rfl | rfl | rfl | rfl | rfl | rfl | rfl | rfl | rfl | rfl | rfl
    · cases _e
    · cases _e
    · cases _e
    · cases _e
    · cases _e
    · cases _e
    · cases _e
    · cases _e
    · cases _e
    · cases _e
    · cases _e
    · cases _e
    · cases _e
    · cases _e
    · exact ⟨pin_laid_unicode_utf8_first, by kernel_rfl⟩) fits4
theorem fits5 : Tryd.pinned.checked.prog.listedFits [("math/bits.deBruijn32tab", Rows.laid_math_bits_deBruijn32tab), ("math/bits.deBruijn64tab", Rows.laid_math_bits_deBruijn64tab), ("internal/strconv.uint64pow10", Rows.laid_internal_strconv_uint64pow10), ("unicode/utf8.acceptRanges", Rows.laid_unicode_utf8_acceptRanges), ("postbag/api.ErrRange", Rows.laid_postbag_api_ErrRange), ("postbag/api.ErrForm", Rows.laid_postbag_api_ErrForm), ("postbag/api.ErrLong", Rows.laid_postbag_api_ErrLong), ("postbag/api.ErrName", Rows.laid_postbag_api_ErrName), ("postbag/api.ErrNone", Rows.laid_postbag_api_ErrNone), ("postbag/api.ErrExists", Rows.laid_postbag_api_ErrExists), ("postbag/api.ErrQuota", Rows.laid_postbag_api_ErrQuota), ("postbag/api.ErrPower", Rows.laid_postbag_api_ErrPower), ("postbag/api.ErrState", Rows.laid_postbag_api_ErrState), ("postbag/api.ErrSum", Rows.laid_postbag_api_ErrSum), ("postbag/api.ErrFull", Rows.laid_postbag_api_ErrFull), ("postbag/api.ErrDepth", Rows.laid_postbag_api_ErrDepth), ("postbag/api.ErrUser", Rows.laid_postbag_api_ErrUser), ("postbag/retry.waits", Rows.laid_postbag_retry_waits), ("unicode/utf8.first", Rows.laid_unicode_utf8_first)] = true := by
  unfold Program.listedFits
  rw [noOwnUnsafe]
  kernel_rfl
theorem tie5 : Tryd.prog.laidByTextLater [("math/bits.deBruijn32tab", Rows.laid_math_bits_deBruijn32tab), ("math/bits.deBruijn64tab", Rows.laid_math_bits_deBruijn64tab), ("internal/strconv.uint64pow10", Rows.laid_internal_strconv_uint64pow10), ("unicode/utf8.acceptRanges", Rows.laid_unicode_utf8_acceptRanges), ("postbag/api.ErrRange", Rows.laid_postbag_api_ErrRange), ("postbag/api.ErrForm", Rows.laid_postbag_api_ErrForm), ("postbag/api.ErrLong", Rows.laid_postbag_api_ErrLong), ("postbag/api.ErrName", Rows.laid_postbag_api_ErrName), ("postbag/api.ErrNone", Rows.laid_postbag_api_ErrNone), ("postbag/api.ErrExists", Rows.laid_postbag_api_ErrExists), ("postbag/api.ErrQuota", Rows.laid_postbag_api_ErrQuota), ("postbag/api.ErrPower", Rows.laid_postbag_api_ErrPower), ("postbag/api.ErrState", Rows.laid_postbag_api_ErrState), ("postbag/api.ErrSum", Rows.laid_postbag_api_ErrSum), ("postbag/api.ErrFull", Rows.laid_postbag_api_ErrFull), ("postbag/api.ErrDepth", Rows.laid_postbag_api_ErrDepth), ("postbag/api.ErrUser", Rows.laid_postbag_api_ErrUser), ("postbag/retry.waits", Rows.laid_postbag_retry_waits)] [.data, .data, .data, .data, .sentinel, .sentinel, .sentinel, .sentinel, .sentinel, .sentinel, .sentinel, .sentinel, .sentinel, .sentinel, .sentinel, .sentinel, .sentinel, .data] true :=
  Program.laidByTextLater.sub seatTie1 ["math/bits.deBruijn32tab", "math/bits.deBruijn64tab", "internal/strconv.uint64pow10", "unicode/utf8.acceptRanges", "postbag/api.ErrRange", "postbag/api.ErrForm", "postbag/api.ErrLong", "postbag/api.ErrName", "postbag/api.ErrNone", "postbag/api.ErrExists", "postbag/api.ErrQuota", "postbag/api.ErrPower", "postbag/api.ErrState", "postbag/api.ErrSum", "postbag/api.ErrFull", "postbag/api.ErrDepth", "postbag/api.ErrUser", "postbag/retry.waits"] (by kernel_rfl) (by kernel_rfl)
theorem retryStamps_row_tie : Rows.retryStampsRow.laidByTextAt .later Tryd.pinned [.data, .data, .data, .data, .sentinel, .sentinel, .sentinel, .sentinel, .sentinel, .sentinel, .sentinel, .sentinel, .sentinel, .sentinel, .sentinel, .sentinel, .sentinel, .data, .pinned] true :=
  OpenClaim.laidByTextAt_pinned rfl rfl tie5 rfl rfl rfl rfl (fun y hy _e => by
    simp only [Rows.retryStampsRow, List.zip_cons_cons, List.zip_nil_right, List.mem_cons, List.mem_nil_iff, or_false] at hy
    rcases hy with rfl | rfl | rfl | rfl | rfl | rfl | rfl | rfl | rfl | rfl | rfl | rfl | rfl | rfl | rfl | rfl | rfl | rfl | rfl
    · cases _e
    · cases _e
    · cases _e
    · cases _e
    · cases _e
    · cases _e
    · cases _e
    · cases _e
    · cases _e
    · cases _e
    · cases _e
    · cases _e
    · cases _e
    · cases _e
    · cases _e
    · cases _e
    · cases _e
    · cases _e
    · exact ⟨pin_laid_unicode_utf8_first, by kernel_rfl⟩) fits5
theorem fits6 : Tryd.pinned.checked.prog.listedFits [("math/bits.deBruijn32tab", Rows.laid_math_bits_deBruijn32tab), ("math/bits.deBruijn64tab", Rows.laid_math_bits_deBruijn64tab), ("internal/strconv.uint64pow10", Rows.laid_internal_strconv_uint64pow10), ("unicode/utf8.acceptRanges", Rows.laid_unicode_utf8_acceptRanges), ("postbag/api.ErrRange", Rows.laid_postbag_api_ErrRange), ("postbag/api.ErrForm", Rows.laid_postbag_api_ErrForm), ("postbag/api.ErrName", Rows.laid_postbag_api_ErrName), ("postbag/retry.waits", Rows.laid_postbag_retry_waits), ("unicode/utf8.first", Rows.laid_unicode_utf8_first)] = true := by
  unfold Program.listedFits
  rw [noOwnUnsafe]
  kernel_rfl
theorem tie6 : Tryd.prog.laidByTextLater [("math/bits.deBruijn32tab", Rows.laid_math_bits_deBruijn32tab), ("math/bits.deBruijn64tab", Rows.laid_math_bits_deBruijn64tab), ("internal/strconv.uint64pow10", Rows.laid_internal_strconv_uint64pow10), ("unicode/utf8.acceptRanges", Rows.laid_unicode_utf8_acceptRanges), ("postbag/api.ErrRange", Rows.laid_postbag_api_ErrRange), ("postbag/api.ErrForm", Rows.laid_postbag_api_ErrForm), ("postbag/api.ErrName", Rows.laid_postbag_api_ErrName), ("postbag/retry.waits", Rows.laid_postbag_retry_waits)] [.data, .data, .data, .data, .sentinel, .sentinel, .sentinel, .data] true :=
  Program.laidByTextLater.sub seatTie1 ["math/bits.deBruijn32tab", "math/bits.deBruijn64tab", "internal/strconv.uint64pow10", "unicode/utf8.acceptRanges", "postbag/api.ErrRange", "postbag/api.ErrForm", "postbag/api.ErrName", "postbag/retry.waits"] (by kernel_rfl) (by kernel_rfl)
theorem retryKeeps_row_tie : Rows.retryKeepsRow.laidByTextAt .later Tryd.pinned [.data, .data, .data, .data, .sentinel, .sentinel, .sentinel, .data, .pinned] true :=
  OpenClaim.laidByTextAt_pinned rfl rfl tie6 rfl rfl rfl rfl (fun y hy _e => by
    simp only [Rows.retryKeepsRow, List.zip_cons_cons, List.zip_nil_right, List.mem_cons, List.mem_nil_iff, or_false] at hy
    rcases hy with rfl | rfl | rfl | rfl | rfl | rfl | rfl | rfl | rfl
    · cases _e
    · cases _e
    · cases _e
    · cases _e
    · cases _e
    · cases _e
    · cases _e
    · cases _e
    · exact ⟨pin_laid_unicode_utf8_first, by kernel_rfl⟩) fits6
theorem retryEndsUpto_row_tie : Rows.retryEndsUptoRow.laidByTextAt .later Tryd.pinned [.sentinel, .data] true :=
  OpenClaim.laidByTextAt_later rfl rfl tie noOwnUnsafe
theorem retryDueUpto_row_tie : Rows.retryDueUptoRow.laidByTextAt .later Tryd.pinned [.sentinel, .data] true :=
  OpenClaim.laidByTextAt_later rfl rfl tie noOwnUnsafe
theorem retryNextUpto_row_tie : Rows.retryNextUptoRow.laidByTextAt .later Tryd.pinned [.sentinel, .sentinel, .sentinel, .sentinel, .sentinel, .sentinel, .sentinel, .sentinel, .sentinel, .sentinel, .sentinel, .sentinel, .sentinel, .data] true :=
  OpenClaim.laidByTextAt_later rfl rfl tie2 noOwnUnsafe
theorem pathPartsUpto_row_tie : Rows.pathPartsUptoRow.laidByTextAt .later Tryd.pinned [.data, .sentinel, .pinned] true :=
  OpenClaim.laidByTextAt_pinned rfl rfl tie3 rfl rfl rfl rfl (fun y hy _e => by
    simp only [Rows.pathPartsUptoRow, List.zip_cons_cons, List.zip_nil_right, List.mem_cons, List.mem_nil_iff, or_false] at hy
    rcases hy with rfl | rfl | rfl
    · cases _e
    · cases _e
    · exact ⟨pin_laid_unicode_utf8_first, by kernel_rfl⟩) fits3
theorem pathDotsUpto_row_tie : Rows.pathDotsUptoRow.laidByTextAt .later Tryd.pinned [.data, .sentinel, .pinned] true :=
  OpenClaim.laidByTextAt_pinned rfl rfl tie3 rfl rfl rfl rfl (fun y hy _e => by
    simp only [Rows.pathDotsUptoRow, List.zip_cons_cons, List.zip_nil_right, List.mem_cons, List.mem_nil_iff, or_false] at hy
    rcases hy with rfl | rfl | rfl
    · cases _e
    · cases _e
    · exact ⟨pin_laid_unicode_utf8_first, by kernel_rfl⟩) fits3
theorem pathParsesUpto_row_tie : Rows.pathParsesUptoRow.laidByTextAt .later Tryd.pinned [.data, .sentinel, .sentinel, .sentinel, .sentinel, .sentinel, .sentinel, .sentinel, .sentinel, .sentinel, .sentinel, .sentinel, .sentinel, .sentinel, .pinned] true :=
  OpenClaim.laidByTextAt_pinned rfl rfl tie4 rfl rfl rfl rfl (fun y hy _e => by
    simp only [Rows.pathParsesUptoRow, List.zip_cons_cons, List.zip_nil_right, List.mem_cons, List.mem_nil_iff, or_false] at hy
    rcases hy with rfl | rfl | rfl | rfl | rfl | rfl | rfl | rfl | rfl | rfl | rfl | rfl | rfl | rfl | rfl
    · cases _e
    · cases _e
    · cases _e
    · cases _e
    · cases _e
    · cases _e
    · cases _e
    · cases _e
    · cases _e
    · cases _e
    · cases _e
    · cases _e
    · cases _e
    · cases _e
    · exact ⟨pin_laid_unicode_utf8_first, by kernel_rfl⟩) fits4
theorem pathTextsUpto_row_tie : Rows.pathTextsUptoRow.laidByTextAt .later Tryd.pinned [.data, .sentinel, .sentinel, .sentinel, .sentinel, .sentinel, .sentinel, .sentinel, .sentinel, .sentinel, .sentinel, .sentinel, .sentinel, .sentinel, .pinned] true :=
  OpenClaim.laidByTextAt_pinned rfl rfl tie4 rfl rfl rfl rfl (fun y hy _e => by
    simp only [Rows.pathTextsUptoRow, List.zip_cons_cons, List.zip_nil_right, List.mem_cons, List.mem_nil_iff, or_false] at hy
    rcases hy with rfl | rfl | rfl | rfl | rfl | rfl | rfl | rfl | rfl | rfl | rfl | rfl | rfl | rfl | rfl
    · cases _e
    · cases _e
    · cases _e
    · cases _e
    · cases _e
    · cases _e
    · cases _e
    · cases _e
    · cases _e
    · cases _e
    · cases _e
    · cases _e
    · cases _e
    · cases _e
    · exact ⟨pin_laid_unicode_utf8_first, by kernel_rfl⟩) fits4
theorem retryStampsUpto_row_tie : Rows.retryStampsUptoRow.laidByTextAt .later Tryd.pinned [.data, .data, .data, .data, .sentinel, .sentinel, .sentinel, .sentinel, .sentinel, .sentinel, .sentinel, .sentinel, .sentinel, .sentinel, .sentinel, .sentinel, .sentinel, .data, .pinned] true :=
  OpenClaim.laidByTextAt_pinned rfl rfl tie5 rfl rfl rfl rfl (fun y hy _e => by
    simp only [Rows.retryStampsUptoRow, List.zip_cons_cons, List.zip_nil_right, List.mem_cons, List.mem_nil_iff, or_false] at hy
    rcases hy with rfl | rfl | rfl | rfl | rfl | rfl | rfl | rfl | rfl | rfl | rfl | rfl | rfl | rfl | rfl | rfl | rfl | rfl | rfl
    · cases _e
    · cases _e
    · cases _e
    · cases _e
    · cases _e
    · cases _e
    · cases _e
    · cases _e
    · cases _e
    · cases _e
    · cases _e
    · cases _e
    · cases _e
    · cases _e
    · cases _e
    · cases _e
    · cases _e
    · cases _e
    · exact ⟨pin_laid_unicode_utf8_first, by kernel_rfl⟩) fits5
theorem retryKeepsUpto_row_tie : Rows.retryKeepsUptoRow.laidByTextAt .later Tryd.pinned [.data, .data, .data, .data, .sentinel, .sentinel, .sentinel, .data, .pinned] true :=
  OpenClaim.laidByTextAt_pinned rfl rfl tie6 rfl rfl rfl rfl (fun y hy _e => by
    simp only [Rows.retryKeepsUptoRow, List.zip_cons_cons, List.zip_nil_right, List.mem_cons, List.mem_nil_iff, or_false] at hy
    rcases hy with rfl | rfl | rfl | rfl | rfl | rfl | rfl | rfl | rfl
    · cases _e
    · cases _e
    · cases _e
    · cases _e
    · cases _e
    · cases _e
    · cases _e
    · cases _e
    · exact ⟨pin_laid_unicode_utf8_first, by kernel_rfl⟩) fits6
end Go.Proofs.YtcalbpdcjklffaaDoor
