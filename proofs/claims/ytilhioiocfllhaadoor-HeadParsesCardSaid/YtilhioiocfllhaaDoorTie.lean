/-
  DERIVED. GIVEN WITH THE SEED: THE PROGRAM's TIES (one call each: nine closed facts by the kernel) AND EACH ROW's TIE, after the 31st guide's Derived/Test/Toyas{Tie, Card}.lean. No idea stands in it: it is a product of the set-up. Laid BY PROGRAM, IN A SANDBOX (cutbox-door.mjs). By AI agents, Wed Nov 11 2026. No macro, syntax, notation, axiom, sorry.
-/
import Derived.Test.YtilhioiocfllhaaDoorRows
import Derived.LaidByTextLater
import Derived.SevenTiedAt
import Derived.LaidSub
import Derived.LaidOnce
namespace Go.Proofs.YtilhioiocfllhaaDoor
open Go
set_option maxRecDepth 100000
theorem seatTie1 : Tryd.prog.laidByTextLater [("unicode/utf8.acceptRanges", Rows.laid_unicode_utf8_acceptRanges), ("linkboy/api.ErrRange", Rows.laid_linkboy_api_ErrRange), ("linkboy/api.ErrShort", Rows.laid_linkboy_api_ErrShort), ("linkboy/api.ErrLong", Rows.laid_linkboy_api_ErrLong), ("linkboy/api.ErrForm", Rows.laid_linkboy_api_ErrForm), ("linkboy/api.ErrSum", Rows.laid_linkboy_api_ErrSum), ("linkboy/api.ErrName", Rows.laid_linkboy_api_ErrName), ("linkboy/api.ErrKind", Rows.laid_linkboy_api_ErrKind), ("linkboy/api.ErrAddress", Rows.laid_linkboy_api_ErrAddress), ("linkboy/api.ErrVersion", Rows.laid_linkboy_api_ErrVersion), ("linkboy/api.ErrStale", Rows.laid_linkboy_api_ErrStale), ("linkboy/api.ErrNone", Rows.laid_linkboy_api_ErrNone), ("linkboy/api.ErrDup", Rows.laid_linkboy_api_ErrDup), ("linkboy/api.ErrFull", Rows.laid_linkboy_api_ErrFull), ("linkboy/api.ErrFail", Rows.laid_linkboy_api_ErrFail), ("linkboy/api.ErrState", Rows.laid_linkboy_api_ErrState), ("linkboy/api.ErrDown", Rows.laid_linkboy_api_ErrDown), ("linkboy/api.ErrProto", Rows.laid_linkboy_api_ErrProto), ("linkboy/api.ErrIndex", Rows.laid_linkboy_api_ErrIndex)] [.data, .sentinel, .sentinel, .sentinel, .sentinel, .sentinel, .sentinel, .sentinel, .sentinel, .sentinel, .sentinel, .sentinel, .sentinel, .sentinel, .sentinel, .sentinel, .sentinel, .sentinel, .sentinel] true :=
  Program.laidByTextLater_by_one 361 8 33 (by kernel_rfl) (by kernel_rfl) (by kernel_rfl) (by kernel_rfl) (by kernel_rfl) (by kernel_rfl) (fun _ _ => by kernel_rfl)
theorem pin_laid_unicode_utf8_first : Tryd.pinned.checked.prog.pinnedFits "unicode/utf8.first" = true := by kernel_rfl
theorem noOwnUnsafe : Tryd.pinned.checked.prog.headLifts.contains "ownunsafe" = false := by kernel_rfl
theorem tie : Tryd.prog.laidByTextLater [("linkboy/api.ErrRange", Rows.laid_linkboy_api_ErrRange), ("linkboy/api.ErrShort", Rows.laid_linkboy_api_ErrShort), ("linkboy/api.ErrLong", Rows.laid_linkboy_api_ErrLong), ("linkboy/api.ErrForm", Rows.laid_linkboy_api_ErrForm), ("linkboy/api.ErrSum", Rows.laid_linkboy_api_ErrSum), ("linkboy/api.ErrName", Rows.laid_linkboy_api_ErrName), ("linkboy/api.ErrKind", Rows.laid_linkboy_api_ErrKind), ("linkboy/api.ErrAddress", Rows.laid_linkboy_api_ErrAddress), ("linkboy/api.ErrVersion", Rows.laid_linkboy_api_ErrVersion), ("linkboy/api.ErrStale", Rows.laid_linkboy_api_ErrStale), ("linkboy/api.ErrNone", Rows.laid_linkboy_api_ErrNone), ("linkboy/api.ErrDup", Rows.laid_linkboy_api_ErrDup), ("linkboy/api.ErrFull", Rows.laid_linkboy_api_ErrFull), ("linkboy/api.ErrFail", Rows.laid_linkboy_api_ErrFail), ("linkboy/api.ErrState", Rows.laid_linkboy_api_ErrState), ("linkboy/api.ErrDown", Rows.laid_linkboy_api_ErrDown), ("linkboy/api.ErrProto", Rows.laid_linkboy_api_ErrProto), ("linkboy/api.ErrIndex", Rows.laid_linkboy_api_ErrIndex)] [.sentinel, .sentinel, .sentinel, .sentinel, .sentinel, .sentinel, .sentinel, .sentinel, .sentinel, .sentinel, .sentinel, .sentinel, .sentinel, .sentinel, .sentinel, .sentinel, .sentinel, .sentinel] true :=
  Program.laidByTextLater.sub seatTie1 ["linkboy/api.ErrRange", "linkboy/api.ErrShort", "linkboy/api.ErrLong", "linkboy/api.ErrForm", "linkboy/api.ErrSum", "linkboy/api.ErrName", "linkboy/api.ErrKind", "linkboy/api.ErrAddress", "linkboy/api.ErrVersion", "linkboy/api.ErrStale", "linkboy/api.ErrNone", "linkboy/api.ErrDup", "linkboy/api.ErrFull", "linkboy/api.ErrFail", "linkboy/api.ErrState", "linkboy/api.ErrDown", "linkboy/api.ErrProto", "linkboy/api.ErrIndex"] (by kernel_rfl) (by kernel_rfl)
theorem octetsWrites_row_tie : Rows.octetsWritesRow.laidByTextAt .later Tryd.pinned [.sentinel, .sentinel, .sentinel, .sentinel, .sentinel, .sentinel, .sentinel, .sentinel, .sentinel, .sentinel, .sentinel, .sentinel, .sentinel, .sentinel, .sentinel, .sentinel, .sentinel, .sentinel] true :=
  OpenClaim.laidByTextAt_later rfl rfl tie noOwnUnsafe
theorem headParses_row_tie : Rows.headParsesRow.laidByTextAt .later Tryd.pinned [.sentinel, .sentinel, .sentinel, .sentinel, .sentinel, .sentinel, .sentinel, .sentinel, .sentinel, .sentinel, .sentinel, .sentinel, .sentinel, .sentinel, .sentinel, .sentinel, .sentinel, .sentinel] true :=
  OpenClaim.laidByTextAt_later rfl rfl tie noOwnUnsafe
theorem tie2 : Tryd.prog.laidByTextLater [("linkboy/api.ErrRange", Rows.laid_linkboy_api_ErrRange), ("linkboy/api.ErrShort", Rows.laid_linkboy_api_ErrShort), ("linkboy/api.ErrLong", Rows.laid_linkboy_api_ErrLong), ("linkboy/api.ErrForm", Rows.laid_linkboy_api_ErrForm)] [.sentinel, .sentinel, .sentinel, .sentinel] true :=
  Program.laidByTextLater.sub seatTie1 ["linkboy/api.ErrRange", "linkboy/api.ErrShort", "linkboy/api.ErrLong", "linkboy/api.ErrForm"] (by kernel_rfl) (by kernel_rfl)
theorem octetsBack_row_tie : Rows.octetsBackRow.laidByTextAt .later Tryd.pinned [.sentinel, .sentinel, .sentinel, .sentinel] true :=
  OpenClaim.laidByTextAt_later rfl rfl tie2 noOwnUnsafe
theorem fits3 : Tryd.pinned.checked.prog.listedFits [("unicode/utf8.acceptRanges", Rows.laid_unicode_utf8_acceptRanges), ("linkboy/api.ErrRange", Rows.laid_linkboy_api_ErrRange), ("linkboy/api.ErrShort", Rows.laid_linkboy_api_ErrShort), ("linkboy/api.ErrLong", Rows.laid_linkboy_api_ErrLong), ("linkboy/api.ErrForm", Rows.laid_linkboy_api_ErrForm), ("linkboy/api.ErrSum", Rows.laid_linkboy_api_ErrSum), ("linkboy/api.ErrName", Rows.laid_linkboy_api_ErrName), ("linkboy/api.ErrKind", Rows.laid_linkboy_api_ErrKind), ("linkboy/api.ErrAddress", Rows.laid_linkboy_api_ErrAddress), ("linkboy/api.ErrVersion", Rows.laid_linkboy_api_ErrVersion), ("linkboy/api.ErrStale", Rows.laid_linkboy_api_ErrStale), ("linkboy/api.ErrNone", Rows.laid_linkboy_api_ErrNone), ("linkboy/api.ErrDup", Rows.laid_linkboy_api_ErrDup), ("linkboy/api.ErrFull", Rows.laid_linkboy_api_ErrFull), ("linkboy/api.ErrFail", Rows.laid_linkboy_api_ErrFail), ("linkboy/api.ErrState", Rows.laid_linkboy_api_ErrState), ("linkboy/api.ErrDown", Rows.laid_linkboy_api_ErrDown), ("linkboy/api.ErrProto", Rows.laid_linkboy_api_ErrProto), ("linkboy/api.ErrIndex", Rows.laid_linkboy_api_ErrIndex), ("unicode/utf8.first", Rows.laid_unicode_utf8_first)] = true := by
  unfold Program.listedFits
  rw [noOwnUnsafe]
  kernel_rfl
theorem tie3 : Tryd.prog.laidByTextLater [("unicode/utf8.acceptRanges", Rows.laid_unicode_utf8_acceptRanges), ("linkboy/api.ErrRange", Rows.laid_linkboy_api_ErrRange), ("linkboy/api.ErrShort", Rows.laid_linkboy_api_ErrShort), ("linkboy/api.ErrLong", Rows.laid_linkboy_api_ErrLong), ("linkboy/api.ErrForm", Rows.laid_linkboy_api_ErrForm), ("linkboy/api.ErrSum", Rows.laid_linkboy_api_ErrSum), ("linkboy/api.ErrName", Rows.laid_linkboy_api_ErrName), ("linkboy/api.ErrKind", Rows.laid_linkboy_api_ErrKind), ("linkboy/api.ErrAddress", Rows.laid_linkboy_api_ErrAddress), ("linkboy/api.ErrVersion", Rows.laid_linkboy_api_ErrVersion), ("linkboy/api.ErrStale", Rows.laid_linkboy_api_ErrStale), ("linkboy/api.ErrNone", Rows.laid_linkboy_api_ErrNone), ("linkboy/api.ErrDup", Rows.laid_linkboy_api_ErrDup), ("linkboy/api.ErrFull", Rows.laid_linkboy_api_ErrFull), ("linkboy/api.ErrFail", Rows.laid_linkboy_api_ErrFail), ("linkboy/api.ErrState", Rows.laid_linkboy_api_ErrState), ("linkboy/api.ErrDown", Rows.laid_linkboy_api_ErrDown), ("linkboy/api.ErrProto", Rows.laid_linkboy_api_ErrProto), ("linkboy/api.ErrIndex", Rows.laid_linkboy_api_ErrIndex)] [.data, .sentinel, .sentinel, .sentinel, .sentinel, .sentinel, .sentinel, .sentinel, .sentinel, .sentinel, .sentinel, .sentinel, .sentinel, .sentinel, .sentinel, .sentinel, .sentinel, .sentinel, .sentinel] true :=
  Program.laidByTextLater.sub seatTie1 ["unicode/utf8.acceptRanges", "linkboy/api.ErrRange", "linkboy/api.ErrShort", "linkboy/api.ErrLong", "linkboy/api.ErrForm", "linkboy/api.ErrSum", "linkboy/api.ErrName", "linkboy/api.ErrKind", "linkboy/api.ErrAddress", "linkboy/api.ErrVersion", "linkboy/api.ErrStale", "linkboy/api.ErrNone", "linkboy/api.ErrDup", "linkboy/api.ErrFull", "linkboy/api.ErrFail", "linkboy/api.ErrState", "linkboy/api.ErrDown", "linkboy/api.ErrProto", "linkboy/api.ErrIndex"] (by kernel_rfl) (by kernel_rfl)
theorem headBuilds_row_tie : Rows.headBuildsRow.laidByTextAt .later Tryd.pinned [.data, .sentinel, .sentinel, .sentinel, .sentinel, .sentinel, .sentinel, .sentinel, .sentinel, .sentinel, .sentinel, .sentinel, .sentinel, .sentinel, .sentinel, .sentinel, .sentinel, .sentinel, .sentinel, .pinned] true :=
  OpenClaim.laidByTextAt_pinned rfl rfl tie3 rfl rfl rfl rfl (fun y hy _e => by
    simp only [Rows.headBuildsRow, List.zip_cons_cons, List.zip_nil_right, List.mem_cons, List.mem_nil_iff, or_false] at hy
    rcases hy with rfl | rfl | rfl | rfl | rfl | rfl | rfl | rfl | rfl | rfl | rfl | rfl | rfl | rfl | rfl | rfl | rfl | rfl | rfl | rfl
    · cases _e
    · cases _e
    · cases _e
    · cases _e
    · cases _e
    · cases _e
    · cases _e
    · cases _e
    · cases _e
    · cases _e
    · cases _e
    · cases _e
    · cases _e
    · cases _e
    · cases _e
    · cases _e
    · cases _e
    · cases _e
    · cases _e
    · exact ⟨pin_laid_unicode_utf8_first, by kernel_rfl⟩) fits3
theorem headBent_row_tie : Rows.headBentRow.laidByTextAt .later Tryd.pinned [.data, .sentinel, .sentinel, .sentinel, .sentinel, .sentinel, .sentinel, .sentinel, .sentinel, .sentinel, .sentinel, .sentinel, .sentinel, .sentinel, .sentinel, .sentinel, .sentinel, .sentinel, .sentinel, .pinned] true :=
  OpenClaim.laidByTextAt_pinned rfl rfl tie3 rfl rfl rfl rfl (fun y hy _e => by
    simp only [Rows.headBentRow, List.zip_cons_cons, List.zip_nil_right, List.mem_cons, List.mem_nil_iff, or_false] at hy
    rcases hy with rfl | rfl | rfl | rfl | rfl | rfl | rfl | rfl | rfl | rfl | rfl | rfl | rfl | rfl | rfl | rfl | rfl | rfl | rfl | rfl
    · cases _e
    · cases _e
    · cases _e
    · cases _e
    · cases _e
    · cases _e
    · cases _e
    · cases _e
    · cases _e
    · cases _e
    · cases _e
    · cases _e
    · cases _e
    · cases _e
    · cases _e
    · cases _e
    · cases _e
    · cases _e
    · cases _e
    · exact ⟨pin_laid_unicode_utf8_first, by kernel_rfl⟩) fits3
theorem natEnds_row_tie : Rows.natEndsRow.laidByTextAt .later Tryd.pinned [.data, .sentinel, .sentinel, .sentinel, .sentinel, .sentinel, .sentinel, .sentinel, .sentinel, .sentinel, .sentinel, .sentinel, .sentinel, .sentinel, .sentinel, .sentinel, .sentinel, .sentinel, .sentinel, .pinned] true :=
  OpenClaim.laidByTextAt_pinned rfl rfl tie3 rfl rfl rfl rfl (fun y hy _e => by
    simp only [Rows.natEndsRow, List.zip_cons_cons, List.zip_nil_right, List.mem_cons, List.mem_nil_iff, or_false] at hy
    rcases hy with rfl | rfl | rfl | rfl | rfl | rfl | rfl | rfl | rfl | rfl | rfl | rfl | rfl | rfl | rfl | rfl | rfl | rfl | rfl | rfl
    · cases _e
    · cases _e
    · cases _e
    · cases _e
    · cases _e
    · cases _e
    · cases _e
    · cases _e
    · cases _e
    · cases _e
    · cases _e
    · cases _e
    · cases _e
    · cases _e
    · cases _e
    · cases _e
    · cases _e
    · cases _e
    · cases _e
    · exact ⟨pin_laid_unicode_utf8_first, by kernel_rfl⟩) fits3
theorem natRight_row_tie : Rows.natRightRow.laidByTextAt .later Tryd.pinned [.data, .sentinel, .sentinel, .sentinel, .sentinel, .sentinel, .sentinel, .sentinel, .sentinel, .sentinel, .sentinel, .sentinel, .sentinel, .sentinel, .sentinel, .sentinel, .sentinel, .sentinel, .sentinel, .pinned] true :=
  OpenClaim.laidByTextAt_pinned rfl rfl tie3 rfl rfl rfl rfl (fun y hy _e => by
    simp only [Rows.natRightRow, List.zip_cons_cons, List.zip_nil_right, List.mem_cons, List.mem_nil_iff, or_false] at hy
    rcases hy with rfl | rfl | rfl | rfl | rfl | rfl | rfl | rfl | rfl | rfl | rfl | rfl | rfl | rfl | rfl | rfl | rfl | rfl | rfl | rfl
    · cases _e
    · cases _e
    · cases _e
    · cases _e
    · cases _e
    · cases _e
    · cases _e
    · cases _e
    · cases _e
    · cases _e
    · cases _e
    · cases _e
    · cases _e
    · cases _e
    · cases _e
    · cases _e
    · cases _e
    · cases _e
    · cases _e
    · exact ⟨pin_laid_unicode_utf8_first, by kernel_rfl⟩) fits3
theorem natBoth_row_tie : Rows.natBothRow.laidByTextAt .later Tryd.pinned [.data, .sentinel, .sentinel, .sentinel, .sentinel, .sentinel, .sentinel, .sentinel, .sentinel, .sentinel, .sentinel, .sentinel, .sentinel, .sentinel, .sentinel, .sentinel, .sentinel, .sentinel, .sentinel, .pinned] true :=
  OpenClaim.laidByTextAt_pinned rfl rfl tie3 rfl rfl rfl rfl (fun y hy _e => by
    simp only [Rows.natBothRow, List.zip_cons_cons, List.zip_nil_right, List.mem_cons, List.mem_nil_iff, or_false] at hy
    rcases hy with rfl | rfl | rfl | rfl | rfl | rfl | rfl | rfl | rfl | rfl | rfl | rfl | rfl | rfl | rfl | rfl | rfl | rfl | rfl | rfl
    · cases _e
    · cases _e
    · cases _e
    · cases _e
    · cases _e
    · cases _e
    · cases _e
    · cases _e
    · cases _e
    · cases _e
    · cases _e
    · cases _e
    · cases _e
    · cases _e
    · cases _e
    · cases _e
    · cases _e
    · cases _e
    · cases _e
    · exact ⟨pin_laid_unicode_utf8_first, by kernel_rfl⟩) fits3
theorem octetsWritesUpto_row_tie : Rows.octetsWritesUptoRow.laidByTextAt .later Tryd.pinned [.sentinel, .sentinel, .sentinel, .sentinel, .sentinel, .sentinel, .sentinel, .sentinel, .sentinel, .sentinel, .sentinel, .sentinel, .sentinel, .sentinel, .sentinel, .sentinel, .sentinel, .sentinel] true :=
  OpenClaim.laidByTextAt_later rfl rfl tie noOwnUnsafe
theorem octetsBackUpto_row_tie : Rows.octetsBackUptoRow.laidByTextAt .later Tryd.pinned [.sentinel, .sentinel, .sentinel, .sentinel] true :=
  OpenClaim.laidByTextAt_later rfl rfl tie2 noOwnUnsafe
theorem headParsesUpto_row_tie : Rows.headParsesUptoRow.laidByTextAt .later Tryd.pinned [.sentinel, .sentinel, .sentinel, .sentinel, .sentinel, .sentinel, .sentinel, .sentinel, .sentinel, .sentinel, .sentinel, .sentinel, .sentinel, .sentinel, .sentinel, .sentinel, .sentinel, .sentinel] true :=
  OpenClaim.laidByTextAt_later rfl rfl tie noOwnUnsafe
theorem headBuildsUpto_row_tie : Rows.headBuildsUptoRow.laidByTextAt .later Tryd.pinned [.data, .sentinel, .sentinel, .sentinel, .sentinel, .sentinel, .sentinel, .sentinel, .sentinel, .sentinel, .sentinel, .sentinel, .sentinel, .sentinel, .sentinel, .sentinel, .sentinel, .sentinel, .sentinel, .pinned] true :=
  OpenClaim.laidByTextAt_pinned rfl rfl tie3 rfl rfl rfl rfl (fun y hy _e => by
    simp only [Rows.headBuildsUptoRow, List.zip_cons_cons, List.zip_nil_right, List.mem_cons, List.mem_nil_iff, or_false] at hy
    rcases hy with rfl | rfl | rfl | rfl | rfl | rfl | rfl | rfl | rfl | rfl | rfl | rfl | rfl | rfl | rfl | rfl | rfl | rfl | rfl | rfl
    · cases _e
    · cases _e
    · cases _e
    · cases _e
    · cases _e
    · cases _e
    · cases _e
    · cases _e
    · cases _e
    · cases _e
    · cases _e
    · cases _e
    · cases _e
    · cases _e
    · cases _e
    · cases _e
    · cases _e
    · cases _e
    · cases _e
    · exact ⟨pin_laid_unicode_utf8_first, by kernel_rfl⟩) fits3
theorem headBentUpto_row_tie : Rows.headBentUptoRow.laidByTextAt .later Tryd.pinned [.data, .sentinel, .sentinel, .sentinel, .sentinel, .sentinel, .sentinel, .sentinel, .sentinel, .sentinel, .sentinel, .sentinel, .sentinel, .sentinel, .sentinel, .sentinel, .sentinel, .sentinel, .sentinel, .pinned] true :=
  OpenClaim.laidByTextAt_pinned rfl rfl tie3 rfl rfl rfl rfl (fun y hy _e => by
    simp only [Rows.headBentUptoRow, List.zip_cons_cons, List.zip_nil_right, List.mem_cons, List.mem_nil_iff, or_false] at hy
    rcases hy with rfl | rfl | rfl | rfl | rfl | rfl | rfl | rfl | rfl | rfl | rfl | rfl | rfl | rfl | rfl | rfl | rfl | rfl | rfl | rfl
    · cases _e
    · cases _e
    · cases _e
    · cases _e
    · cases _e
    · cases _e
    · cases _e
    · cases _e
    · cases _e
    · cases _e
    · cases _e
    · cases _e
    · cases _e
    · cases _e
    · cases _e
    · cases _e
    · cases _e
    · cases _e
    · cases _e
    · exact ⟨pin_laid_unicode_utf8_first, by kernel_rfl⟩) fits3
theorem natEndsUpto_row_tie : Rows.natEndsUptoRow.laidByTextAt .later Tryd.pinned [.data, .sentinel, .sentinel, .sentinel, .sentinel, .sentinel, .sentinel, .sentinel, .sentinel, .sentinel, .sentinel, .sentinel, .sentinel, .sentinel, .sentinel, .sentinel, .sentinel, .sentinel, .sentinel, .pinned] true :=
  OpenClaim.laidByTextAt_pinned rfl rfl tie3 rfl rfl rfl rfl (fun y hy _e => by
    simp only [Rows.natEndsUptoRow, List.zip_cons_cons, List.zip_nil_right, List.mem_cons, List.mem_nil_iff, or_false] at hy
    rcases hy with rfl | rfl | rfl | rfl | rfl | rfl | rfl | rfl | rfl | rfl | rfl | rfl | rfl | rfl | rfl | rfl | rfl | rfl | rfl | rfl
    · cases _e
    · cases _e
    · cases _e
    · cases _e
    · cases _e
    · cases _e
    · cases _e
    · cases _e
    · cases _e
    · cases _e
    · cases _e
    · cases _e
    · cases _e
    · cases _e
    · cases _e
    · cases _e
    · cases _e
    · cases _e
    · cases _e
    · exact ⟨pin_laid_unicode_utf8_first, by kernel_rfl⟩) fits3
theorem natRightUpto_row_tie : Rows.natRightUptoRow.laidByTextAt .later Tryd.pinned [.data, .sentinel, .sentinel, .sentinel, .sentinel, .sentinel, .sentinel, .sentinel, .sentinel, .sentinel, .sentinel, .sentinel, .sentinel, .sentinel, .sentinel, .sentinel, .sentinel, .sentinel, .sentinel, .pinned] true :=
  OpenClaim.laidByTextAt_pinned rfl rfl tie3 rfl rfl rfl rfl (fun y hy _e => by
    simp only [Rows.natRightUptoRow, List.zip_cons_cons, List.zip_nil_right, List.mem_cons, List.mem_nil_iff, or_false] at hy
    rcases hy with rfl | rfl | rfl | rfl | rfl | rfl | rfl | rfl | rfl | rfl | rfl | rfl | rfl | rfl | rfl | rfl | rfl | rfl | rfl | rfl
    · cases _e
    · cases _e
    · cases _e
    · cases _e
    · cases _e
    · cases _e
    · cases _e
    · cases _e
    · cases _e
    · cases _e
    · cases _e
    · cases _e
    · cases _e
    · cases _e
    · cases _e
    · cases _e
    · cases _e
    · cases _e
    · cases _e
    · exact ⟨pin_laid_unicode_utf8_first, by kernel_rfl⟩) fits3
theorem natBothUpto_row_tie : Rows.natBothUptoRow.laidByTextAt .later Tryd.pinned [.data, .sentinel, .sentinel, .sentinel, .sentinel, .sentinel, .sentinel, .sentinel, .sentinel, .sentinel, .sentinel, .sentinel, .sentinel, .sentinel, .sentinel, .sentinel, .sentinel, .sentinel, .sentinel, .pinned] true :=
  OpenClaim.laidByTextAt_pinned rfl rfl tie3 rfl rfl rfl rfl (fun y hy _e => by
    simp only [Rows.natBothUptoRow, List.zip_cons_cons, List.zip_nil_right, List.mem_cons, List.mem_nil_iff, or_false] at hy
    rcases hy with rfl | rfl | rfl | rfl | rfl | rfl | rfl | rfl | rfl | rfl | rfl | rfl | rfl | rfl | rfl | rfl | rfl | rfl | rfl | rfl
    · cases _e
    · cases _e
    · cases _e
    · cases _e
    · cases _e
    · cases _e
    · cases _e
    · cases _e
    · cases _e
    · cases _e
    · cases _e
    · cases _e
    · cases _e
    · cases _e
    · cases _e
    · cases _e
    · cases _e
    · cases _e
    · cases _e
    · exact ⟨pin_laid_unicode_utf8_first, by kernel_rfl⟩) fits3
end Go.Proofs.YtilhioiocfllhaaDoor
