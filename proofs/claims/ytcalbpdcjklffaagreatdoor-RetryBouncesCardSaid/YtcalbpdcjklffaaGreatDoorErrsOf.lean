/- What the rows' list gives: the thirteen sentinels, at different places. -/
import Derived.Test.YtcalbpdcjklffaaGreatDoorSeat
import Derived.Test.YtcalbpdcjklffaaGreatDoorNum
namespace Go.Proofs.YtcalbpdcjklffaaGreatDoor
open Go
theorem sent_of {W : World} {l : List (String × DataW Unit)} {name : String} {text : List UInt8} {g : Nat} (h : laidMet Tryz.prog l W) (i : Nat) (hi : l[i]? = some (name, .iface "*errors.errorString" (.ptr (.agg [.lit (.string text)]))))
    (hg : Tryz.prog.globalNamed name = some g) (hty : (Tryz.prog.globals[g]?).map (·.type) = some 27) : ∃ a, SentAt W g 128 a := sent_get h i hi errTypes hg hty
theorem gNameRange : Tryz.prog.globalNamed "postbag/api.ErrRange" = some 0 := by kernel_rfl
theorem gTypeRange : (Tryz.prog.globals[0]?).map (·.type) = some 27 := by kernel_rfl
theorem gNameForm : Tryz.prog.globalNamed "postbag/api.ErrForm" = some 2 := by kernel_rfl
theorem gTypeForm : (Tryz.prog.globals[2]?).map (·.type) = some 27 := by kernel_rfl
theorem gNameLong : Tryz.prog.globalNamed "postbag/api.ErrLong" = some 3 := by kernel_rfl
theorem gTypeLong : (Tryz.prog.globals[3]?).map (·.type) = some 27 := by kernel_rfl
theorem gNameName : Tryz.prog.globalNamed "postbag/api.ErrName" = some 1 := by kernel_rfl
theorem gTypeName : (Tryz.prog.globals[1]?).map (·.type) = some 27 := by kernel_rfl
theorem gNameNone : Tryz.prog.globalNamed "postbag/api.ErrNone" = some 4 := by kernel_rfl
theorem gTypeNone : (Tryz.prog.globals[4]?).map (·.type) = some 27 := by kernel_rfl
theorem gNameExists : Tryz.prog.globalNamed "postbag/api.ErrExists" = some 5 := by kernel_rfl
theorem gTypeExists : (Tryz.prog.globals[5]?).map (·.type) = some 27 := by kernel_rfl
theorem gNameQuota : Tryz.prog.globalNamed "postbag/api.ErrQuota" = some 6 := by kernel_rfl
theorem gTypeQuota : (Tryz.prog.globals[6]?).map (·.type) = some 27 := by kernel_rfl
theorem gNamePower : Tryz.prog.globalNamed "postbag/api.ErrPower" = some 7 := by kernel_rfl
theorem gTypePower : (Tryz.prog.globals[7]?).map (·.type) = some 27 := by kernel_rfl
theorem gNameState : Tryz.prog.globalNamed "postbag/api.ErrState" = some 8 := by kernel_rfl
theorem gTypeState : (Tryz.prog.globals[8]?).map (·.type) = some 27 := by kernel_rfl
theorem gNameSum : Tryz.prog.globalNamed "postbag/api.ErrSum" = some 9 := by kernel_rfl
theorem gTypeSum : (Tryz.prog.globals[9]?).map (·.type) = some 27 := by kernel_rfl
theorem gNameFull : Tryz.prog.globalNamed "postbag/api.ErrFull" = some 10 := by kernel_rfl
theorem gTypeFull : (Tryz.prog.globals[10]?).map (·.type) = some 27 := by kernel_rfl
theorem gNameDepth : Tryz.prog.globalNamed "postbag/api.ErrDepth" = some 11 := by kernel_rfl
theorem gTypeDepth : (Tryz.prog.globals[11]?).map (·.type) = some 27 := by kernel_rfl
theorem gNameUser : Tryz.prog.globalNamed "postbag/api.ErrUser" = some 12 := by kernel_rfl
theorem gTypeUser : (Tryz.prog.globals[12]?).map (·.type) = some 27 := by kernel_rfl
/-- the sentinels stand on the list from place k on, in the document's order -/
theorem errs_of {W : World} {l : List (String × DataW Unit)} (h : laidMet Tryz.prog l W) (k : Nat) (i0 : l[k + 0]? = some ("postbag/api.ErrRange", Rows.laid_postbag_api_ErrRange)) (i1 : l[k + 1]? = some ("postbag/api.ErrForm", Rows.laid_postbag_api_ErrForm)) (i2 : l[k + 2]? = some ("postbag/api.ErrLong", Rows.laid_postbag_api_ErrLong)) (i3 : l[k + 3]? = some ("postbag/api.ErrName", Rows.laid_postbag_api_ErrName)) (i4 : l[k + 4]? = some ("postbag/api.ErrNone", Rows.laid_postbag_api_ErrNone)) (i5 : l[k + 5]? = some ("postbag/api.ErrExists", Rows.laid_postbag_api_ErrExists)) (i6 : l[k + 6]? = some ("postbag/api.ErrQuota", Rows.laid_postbag_api_ErrQuota)) (i7 : l[k + 7]? = some ("postbag/api.ErrPower", Rows.laid_postbag_api_ErrPower)) (i8 : l[k + 8]? = some ("postbag/api.ErrState", Rows.laid_postbag_api_ErrState)) (i9 : l[k + 9]? = some ("postbag/api.ErrSum", Rows.laid_postbag_api_ErrSum)) (i10 : l[k + 10]? = some ("postbag/api.ErrFull", Rows.laid_postbag_api_ErrFull)) (i11 : l[k + 11]? = some ("postbag/api.ErrDepth", Rows.laid_postbag_api_ErrDepth)) (i12 : l[k + 12]? = some ("postbag/api.ErrUser", Rows.laid_postbag_api_ErrUser)) :
    ∃ a0 a1 a2 a3 a4 a5 a6 a7 a8 a9 a10 a11 a12, ErrsAt W a0 a1 a2 a3 a4 a5 a6 a7 a8 a9 a10 a11 a12 := by
  obtain ⟨a0, h0⟩ := sent_of h _ i0 gNameRange gTypeRange
  obtain ⟨a1, h1⟩ := sent_of h _ i1 gNameForm gTypeForm
  obtain ⟨a2, h2⟩ := sent_of h _ i2 gNameLong gTypeLong
  obtain ⟨a3, h3⟩ := sent_of h _ i3 gNameName gTypeName
  obtain ⟨a4, h4⟩ := sent_of h _ i4 gNameNone gTypeNone
  obtain ⟨a5, h5⟩ := sent_of h _ i5 gNameExists gTypeExists
  obtain ⟨a6, h6⟩ := sent_of h _ i6 gNameQuota gTypeQuota
  obtain ⟨a7, h7⟩ := sent_of h _ i7 gNamePower gTypePower
  obtain ⟨a8, h8⟩ := sent_of h _ i8 gNameState gTypeState
  obtain ⟨a9, h9⟩ := sent_of h _ i9 gNameSum gTypeSum
  obtain ⟨a10, h10⟩ := sent_of h _ i10 gNameFull gTypeFull
  obtain ⟨a11, h11⟩ := sent_of h _ i11 gNameDepth gTypeDepth
  obtain ⟨a12, h12⟩ := sent_of h _ i12 gNameUser gTypeUser
  exact ⟨a0, a1, a2, a3, a4, a5, a6, a7, a8, a9, a10, a11, a12, ⟨h0, h1, h2, h3, h4, h5, h6, h7, h8, h9, h10, h11, h12, (sent_ne h (k + 0) (k + 1) (by omega) i0 i1 errTypes gNameRange gTypeRange gNameForm gTypeForm h0 h1).symm, (sent_ne h (k + 0) (k + 3) (by omega) i0 i3 errTypes gNameRange gTypeRange gNameName gTypeName h0 h3).symm, (sent_ne h (k + 1) (k + 3) (by omega) i1 i3 errTypes gNameForm gTypeForm gNameName gTypeName h1 h3).symm, (sent_ne h (k + 2) (k + 3) (by omega) i2 i3 errTypes gNameLong gTypeLong gNameName gTypeName h2 h3).symm⟩⟩
end Go.Proofs.YtcalbpdcjklffaaGreatDoor
