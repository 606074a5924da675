/-
  DERIVED. GIVEN WITH THE SEED: THE CARDS: each row of YtblknhpafifebaaDoorRows.lean that lists a variable, with what it lists TIED to the program's text (the seventh form; the later family's looks); each row that meets fmt, with fmt's text TOLD by the authors' own Lean function (tested against real Go, not proved from fmt's source: count such statements apart). THE CARD IS WHAT COUNTS. Prove the row's statement (the work); the ties are given (YtblknhpafifebaaDoorTie.lean); close each card by the builder's one call (the guide's Derived/Test/ToyasCard.lean, 'card_holds'). Laid BY PROGRAM, IN A SANDBOX (cutbox-door.mjs). By AI agents, Wed Nov 11 2026. No macro, syntax, notation, axiom, sorry.
-/
import Derived.Test.YtblknhpafifebaaDoorRows
import GoSem.ClaimSeven
namespace Go.Proofs.YtblknhpafifebaaDoor
namespace Rows

/-- THE TIED CARD OF 'coldstorelaw14.CachePlays'. -/
def cachePlaysCard : Claim7 := { stood := { row := cachePlaysRow, standIns := [], harness := (true, "9c43fb5591bce852248659eb3ae113ce1addee51ed02dcd63b585711fe0c95fc"), looks := false }, kinds := [], alts := [], laidByText := true, laidKinds := [.data, .data], laidTests := true, laidLooks := .later }
def CachePlaysCardSaid : Prop := Claim7.holds Tryd.pinned (.plain (OpenSpec.ofChange cachePlaysSpec)) cachePlaysCard

/-- THE TIED CARD OF 'coldstorelaw14.CacheKeeps'. -/
def cacheKeepsCard : Claim7 := { stood := { row := cacheKeepsRow, standIns := [], harness := (true, "9c43fb5591bce852248659eb3ae113ce1addee51ed02dcd63b585711fe0c95fc"), looks := false }, kinds := [], alts := [], laidByText := true, laidKinds := [.data, .data], laidTests := true, laidLooks := .later }
def CacheKeepsCardSaid : Prop := Claim7.holds Tryd.pinned (.plain (OpenSpec.ofChange cacheKeepsSpec)) cacheKeepsCard

/-- THE TIED CARD OF 'coldstorelaw14.CacheOrders'. -/
def cacheOrdersCard : Claim7 := { stood := { row := cacheOrdersRow, standIns := [], harness := (true, "9c43fb5591bce852248659eb3ae113ce1addee51ed02dcd63b585711fe0c95fc"), looks := false }, kinds := [], alts := [], laidByText := true, laidKinds := [.data, .data], laidTests := true, laidLooks := .later }
def CacheOrdersCardSaid : Prop := Claim7.holds Tryd.pinned (.plain (OpenSpec.ofChange cacheOrdersSpec)) cacheOrdersCard

/-- THE TIED CARD OF 'coldstorelaw14.CacheBig'. -/
def cacheBigCard : Claim7 := { stood := { row := cacheBigRow, standIns := [], harness := (true, "9c43fb5591bce852248659eb3ae113ce1addee51ed02dcd63b585711fe0c95fc"), looks := false }, kinds := [], alts := [], laidByText := true, laidKinds := [.data, .data], laidTests := true, laidLooks := .later }
def CacheBigCardSaid : Prop := Claim7.holds Tryd.pinned (.plain (OpenSpec.ofChange cacheBigSpec)) cacheBigCard

/-- THE TIED CARD OF 'coldstorelaw14.CacheSpoils'. -/
def cacheSpoilsCard : Claim7 := { stood := { row := cacheSpoilsRow, standIns := [], harness := (true, "9c43fb5591bce852248659eb3ae113ce1addee51ed02dcd63b585711fe0c95fc"), looks := false }, kinds := [], alts := [], laidByText := true, laidKinds := [.data, .data], laidTests := true, laidLooks := .later }
def CacheSpoilsCardSaid : Prop := Claim7.holds Tryd.pinned (.plain (OpenSpec.ofChange cacheSpoilsSpec)) cacheSpoilsCard

/-- THE SECOND FORM's CARD OF 'coldstorelaw14.CachePlays'. -/
def cachePlaysUptoCard : Claim7 := { stood := { row := cachePlaysUptoRow, standIns := [], harness := (true, "9c43fb5591bce852248659eb3ae113ce1addee51ed02dcd63b585711fe0c95fc"), looks := false }, kinds := [], alts := [], laidByText := true, laidKinds := [.data, .data], laidTests := true, laidLooks := .later }
def CachePlaysUptoCardSaid : Prop := Claim7.holds Tryd.pinned (.plain (OpenSpec.upto cachePlaysSpec)) cachePlaysUptoCard

/-- THE SECOND FORM's CARD OF 'coldstorelaw14.CacheKeeps'. -/
def cacheKeepsUptoCard : Claim7 := { stood := { row := cacheKeepsUptoRow, standIns := [], harness := (true, "9c43fb5591bce852248659eb3ae113ce1addee51ed02dcd63b585711fe0c95fc"), looks := false }, kinds := [], alts := [], laidByText := true, laidKinds := [.data, .data], laidTests := true, laidLooks := .later }
def CacheKeepsUptoCardSaid : Prop := Claim7.holds Tryd.pinned (.plain (OpenSpec.upto cacheKeepsSpec)) cacheKeepsUptoCard

/-- THE SECOND FORM's CARD OF 'coldstorelaw14.CacheOrders'. -/
def cacheOrdersUptoCard : Claim7 := { stood := { row := cacheOrdersUptoRow, standIns := [], harness := (true, "9c43fb5591bce852248659eb3ae113ce1addee51ed02dcd63b585711fe0c95fc"), looks := false }, kinds := [], alts := [], laidByText := true, laidKinds := [.data, .data], laidTests := true, laidLooks := .later }
def CacheOrdersUptoCardSaid : Prop := Claim7.holds Tryd.pinned (.plain (OpenSpec.upto cacheOrdersSpec)) cacheOrdersUptoCard

/-- THE SECOND FORM's CARD OF 'coldstorelaw14.CacheBig'. -/
def cacheBigUptoCard : Claim7 := { stood := { row := cacheBigUptoRow, standIns := [], harness := (true, "9c43fb5591bce852248659eb3ae113ce1addee51ed02dcd63b585711fe0c95fc"), looks := false }, kinds := [], alts := [], laidByText := true, laidKinds := [.data, .data], laidTests := true, laidLooks := .later }
def CacheBigUptoCardSaid : Prop := Claim7.holds Tryd.pinned (.plain (OpenSpec.upto cacheBigSpec)) cacheBigUptoCard

/-- THE SECOND FORM's CARD OF 'coldstorelaw14.CacheSpoils'. -/
def cacheSpoilsUptoCard : Claim7 := { stood := { row := cacheSpoilsUptoRow, standIns := [], harness := (true, "9c43fb5591bce852248659eb3ae113ce1addee51ed02dcd63b585711fe0c95fc"), looks := false }, kinds := [], alts := [], laidByText := true, laidKinds := [.data, .data], laidTests := true, laidLooks := .later }
def CacheSpoilsUptoCardSaid : Prop := Claim7.holds Tryd.pinned (.plain (OpenSpec.upto cacheSpoilsSpec)) cacheSpoilsUptoCard
end Rows
end Go.Proofs.YtblknhpafifebaaDoor
