import Derived.Test.YtfnlbcifdopnhaaDoorProg
import Derived.KernelRfl
import Derived.Test.YtfnlbcifdopnhaaDoorAbLibD
open Go Ab Go.Proofs
namespace L11
set_option autoImplicit false
set_option linter.unusedSimpArgs false
set_option linter.unusedVariables false

theorem hmix : Tryd.prog.follows .mixedOrders = true := by kernel_rfl
-- t 1 func()
theorem tsz1 : tsz Tryd.prog 1 = some 1 := by kernel_rfl
theorem tby1 : tby Tryd.prog 1 = some 8 := by kernel_rfl
theorem tz1 : tzero Tryd.prog 1 = some (.nilFunc) := by kernel_rfl
theorem agg1 : aggB Tryd.prog 1 = some false := by simp [aggB, Tryd.underlying1]
attribute [go_sem] Tryd.underlying1 tsz1 tby1 tz1 agg1
-- t 2 int64
theorem tsz2 : tsz Tryd.prog 2 = some 1 := by kernel_rfl
theorem tby2 : tby Tryd.prog 2 = some 8 := by kernel_rfl
theorem tz2 : tzero Tryd.prog 2 = some (.int .i64 0) := by kernel_rfl
theorem agg2 : aggB Tryd.prog 2 = some false := by simp [aggB, Tryd.underlying2]
attribute [go_sem] Tryd.underlying2 tsz2 tby2 tz2 agg2
-- t 3 int
theorem tsz3 : tsz Tryd.prog 3 = some 1 := by kernel_rfl
theorem tby3 : tby Tryd.prog 3 = some 8 := by kernel_rfl
theorem tz3 : tzero Tryd.prog 3 = some (.int .i64 0) := by kernel_rfl
theorem agg3 : aggB Tryd.prog 3 = some false := by simp [aggB, Tryd.underlying3]
attribute [go_sem] Tryd.underlying3 tsz3 tby3 tz3 agg3
-- t 4 bool
theorem tsz4 : tsz Tryd.prog 4 = some 1 := by kernel_rfl
theorem tby4 : tby Tryd.prog 4 = some 1 := by kernel_rfl
theorem tz4 : tzero Tryd.prog 4 = some (.bool false) := by kernel_rfl
theorem agg4 : aggB Tryd.prog 4 = some false := by simp [aggB, Tryd.underlying4]
attribute [go_sem] Tryd.underlying4 tsz4 tby4 tz4 agg4
-- t 5 uint8
theorem tsz5 : tsz Tryd.prog 5 = some 1 := by kernel_rfl
theorem tby5 : tby Tryd.prog 5 = some 1 := by kernel_rfl
theorem tz5 : tzero Tryd.prog 5 = some (.int .u8 0) := by kernel_rfl
theorem agg5 : aggB Tryd.prog 5 = some false := by simp [aggB, Tryd.underlying5]
attribute [go_sem] Tryd.underlying5 tsz5 tby5 tz5 agg5
-- t 9 string
theorem tsz9 : tsz Tryd.prog 9 = some 1 := by kernel_rfl
theorem tby9 : tby Tryd.prog 9 = some 16 := by kernel_rfl
theorem tz9 : tzero Tryd.prog 9 = some (.string ⟨#[]⟩) := by kernel_rfl
theorem agg9 : aggB Tryd.prog 9 = some false := by simp [aggB, Tryd.underlying9]
theorem nI9 : noInt Tryd.prog 9 = true := by simp [noInt, Tryd.underlying9]
attribute [go_sem] Tryd.underlying9 tsz9 tby9 tz9 agg9 nI9
-- t 20 interface ()
theorem tsz20 : tsz Tryd.prog 20 = some 1 := by kernel_rfl
theorem tby20 : tby Tryd.prog 20 = some 16 := by kernel_rfl
theorem tz20 : tzero Tryd.prog 20 = some (.nilIface) := by kernel_rfl
theorem agg20 : aggB Tryd.prog 20 = some false := by simp [aggB, Tryd.underlying20]
attribute [go_sem] Tryd.underlying20 tsz20 tby20 tz20 agg20
-- t 21 int32
theorem tsz21 : tsz Tryd.prog 21 = some 1 := by kernel_rfl
theorem tby21 : tby Tryd.prog 21 = some 4 := by kernel_rfl
theorem tz21 : tzero Tryd.prog 21 = some (.int .i32 0) := by kernel_rfl
theorem agg21 : aggB Tryd.prog 21 = some false := by simp [aggB, Tryd.underlying21]
attribute [go_sem] Tryd.underlying21 tsz21 tby21 tz21 agg21
-- t 22 []gangwaylaw11.Op
theorem tsz22 : tsz Tryd.prog 22 = some 1 := by kernel_rfl
theorem tby22 : tby Tryd.prog 22 = some 24 := by kernel_rfl
theorem tz22 : tzero Tryd.prog 22 = some (.slice none 0 0) := by kernel_rfl
theorem agg22 : aggB Tryd.prog 22 = some false := by simp [aggB, Tryd.underlying22]
theorem nI22 : noInt Tryd.prog 22 = true := by simp [noInt, Tryd.underlying22]
attribute [go_sem] Tryd.underlying22 tsz22 tby22 tz22 agg22 nI22
-- t 23 func() bool
theorem tsz23 : tsz Tryd.prog 23 = some 1 := by kernel_rfl
theorem tby23 : tby Tryd.prog 23 = some 8 := by kernel_rfl
theorem tz23 : tzero Tryd.prog 23 = some (.nilFunc) := by kernel_rfl
theorem agg23 : aggB Tryd.prog 23 = some false := by simp [aggB, Tryd.underlying23]
attribute [go_sem] Tryd.underlying23 tsz23 tby23 tz23 agg23
-- t 24 func([]gangwaylaw11.Op) bool
theorem tsz24 : tsz Tryd.prog 24 = some 1 := by kernel_rfl
theorem tby24 : tby Tryd.prog 24 = some 8 := by kernel_rfl
theorem tz24 : tzero Tryd.prog 24 = some (.nilFunc) := by kernel_rfl
theorem agg24 : aggB Tryd.prog 24 = some false := by simp [aggB, Tryd.underlying24]
attribute [go_sem] Tryd.underlying24 tsz24 tby24 tz24 agg24
-- t 25 *cache.Cache
theorem tsz25 : tsz Tryd.prog 25 = some 1 := by kernel_rfl
theorem tby25 : tby Tryd.prog 25 = some 8 := by kernel_rfl
theorem tz25 : tzero Tryd.prog 25 = some (.pointer none) := by kernel_rfl
theorem agg25 : aggB Tryd.prog 25 = some false := by simp [aggB, Tryd.underlying25]
attribute [go_sem] Tryd.underlying25 tsz25 tby25 tz25 agg25
-- t 26 func() *cache.Cache
theorem tsz26 : tsz Tryd.prog 26 = some 1 := by kernel_rfl
theorem tby26 : tby Tryd.prog 26 = some 8 := by kernel_rfl
theorem tz26 : tzero Tryd.prog 26 = some (.nilFunc) := by kernel_rfl
theorem agg26 : aggB Tryd.prog 26 = some false := by simp [aggB, Tryd.underlying26]
attribute [go_sem] Tryd.underlying26 tsz26 tby26 tz26 agg26
-- t 27 []uint8
theorem tsz27 : tsz Tryd.prog 27 = some 1 := by kernel_rfl
theorem tby27 : tby Tryd.prog 27 = some 24 := by kernel_rfl
theorem tz27 : tzero Tryd.prog 27 = some (.slice none 0 0) := by kernel_rfl
theorem agg27 : aggB Tryd.prog 27 = some false := by simp [aggB, Tryd.underlying27]
theorem nI27 : noInt Tryd.prog 27 = true := by simp [noInt, Tryd.underlying27]
attribute [go_sem] Tryd.underlying27 tsz27 tby27 tz27 agg27 nI27
-- t 28 [16]uint8
theorem tsz28 : tsz Tryd.prog 28 = some 16 := by kernel_rfl
theorem tby28 : tby Tryd.prog 28 = some 16 := by kernel_rfl
theorem tz28 : tzero Tryd.prog 28 = some (.agg #[.int .u8 0, .int .u8 0, .int .u8 0, .int .u8 0, .int .u8 0, .int .u8 0, .int .u8 0, .int .u8 0, .int .u8 0, .int .u8 0, .int .u8 0, .int .u8 0, .int .u8 0, .int .u8 0, .int .u8 0, .int .u8 0]) := by kernel_rfl
theorem agg28 : aggB Tryd.prog 28 = some true := by simp [aggB, Tryd.underlying28]
attribute [go_sem] Tryd.underlying28 tsz28 tby28 tz28 agg28
-- t 29 api.Key = gangway/api.Key
theorem tsz29 : tsz Tryd.prog 29 = some 16 := by kernel_rfl
theorem tby29 : tby Tryd.prog 29 = some 16 := by kernel_rfl
theorem tz29 : tzero Tryd.prog 29 = some (.agg #[.int .u8 0, .int .u8 0, .int .u8 0, .int .u8 0, .int .u8 0, .int .u8 0, .int .u8 0, .int .u8 0, .int .u8 0, .int .u8 0, .int .u8 0, .int .u8 0, .int .u8 0, .int .u8 0, .int .u8 0, .int .u8 0]) := by kernel_rfl
theorem agg29 : aggB Tryd.prog 29 = some true := by simp [aggB, Tryd.underlying29]
attribute [go_sem] Tryd.underlying29 tsz29 tby29 tz29 agg29
-- t 30 uint64
theorem tsz30 : tsz Tryd.prog 30 = some 1 := by kernel_rfl
theorem tby30 : tby Tryd.prog 30 = some 8 := by kernel_rfl
theorem tz30 : tzero Tryd.prog 30 = some (.int .u64 0) := by kernel_rfl
theorem agg30 : aggB Tryd.prog 30 = some false := by simp [aggB, Tryd.underlying30]
attribute [go_sem] Tryd.underlying30 tsz30 tby30 tz30 agg30
-- t 31 struct ( Server string; Key api.Key; Nonce uint64; Start int64; End int64; Flags int )
theorem tsz31 : tsz Tryd.prog 31 = some 21 := by kernel_rfl
theorem tby31 : tby Tryd.prog 31 = some 64 := by kernel_rfl
theorem agg31 : aggB Tryd.prog 31 = some true := by simp [aggB, Tryd.underlying31]
attribute [go_sem] Tryd.underlying31 tsz31 tby31 agg31
-- t 32 api.Grant = gangway/api.Grant
theorem tsz32 : tsz Tryd.prog 32 = some 21 := by kernel_rfl
theorem tby32 : tby Tryd.prog 32 = some 64 := by kernel_rfl
theorem agg32 : aggB Tryd.prog 32 = some true := by simp [aggB, Tryd.underlying32]
attribute [go_sem] Tryd.underlying32 tsz32 tby32 agg32
-- t 33 struct ( Client string; Ticket []uint8; Grant api.Grant )
theorem tsz33 : tsz Tryd.prog 33 = some 23 := by kernel_rfl
theorem tby33 : tby Tryd.prog 33 = some 104 := by kernel_rfl
theorem agg33 : aggB Tryd.prog 33 = some true := by simp [aggB, Tryd.underlying33]
attribute [go_sem] Tryd.underlying33 tsz33 tby33 agg33
-- t 34 api.Cred = gangway/api.Cred
theorem tsz34 : tsz Tryd.prog 34 = some 23 := by kernel_rfl
theorem tby34 : tby Tryd.prog 34 = some 104 := by kernel_rfl
theorem agg34 : aggB Tryd.prog 34 = some true := by simp [aggB, Tryd.underlying34]
attribute [go_sem] Tryd.underlying34 tsz34 tby34 agg34
-- t 35 struct ( Kind int; Now int64; Server string; Cred api.Cred )
theorem tsz35 : tsz Tryd.prog 35 = some 26 := by kernel_rfl
theorem tby35 : tby Tryd.prog 35 = some 136 := by kernel_rfl
theorem agg35 : aggB Tryd.prog 35 = some true := by simp [aggB, Tryd.underlying35]
attribute [go_sem] Tryd.underlying35 tsz35 tby35 agg35
-- t 36 gangwaylaw11.Op = gangway/gangwaylaw11.Op
theorem tsz36 : tsz Tryd.prog 36 = some 26 := by kernel_rfl
theorem tby36 : tby Tryd.prog 36 = some 136 := by kernel_rfl
theorem agg36 : aggB Tryd.prog 36 = some true := by simp [aggB, Tryd.underlying36]
attribute [go_sem] Tryd.underlying36 tsz36 tby36 agg36
-- t 37 api.Errno = gangway/api.Errno
theorem tsz37 : tsz Tryd.prog 37 = some 1 := by kernel_rfl
theorem tby37 : tby Tryd.prog 37 = some 8 := by kernel_rfl
theorem tz37 : tzero Tryd.prog 37 = some (.int .i64 0) := by kernel_rfl
theorem agg37 : aggB Tryd.prog 37 = some false := by simp [aggB, Tryd.underlying37]
attribute [go_sem] Tryd.underlying37 tsz37 tby37 tz37 agg37
-- t 38 func(api.Cred, int64) api.Errno
theorem tsz38 : tsz Tryd.prog 38 = some 1 := by kernel_rfl
theorem tby38 : tby Tryd.prog 38 = some 8 := by kernel_rfl
theorem tz38 : tzero Tryd.prog 38 = some (.nilFunc) := by kernel_rfl
theorem agg38 : aggB Tryd.prog 38 = some false := by simp [aggB, Tryd.underlying38]
attribute [go_sem] Tryd.underlying38 tsz38 tby38 tz38 agg38
-- t 40 func(string, int64) (api.Cred, bool)
theorem tsz40 : tsz Tryd.prog 40 = some 1 := by kernel_rfl
theorem tby40 : tby Tryd.prog 40 = some 8 := by kernel_rfl
theorem tz40 : tzero Tryd.prog 40 = some (.nilFunc) := by kernel_rfl
theorem agg40 : aggB Tryd.prog 40 = some false := by simp [aggB, Tryd.underlying40]
attribute [go_sem] Tryd.underlying40 tsz40 tby40 tz40 agg40
-- t 41 []string
theorem tsz41 : tsz Tryd.prog 41 = some 1 := by kernel_rfl
theorem tby41 : tby Tryd.prog 41 = some 24 := by kernel_rfl
theorem tz41 : tzero Tryd.prog 41 = some (.slice none 0 0) := by kernel_rfl
theorem agg41 : aggB Tryd.prog 41 = some false := by simp [aggB, Tryd.underlying41]
theorem nI41 : noInt Tryd.prog 41 = true := by simp [noInt, Tryd.underlying41]
attribute [go_sem] Tryd.underlying41 tsz41 tby41 tz41 agg41 nI41
-- t 42 func() []string
theorem tsz42 : tsz Tryd.prog 42 = some 1 := by kernel_rfl
theorem tby42 : tby Tryd.prog 42 = some 8 := by kernel_rfl
theorem tz42 : tzero Tryd.prog 42 = some (.nilFunc) := by kernel_rfl
theorem agg42 : aggB Tryd.prog 42 = some false := by simp [aggB, Tryd.underlying42]
attribute [go_sem] Tryd.underlying42 tsz42 tby42 tz42 agg42
-- t 43 func(api.Cred, api.Cred) bool
theorem tsz43 : tsz Tryd.prog 43 = some 1 := by kernel_rfl
theorem tby43 : tby Tryd.prog 43 = some 8 := by kernel_rfl
theorem tz43 : tzero Tryd.prog 43 = some (.nilFunc) := by kernel_rfl
theorem agg43 : aggB Tryd.prog 43 = some false := by simp [aggB, Tryd.underlying43]
attribute [go_sem] Tryd.underlying43 tsz43 tby43 tz43 agg43
-- t 44 func([]gangwaylaw11.Op, string, int64) bool
theorem tsz44 : tsz Tryd.prog 44 = some 1 := by kernel_rfl
theorem tby44 : tby Tryd.prog 44 = some 8 := by kernel_rfl
theorem tz44 : tzero Tryd.prog 44 = some (.nilFunc) := by kernel_rfl
theorem agg44 : aggB Tryd.prog 44 = some false := by simp [aggB, Tryd.underlying44]
attribute [go_sem] Tryd.underlying44 tsz44 tby44 tz44 agg44
-- t 45 []int64
theorem tsz45 : tsz Tryd.prog 45 = some 1 := by kernel_rfl
theorem tby45 : tby Tryd.prog 45 = some 24 := by kernel_rfl
theorem tz45 : tzero Tryd.prog 45 = some (.slice none 0 0) := by kernel_rfl
theorem agg45 : aggB Tryd.prog 45 = some false := by simp [aggB, Tryd.underlying45]
theorem nI45 : noInt Tryd.prog 45 = true := by simp [noInt, Tryd.underlying45]
attribute [go_sem] Tryd.underlying45 tsz45 tby45 tz45 agg45 nI45
-- t 46 func([]int64, int64) bool
theorem tsz46 : tsz Tryd.prog 46 = some 1 := by kernel_rfl
theorem tby46 : tby Tryd.prog 46 = some 8 := by kernel_rfl
theorem tz46 : tzero Tryd.prog 46 = some (.nilFunc) := by kernel_rfl
theorem agg46 : aggB Tryd.prog 46 = some false := by simp [aggB, Tryd.underlying46]
attribute [go_sem] Tryd.underlying46 tsz46 tby46 tz46 agg46
-- t 47 *gangwayref11.Cache
theorem tsz47 : tsz Tryd.prog 47 = some 1 := by kernel_rfl
theorem tby47 : tby Tryd.prog 47 = some 8 := by kernel_rfl
theorem tz47 : tzero Tryd.prog 47 = some (.pointer none) := by kernel_rfl
theorem agg47 : aggB Tryd.prog 47 = some false := by simp [aggB, Tryd.underlying47]
attribute [go_sem] Tryd.underlying47 tsz47 tby47 tz47 agg47
-- t 48 []api.Cred
theorem tsz48 : tsz Tryd.prog 48 = some 1 := by kernel_rfl
theorem tby48 : tby Tryd.prog 48 = some 24 := by kernel_rfl
theorem tz48 : tzero Tryd.prog 48 = some (.slice none 0 0) := by kernel_rfl
theorem agg48 : aggB Tryd.prog 48 = some false := by simp [aggB, Tryd.underlying48]
theorem nI48 : noInt Tryd.prog 48 = true := by simp [noInt, Tryd.underlying48]
attribute [go_sem] Tryd.underlying48 tsz48 tby48 tz48 agg48 nI48
-- t 49 struct ( C []api.Cred )
theorem tsz49 : tsz Tryd.prog 49 = some 1 := by kernel_rfl
theorem tby49 : tby Tryd.prog 49 = some 24 := by kernel_rfl
theorem tz49 : tzero Tryd.prog 49 = some (.agg #[.slice none 0 0]) := by kernel_rfl
theorem agg49 : aggB Tryd.prog 49 = some true := by simp [aggB, Tryd.underlying49]
attribute [go_sem] Tryd.underlying49 tsz49 tby49 tz49 agg49
-- t 50 gangwayref11.Cache = gangway/gangwayref11.Cache
theorem tsz50 : tsz Tryd.prog 50 = some 1 := by kernel_rfl
theorem tby50 : tby Tryd.prog 50 = some 24 := by kernel_rfl
theorem tz50 : tzero Tryd.prog 50 = some (.agg #[.slice none 0 0]) := by kernel_rfl
theorem agg50 : aggB Tryd.prog 50 = some true := by simp [aggB, Tryd.underlying50]
attribute [go_sem] Tryd.underlying50 tsz50 tby50 tz50 agg50
-- t 51 func(string) bool
theorem tsz51 : tsz Tryd.prog 51 = some 1 := by kernel_rfl
theorem tby51 : tby Tryd.prog 51 = some 8 := by kernel_rfl
theorem tz51 : tzero Tryd.prog 51 = some (.nilFunc) := by kernel_rfl
theorem agg51 : aggB Tryd.prog 51 = some false := by simp [aggB, Tryd.underlying51]
attribute [go_sem] Tryd.underlying51 tsz51 tby51 tz51 agg51
-- t 52 func(api.Cred, int64) int
theorem tsz52 : tsz Tryd.prog 52 = some 1 := by kernel_rfl
theorem tby52 : tby Tryd.prog 52 = some 8 := by kernel_rfl
theorem tz52 : tzero Tryd.prog 52 = some (.nilFunc) := by kernel_rfl
theorem agg52 : aggB Tryd.prog 52 = some false := by simp [aggB, Tryd.underlying52]
attribute [go_sem] Tryd.underlying52 tsz52 tby52 tz52 agg52
-- t 53 map[string]api.Cred
theorem tsz53 : tsz Tryd.prog 53 = some 1 := by kernel_rfl
theorem tby53 : tby Tryd.prog 53 = some 8 := by kernel_rfl
theorem tz53 : tzero Tryd.prog 53 = some (.map none) := by kernel_rfl
theorem agg53 : aggB Tryd.prog 53 = some false := by simp [aggB, Tryd.underlying53]
attribute [go_sem] Tryd.underlying53 tsz53 tby53 tz53 agg53
-- t 54 struct ( creds map[string]api.Cred )
theorem tsz54 : tsz Tryd.prog 54 = some 1 := by kernel_rfl
theorem tby54 : tby Tryd.prog 54 = some 8 := by kernel_rfl
theorem tz54 : tzero Tryd.prog 54 = some (.agg #[.map none]) := by kernel_rfl
theorem agg54 : aggB Tryd.prog 54 = some true := by simp [aggB, Tryd.underlying54]
attribute [go_sem] Tryd.underlying54 tsz54 tby54 tz54 agg54
-- t 55 cache.Cache = gangway/cache.Cache
theorem tsz55 : tsz Tryd.prog 55 = some 1 := by kernel_rfl
theorem tby55 : tby Tryd.prog 55 = some 8 := by kernel_rfl
theorem tz55 : tzero Tryd.prog 55 = some (.agg #[.map none]) := by kernel_rfl
theorem agg55 : aggB Tryd.prog 55 = some true := by simp [aggB, Tryd.underlying55]
attribute [go_sem] Tryd.underlying55 tsz55 tby55 tz55 agg55
-- t 56 struct ( Parts []string; Realm string )
theorem tsz56 : tsz Tryd.prog 56 = some 2 := by kernel_rfl
theorem tby56 : tby Tryd.prog 56 = some 40 := by kernel_rfl
theorem tz56 : tzero Tryd.prog 56 = some (.agg #[.slice none 0 0, .string ⟨#[]⟩]) := by kernel_rfl
theorem agg56 : aggB Tryd.prog 56 = some true := by simp [aggB, Tryd.underlying56]
attribute [go_sem] Tryd.underlying56 tsz56 tby56 tz56 agg56
-- t 57 api.Name = gangway/api.Name
theorem tsz57 : tsz Tryd.prog 57 = some 2 := by kernel_rfl
theorem tby57 : tby Tryd.prog 57 = some 40 := by kernel_rfl
theorem tz57 : tzero Tryd.prog 57 = some (.agg #[.slice none 0 0, .string ⟨#[]⟩]) := by kernel_rfl
theorem agg57 : aggB Tryd.prog 57 = some true := by simp [aggB, Tryd.underlying57]
attribute [go_sem] Tryd.underlying57 tsz57 tby57 tz57 agg57
-- t 59 func(string) (api.Name, api.Errno)
theorem tsz59 : tsz Tryd.prog 59 = some 1 := by kernel_rfl
theorem tby59 : tby Tryd.prog 59 = some 8 := by kernel_rfl
theorem tz59 : tzero Tryd.prog 59 = some (.nilFunc) := by kernel_rfl
theorem agg59 : aggB Tryd.prog 59 = some false := by simp [aggB, Tryd.underlying59]
attribute [go_sem] Tryd.underlying59 tsz59 tby59 tz59 agg59
-- t 61 func(api.Grant) ([]uint8, api.Errno)
theorem tsz61 : tsz Tryd.prog 61 = some 1 := by kernel_rfl
theorem tby61 : tby Tryd.prog 61 = some 8 := by kernel_rfl
theorem tz61 : tzero Tryd.prog 61 = some (.nilFunc) := by kernel_rfl
theorem agg61 : aggB Tryd.prog 61 = some false := by simp [aggB, Tryd.underlying61]
attribute [go_sem] Tryd.underlying61 tsz61 tby61 tz61 agg61
-- t 62 func(map[string]api.Cred, func(string, api.Cred) bool)
theorem tsz62 : tsz Tryd.prog 62 = some 1 := by kernel_rfl
theorem tby62 : tby Tryd.prog 62 = some 8 := by kernel_rfl
theorem tz62 : tzero Tryd.prog 62 = some (.nilFunc) := by kernel_rfl
theorem agg62 : aggB Tryd.prog 62 = some false := by simp [aggB, Tryd.underlying62]
attribute [go_sem] Tryd.underlying62 tsz62 tby62 tz62 agg62
-- t 63 func(string, api.Cred) bool
theorem tsz63 : tsz Tryd.prog 63 = some 1 := by kernel_rfl
theorem tby63 : tby Tryd.prog 63 = some 8 := by kernel_rfl
theorem tz63 : tzero Tryd.prog 63 = some (.nilFunc) := by kernel_rfl
theorem agg63 : aggB Tryd.prog 63 = some false := by simp [aggB, Tryd.underlying63]
attribute [go_sem] Tryd.underlying63 tsz63 tby63 tz63 agg63
-- t 64 func(api.Cred) api.Cred
theorem tsz64 : tsz Tryd.prog 64 = some 1 := by kernel_rfl
theorem tby64 : tby Tryd.prog 64 = some 8 := by kernel_rfl
theorem tz64 : tzero Tryd.prog 64 = some (.nilFunc) := by kernel_rfl
theorem agg64 : aggB Tryd.prog 64 = some false := by simp [aggB, Tryd.underlying64]
attribute [go_sem] Tryd.underlying64 tsz64 tby64 tz64 agg64
-- t 65 func(iter.Seq[string]) []string
theorem tsz65 : tsz Tryd.prog 65 = some 1 := by kernel_rfl
theorem tby65 : tby Tryd.prog 65 = some 8 := by kernel_rfl
theorem tz65 : tzero Tryd.prog 65 = some (.nilFunc) := by kernel_rfl
theorem agg65 : aggB Tryd.prog 65 = some false := by simp [aggB, Tryd.underlying65]
attribute [go_sem] Tryd.underlying65 tsz65 tby65 tz65 agg65
-- t 66 func(func(string) bool)
theorem tsz66 : tsz Tryd.prog 66 = some 1 := by kernel_rfl
theorem tby66 : tby Tryd.prog 66 = some 8 := by kernel_rfl
theorem tz66 : tzero Tryd.prog 66 = some (.nilFunc) := by kernel_rfl
theorem agg66 : aggB Tryd.prog 66 = some false := by simp [aggB, Tryd.underlying66]
attribute [go_sem] Tryd.underlying66 tsz66 tby66 tz66 agg66
-- t 67 iter.Seq[string]
theorem tsz67 : tsz Tryd.prog 67 = some 1 := by kernel_rfl
theorem tby67 : tby Tryd.prog 67 = some 8 := by kernel_rfl
theorem tz67 : tzero Tryd.prog 67 = some (.nilFunc) := by kernel_rfl
theorem agg67 : aggB Tryd.prog 67 = some false := by simp [aggB, Tryd.underlying67]
attribute [go_sem] Tryd.underlying67 tsz67 tby67 tz67 agg67
-- t 68 func(map[string]api.Cred) iter.Seq[string]
theorem tsz68 : tsz Tryd.prog 68 = some 1 := by kernel_rfl
theorem tby68 : tby Tryd.prog 68 = some 8 := by kernel_rfl
theorem tz68 : tzero Tryd.prog 68 = some (.nilFunc) := by kernel_rfl
theorem agg68 : aggB Tryd.prog 68 = some false := by simp [aggB, Tryd.underlying68]
attribute [go_sem] Tryd.underlying68 tsz68 tby68 tz68 agg68
-- t 69 func(string) int
theorem tsz69 : tsz Tryd.prog 69 = some 1 := by kernel_rfl
theorem tby69 : tby Tryd.prog 69 = some 8 := by kernel_rfl
theorem tz69 : tzero Tryd.prog 69 = some (.nilFunc) := by kernel_rfl
theorem agg69 : aggB Tryd.prog 69 = some false := by simp [aggB, Tryd.underlying69]
attribute [go_sem] Tryd.underlying69 tsz69 tby69 tz69 agg69
-- t 70 func(api.Grant) bool
theorem tsz70 : tsz Tryd.prog 70 = some 1 := by kernel_rfl
theorem tby70 : tby Tryd.prog 70 = some 8 := by kernel_rfl
theorem tz70 : tzero Tryd.prog 70 = some (.nilFunc) := by kernel_rfl
theorem agg70 : aggB Tryd.prog 70 = some false := by simp [aggB, Tryd.underlying70]
attribute [go_sem] Tryd.underlying70 tsz70 tby70 tz70 agg70
-- t 72 func(string, string) (string, string, bool)
theorem tsz72 : tsz Tryd.prog 72 = some 1 := by kernel_rfl
theorem tby72 : tby Tryd.prog 72 = some 8 := by kernel_rfl
theorem tz72 : tzero Tryd.prog 72 = some (.nilFunc) := by kernel_rfl
theorem agg72 : aggB Tryd.prog 72 = some false := by simp [aggB, Tryd.underlying72]
attribute [go_sem] Tryd.underlying72 tsz72 tby72 tz72 agg72
-- t 73 func(string, string) []string
theorem tsz73 : tsz Tryd.prog 73 = some 1 := by kernel_rfl
theorem tby73 : tby Tryd.prog 73 = some 8 := by kernel_rfl
theorem tz73 : tzero Tryd.prog 73 = some (.nilFunc) := by kernel_rfl
theorem agg73 : aggB Tryd.prog 73 = some false := by simp [aggB, Tryd.underlying73]
attribute [go_sem] Tryd.underlying73 tsz73 tby73 tz73 agg73
-- t 74 func(api.Name) api.Errno
theorem tsz74 : tsz Tryd.prog 74 = some 1 := by kernel_rfl
theorem tby74 : tby Tryd.prog 74 = some 8 := by kernel_rfl
theorem tz74 : tzero Tryd.prog 74 = some (.nilFunc) := by kernel_rfl
theorem agg74 : aggB Tryd.prog 74 = some false := by simp [aggB, Tryd.underlying74]
attribute [go_sem] Tryd.underlying74 tsz74 tby74 tz74 agg74
-- t 75 func(int64, int64, int) bool
theorem tsz75 : tsz Tryd.prog 75 = some 1 := by kernel_rfl
theorem tby75 : tby Tryd.prog 75 = some 8 := by kernel_rfl
theorem tz75 : tzero Tryd.prog 75 = some (.nilFunc) := by kernel_rfl
theorem agg75 : aggB Tryd.prog 75 = some false := by simp [aggB, Tryd.underlying75]
attribute [go_sem] Tryd.underlying75 tsz75 tby75 tz75 agg75
-- t 76 func(int, ...[]uint8) ([]uint8, api.Errno)
theorem tsz76 : tsz Tryd.prog 76 = some 1 := by kernel_rfl
theorem tby76 : tby Tryd.prog 76 = some 8 := by kernel_rfl
theorem tz76 : tzero Tryd.prog 76 = some (.nilFunc) := by kernel_rfl
theorem agg76 : aggB Tryd.prog 76 = some false := by simp [aggB, Tryd.underlying76]
attribute [go_sem] Tryd.underlying76 tsz76 tby76 tz76 agg76
-- t 77 func(uint64) []uint8
theorem tsz77 : tsz Tryd.prog 77 = some 1 := by kernel_rfl
theorem tby77 : tby Tryd.prog 77 = some 8 := by kernel_rfl
theorem tz77 : tzero Tryd.prog 77 = some (.nilFunc) := by kernel_rfl
theorem agg77 : aggB Tryd.prog 77 = some false := by simp [aggB, Tryd.underlying77]
attribute [go_sem] Tryd.underlying77 tsz77 tby77 tz77 agg77
-- t 78 func(int64) []uint8
theorem tsz78 : tsz Tryd.prog 78 = some 1 := by kernel_rfl
theorem tby78 : tby Tryd.prog 78 = some 8 := by kernel_rfl
theorem tz78 : tzero Tryd.prog 78 = some (.nilFunc) := by kernel_rfl
theorem agg78 : aggB Tryd.prog 78 = some false := by simp [aggB, Tryd.underlying78]
attribute [go_sem] Tryd.underlying78 tsz78 tby78 tz78 agg78
-- t 79 func([]uint8) []uint8
theorem tsz79 : tsz Tryd.prog 79 = some 1 := by kernel_rfl
theorem tby79 : tby Tryd.prog 79 = some 8 := by kernel_rfl
theorem tz79 : tzero Tryd.prog 79 = some (.nilFunc) := by kernel_rfl
theorem agg79 : aggB Tryd.prog 79 = some false := by simp [aggB, Tryd.underlying79]
attribute [go_sem] Tryd.underlying79 tsz79 tby79 tz79 agg79
-- t 80 func([]string)
theorem tsz80 : tsz Tryd.prog 80 = some 1 := by kernel_rfl
theorem tby80 : tby Tryd.prog 80 = some 8 := by kernel_rfl
theorem tz80 : tzero Tryd.prog 80 = some (.nilFunc) := by kernel_rfl
theorem agg80 : aggB Tryd.prog 80 = some false := by simp [aggB, Tryd.underlying80]
attribute [go_sem] Tryd.underlying80 tsz80 tby80 tz80 agg80
-- t 82 func(string) (api.Name, bool)
theorem tsz82 : tsz Tryd.prog 82 = some 1 := by kernel_rfl
theorem tby82 : tby Tryd.prog 82 = some 8 := by kernel_rfl
theorem tz82 : tzero Tryd.prog 82 = some (.nilFunc) := by kernel_rfl
theorem agg82 : aggB Tryd.prog 82 = some false := by simp [aggB, Tryd.underlying82]
attribute [go_sem] Tryd.underlying82 tsz82 tby82 tz82 agg82
-- t 83 func(string, string, int, int) []string
theorem tsz83 : tsz Tryd.prog 83 = some 1 := by kernel_rfl
theorem tby83 : tby Tryd.prog 83 = some 8 := by kernel_rfl
theorem tz83 : tzero Tryd.prog 83 = some (.nilFunc) := by kernel_rfl
theorem agg83 : aggB Tryd.prog 83 = some false := by simp [aggB, Tryd.underlying83]
attribute [go_sem] Tryd.underlying83 tsz83 tby83 tz83 agg83
-- t 84 func([]string, func(string) bool) bool
theorem tsz84 : tsz Tryd.prog 84 = some 1 := by kernel_rfl
theorem tby84 : tby Tryd.prog 84 = some 8 := by kernel_rfl
theorem tz84 : tzero Tryd.prog 84 = some (.nilFunc) := by kernel_rfl
theorem agg84 : aggB Tryd.prog 84 = some false := by simp [aggB, Tryd.underlying84]
attribute [go_sem] Tryd.underlying84 tsz84 tby84 tz84 agg84
-- t 85 [][]uint8
theorem tsz85 : tsz Tryd.prog 85 = some 1 := by kernel_rfl
theorem tby85 : tby Tryd.prog 85 = some 24 := by kernel_rfl
theorem tz85 : tzero Tryd.prog 85 = some (.slice none 0 0) := by kernel_rfl
theorem agg85 : aggB Tryd.prog 85 = some false := by simp [aggB, Tryd.underlying85]
theorem nI85 : noInt Tryd.prog 85 = true := by simp [noInt, Tryd.underlying85]
attribute [go_sem] Tryd.underlying85 tsz85 tby85 tz85 agg85 nI85
-- t 86 []api.Field
theorem tsz86 : tsz Tryd.prog 86 = some 1 := by kernel_rfl
theorem tby86 : tby Tryd.prog 86 = some 24 := by kernel_rfl
theorem tz86 : tzero Tryd.prog 86 = some (.slice none 0 0) := by kernel_rfl
theorem agg86 : aggB Tryd.prog 86 = some false := by simp [aggB, Tryd.underlying86]
theorem nI86 : noInt Tryd.prog 86 = true := by simp [noInt, Tryd.underlying86]
attribute [go_sem] Tryd.underlying86 tsz86 tby86 tz86 agg86 nI86
-- t 87 struct ( Tag int; Value []uint8 )
theorem tsz87 : tsz Tryd.prog 87 = some 2 := by kernel_rfl
theorem tby87 : tby Tryd.prog 87 = some 32 := by kernel_rfl
theorem tz87 : tzero Tryd.prog 87 = some (.agg #[.int .i64 0, .slice none 0 0]) := by kernel_rfl
theorem agg87 : aggB Tryd.prog 87 = some true := by simp [aggB, Tryd.underlying87]
attribute [go_sem] Tryd.underlying87 tsz87 tby87 tz87 agg87
-- t 88 api.Field = gangway/api.Field
theorem tsz88 : tsz Tryd.prog 88 = some 2 := by kernel_rfl
theorem tby88 : tby Tryd.prog 88 = some 32 := by kernel_rfl
theorem tz88 : tzero Tryd.prog 88 = some (.agg #[.int .i64 0, .slice none 0 0]) := by kernel_rfl
theorem agg88 : aggB Tryd.prog 88 = some true := by simp [aggB, Tryd.underlying88]
attribute [go_sem] Tryd.underlying88 tsz88 tby88 tz88 agg88
-- t 89 func([]api.Field) ([]uint8, api.Errno)
theorem tsz89 : tsz Tryd.prog 89 = some 1 := by kernel_rfl
theorem tby89 : tby Tryd.prog 89 = some 8 := by kernel_rfl
theorem tz89 : tzero Tryd.prog 89 = some (.nilFunc) := by kernel_rfl
theorem agg89 : aggB Tryd.prog 89 = some false := by simp [aggB, Tryd.underlying89]
attribute [go_sem] Tryd.underlying89 tsz89 tby89 tz89 agg89
-- t 90 uint
theorem tsz90 : tsz Tryd.prog 90 = some 1 := by kernel_rfl
theorem tby90 : tby Tryd.prog 90 = some 8 := by kernel_rfl
theorem tz90 : tzero Tryd.prog 90 = some (.int .u64 0) := by kernel_rfl
theorem agg90 : aggB Tryd.prog 90 = some false := by simp [aggB, Tryd.underlying90]
attribute [go_sem] Tryd.underlying90 tsz90 tby90 tz90 agg90
-- t 91 func([]uint8)
theorem tsz91 : tsz Tryd.prog 91 = some 1 := by kernel_rfl
theorem tby91 : tby Tryd.prog 91 = some 8 := by kernel_rfl
theorem tz91 : tzero Tryd.prog 91 = some (.nilFunc) := by kernel_rfl
theorem agg91 : aggB Tryd.prog 91 = some false := by simp [aggB, Tryd.underlying91]
attribute [go_sem] Tryd.underlying91 tsz91 tby91 tz91 agg91
-- t 92 func([]string, iter.Seq[string]) []string
theorem tsz92 : tsz Tryd.prog 92 = some 1 := by kernel_rfl
theorem tby92 : tby Tryd.prog 92 = some 8 := by kernel_rfl
theorem tz92 : tzero Tryd.prog 92 = some (.nilFunc) := by kernel_rfl
theorem agg92 : aggB Tryd.prog 92 = some false := by simp [aggB, Tryd.underlying92]
attribute [go_sem] Tryd.underlying92 tsz92 tby92 tz92 agg92
-- t 93 func([]string, int, int, int)
theorem tsz93 : tsz Tryd.prog 93 = some 1 := by kernel_rfl
theorem tby93 : tby Tryd.prog 93 = some 8 := by kernel_rfl
theorem tz93 : tzero Tryd.prog 93 = some (.nilFunc) := by kernel_rfl
theorem agg93 : aggB Tryd.prog 93 = some false := by simp [aggB, Tryd.underlying93]
attribute [go_sem] Tryd.underlying93 tsz93 tby93 tz93 agg93
-- t 94 func(uint) int
theorem tsz94 : tsz Tryd.prog 94 = some 1 := by kernel_rfl
theorem tby94 : tby Tryd.prog 94 = some 8 := by kernel_rfl
theorem tz94 : tzero Tryd.prog 94 = some (.nilFunc) := by kernel_rfl
theorem agg94 : aggB Tryd.prog 94 = some false := by simp [aggB, Tryd.underlying94]
attribute [go_sem] Tryd.underlying94 tsz94 tby94 tz94 agg94
-- t 95 func(api.Name) bool
theorem tsz95 : tsz Tryd.prog 95 = some 1 := by kernel_rfl
theorem tby95 : tby Tryd.prog 95 = some 8 := by kernel_rfl
theorem tz95 : tzero Tryd.prog 95 = some (.nilFunc) := by kernel_rfl
theorem agg95 : aggB Tryd.prog 95 = some false := by simp [aggB, Tryd.underlying95]
attribute [go_sem] Tryd.underlying95 tsz95 tby95 tz95 agg95
-- t 96 func(string, string) int
theorem tsz96 : tsz Tryd.prog 96 = some 1 := by kernel_rfl
theorem tby96 : tby Tryd.prog 96 = some 8 := by kernel_rfl
theorem tz96 : tzero Tryd.prog 96 = some (.nilFunc) := by kernel_rfl
theorem agg96 : aggB Tryd.prog 96 = some false := by simp [aggB, Tryd.underlying96]
attribute [go_sem] Tryd.underlying96 tsz96 tby96 tz96 agg96
-- t 97 func(string, int) []string
theorem tsz97 : tsz Tryd.prog 97 = some 1 := by kernel_rfl
theorem tby97 : tby Tryd.prog 97 = some 8 := by kernel_rfl
theorem tz97 : tzero Tryd.prog 97 = some (.nilFunc) := by kernel_rfl
theorem agg97 : aggB Tryd.prog 97 = some false := by simp [aggB, Tryd.underlying97]
attribute [go_sem] Tryd.underlying97 tsz97 tby97 tz97 agg97
-- t 98 func(uint8) bool
theorem tsz98 : tsz Tryd.prog 98 = some 1 := by kernel_rfl
theorem tby98 : tby Tryd.prog 98 = some 8 := by kernel_rfl
theorem tz98 : tzero Tryd.prog 98 = some (.nilFunc) := by kernel_rfl
theorem agg98 : aggB Tryd.prog 98 = some false := by simp [aggB, Tryd.underlying98]
attribute [go_sem] Tryd.underlying98 tsz98 tby98 tz98 agg98
-- t 99 func([]string, func(string) bool) int
theorem tsz99 : tsz Tryd.prog 99 = some 1 := by kernel_rfl
theorem tby99 : tby Tryd.prog 99 = some 8 := by kernel_rfl
theorem tz99 : tzero Tryd.prog 99 = some (.nilFunc) := by kernel_rfl
theorem agg99 : aggB Tryd.prog 99 = some false := by simp [aggB, Tryd.underlying99]
attribute [go_sem] Tryd.underlying99 tsz99 tby99 tz99 agg99
-- t 100 func([]string, int, int)
theorem tsz100 : tsz Tryd.prog 100 = some 1 := by kernel_rfl
theorem tby100 : tby Tryd.prog 100 = some 8 := by kernel_rfl
theorem tz100 : tzero Tryd.prog 100 = some (.nilFunc) := by kernel_rfl
theorem agg100 : aggB Tryd.prog 100 = some false := by simp [aggB, Tryd.underlying100]
attribute [go_sem] Tryd.underlying100 tsz100 tby100 tz100 agg100
-- t 101 slices.sortedHint
theorem tsz101 : tsz Tryd.prog 101 = some 1 := by kernel_rfl
theorem tby101 : tby Tryd.prog 101 = some 8 := by kernel_rfl
theorem tz101 : tzero Tryd.prog 101 = some (.int .i64 0) := by kernel_rfl
theorem agg101 : aggB Tryd.prog 101 = some false := by simp [aggB, Tryd.underlying101]
attribute [go_sem] Tryd.underlying101 tsz101 tby101 tz101 agg101
-- t 103 func([]string, int, int) (int, slices.sortedHint)
theorem tsz103 : tsz Tryd.prog 103 = some 1 := by kernel_rfl
theorem tby103 : tby Tryd.prog 103 = some 8 := by kernel_rfl
theorem tz103 : tzero Tryd.prog 103 = some (.nilFunc) := by kernel_rfl
theorem agg103 : aggB Tryd.prog 103 = some false := by simp [aggB, Tryd.underlying103]
attribute [go_sem] Tryd.underlying103 tsz103 tby103 tz103 agg103
-- t 104 func([]string, int, int) bool
theorem tsz104 : tsz Tryd.prog 104 = some 1 := by kernel_rfl
theorem tby104 : tby Tryd.prog 104 = some 8 := by kernel_rfl
theorem tz104 : tzero Tryd.prog 104 = some (.nilFunc) := by kernel_rfl
theorem agg104 : aggB Tryd.prog 104 = some false := by simp [aggB, Tryd.underlying104]
attribute [go_sem] Tryd.underlying104 tsz104 tby104 tz104 agg104
-- t 105 func(string, string) bool
theorem tsz105 : tsz Tryd.prog 105 = some 1 := by kernel_rfl
theorem tby105 : tby Tryd.prog 105 = some 8 := by kernel_rfl
theorem tz105 : tzero Tryd.prog 105 = some (.nilFunc) := by kernel_rfl
theorem agg105 : aggB Tryd.prog 105 = some false := by simp [aggB, Tryd.underlying105]
attribute [go_sem] Tryd.underlying105 tsz105 tby105 tz105 agg105
-- t 106 func([]string, int, int, int) int
theorem tsz106 : tsz Tryd.prog 106 = some 1 := by kernel_rfl
theorem tby106 : tby Tryd.prog 106 = some 8 := by kernel_rfl
theorem tz106 : tzero Tryd.prog 106 = some (.nilFunc) := by kernel_rfl
theorem agg106 : aggB Tryd.prog 106 = some false := by simp [aggB, Tryd.underlying106]
attribute [go_sem] Tryd.underlying106 tsz106 tby106 tz106 agg106
-- t 108 func([]string, int, int, int) (int, bool)
theorem tsz108 : tsz Tryd.prog 108 = some 1 := by kernel_rfl
theorem tby108 : tby Tryd.prog 108 = some 8 := by kernel_rfl
theorem tz108 : tzero Tryd.prog 108 = some (.nilFunc) := by kernel_rfl
theorem agg108 : aggB Tryd.prog 108 = some false := by simp [aggB, Tryd.underlying108]
attribute [go_sem] Tryd.underlying108 tsz108 tby108 tz108 agg108
-- t 109 func(uint32) int
theorem tsz109 : tsz Tryd.prog 109 = some 1 := by kernel_rfl
theorem tby109 : tby Tryd.prog 109 = some 8 := by kernel_rfl
theorem tz109 : tzero Tryd.prog 109 = some (.nilFunc) := by kernel_rfl
theorem agg109 : aggB Tryd.prog 109 = some false := by simp [aggB, Tryd.underlying109]
attribute [go_sem] Tryd.underlying109 tsz109 tby109 tz109 agg109
-- t 110 uint32
theorem tsz110 : tsz Tryd.prog 110 = some 1 := by kernel_rfl
theorem tby110 : tby Tryd.prog 110 = some 4 := by kernel_rfl
theorem tz110 : tzero Tryd.prog 110 = some (.int .u32 0) := by kernel_rfl
theorem agg110 : aggB Tryd.prog 110 = some false := by simp [aggB, Tryd.underlying110]
attribute [go_sem] Tryd.underlying110 tsz110 tby110 tz110 agg110
-- t 111 func(uint64) int
theorem tsz111 : tsz Tryd.prog 111 = some 1 := by kernel_rfl
theorem tby111 : tby Tryd.prog 111 = some 8 := by kernel_rfl
theorem tz111 : tzero Tryd.prog 111 = some (.nilFunc) := by kernel_rfl
theorem agg111 : aggB Tryd.prog 111 = some false := by simp [aggB, Tryd.underlying111]
attribute [go_sem] Tryd.underlying111 tsz111 tby111 tz111 agg111
-- t 112 func(string, uint8) int
theorem tsz112 : tsz Tryd.prog 112 = some 1 := by kernel_rfl
theorem tby112 : tby Tryd.prog 112 = some 8 := by kernel_rfl
theorem tz112 : tzero Tryd.prog 112 = some (.nilFunc) := by kernel_rfl
theorem agg112 : aggB Tryd.prog 112 = some false := by simp [aggB, Tryd.underlying112]
attribute [go_sem] Tryd.underlying112 tsz112 tby112 tz112 agg112
-- t 113 func(int) int
theorem tsz113 : tsz Tryd.prog 113 = some 1 := by kernel_rfl
theorem tby113 : tby Tryd.prog 113 = some 8 := by kernel_rfl
theorem tz113 : tzero Tryd.prog 113 = some (.nilFunc) := by kernel_rfl
theorem agg113 : aggB Tryd.prog 113 = some false := by simp [aggB, Tryd.underlying113]
attribute [go_sem] Tryd.underlying113 tsz113 tby113 tz113 agg113
-- t 115 func(string) (int32, int)
theorem tsz115 : tsz Tryd.prog 115 = some 1 := by kernel_rfl
theorem tby115 : tby Tryd.prog 115 = some 8 := by kernel_rfl
theorem tz115 : tzero Tryd.prog 115 = some (.nilFunc) := by kernel_rfl
theorem agg115 : aggB Tryd.prog 115 = some false := by simp [aggB, Tryd.underlying115]
attribute [go_sem] Tryd.underlying115 tsz115 tby115 tz115 agg115
-- t 116 slices.xorshift
theorem tsz116 : tsz Tryd.prog 116 = some 1 := by kernel_rfl
theorem tby116 : tby Tryd.prog 116 = some 8 := by kernel_rfl
theorem tz116 : tzero Tryd.prog 116 = some (.int .u64 0) := by kernel_rfl
theorem agg116 : aggB Tryd.prog 116 = some false := by simp [aggB, Tryd.underlying116]
attribute [go_sem] Tryd.underlying116 tsz116 tby116 tz116 agg116
-- t 117 func(int) uint
theorem tsz117 : tsz Tryd.prog 117 = some 1 := by kernel_rfl
theorem tby117 : tby Tryd.prog 117 = some 8 := by kernel_rfl
theorem tz117 : tzero Tryd.prog 117 = some (.nilFunc) := by kernel_rfl
theorem agg117 : aggB Tryd.prog 117 = some false := by simp [aggB, Tryd.underlying117]
attribute [go_sem] Tryd.underlying117 tsz117 tby117 tz117 agg117
-- t 118 func() uint64
theorem tsz118 : tsz Tryd.prog 118 = some 1 := by kernel_rfl
theorem tby118 : tby Tryd.prog 118 = some 8 := by kernel_rfl
theorem tz118 : tzero Tryd.prog 118 = some (.nilFunc) := by kernel_rfl
theorem agg118 : aggB Tryd.prog 118 = some false := by simp [aggB, Tryd.underlying118]
attribute [go_sem] Tryd.underlying118 tsz118 tby118 tz118 agg118
-- t 119 func([]string, int, *int) int
theorem tsz119 : tsz Tryd.prog 119 = some 1 := by kernel_rfl
theorem tby119 : tby Tryd.prog 119 = some 8 := by kernel_rfl
theorem tz119 : tzero Tryd.prog 119 = some (.nilFunc) := by kernel_rfl
theorem agg119 : aggB Tryd.prog 119 = some false := by simp [aggB, Tryd.underlying119]
attribute [go_sem] Tryd.underlying119 tsz119 tby119 tz119 agg119
-- t 120 *int
theorem tsz120 : tsz Tryd.prog 120 = some 1 := by kernel_rfl
theorem tby120 : tby Tryd.prog 120 = some 8 := by kernel_rfl
theorem tz120 : tzero Tryd.prog 120 = some (.pointer none) := by kernel_rfl
theorem agg120 : aggB Tryd.prog 120 = some false := by simp [aggB, Tryd.underlying120]
attribute [go_sem] Tryd.underlying120 tsz120 tby120 tz120 agg120
-- t 121 func([]string, int, int, int, *int) int
theorem tsz121 : tsz Tryd.prog 121 = some 1 := by kernel_rfl
theorem tby121 : tby Tryd.prog 121 = some 8 := by kernel_rfl
theorem tz121 : tzero Tryd.prog 121 = some (.nilFunc) := by kernel_rfl
theorem agg121 : aggB Tryd.prog 121 = some false := by simp [aggB, Tryd.underlying121]
attribute [go_sem] Tryd.underlying121 tsz121 tby121 tz121 agg121
-- t 123 func(string) (uint32, uint32)
theorem tsz123 : tsz Tryd.prog 123 = some 1 := by kernel_rfl
theorem tby123 : tby Tryd.prog 123 = some 8 := by kernel_rfl
theorem tz123 : tzero Tryd.prog 123 = some (.nilFunc) := by kernel_rfl
theorem agg123 : aggB Tryd.prog 123 = some false := by simp [aggB, Tryd.underlying123]
attribute [go_sem] Tryd.underlying123 tsz123 tby123 tz123 agg123
-- t 124 *slices.xorshift
theorem tsz124 : tsz Tryd.prog 124 = some 1 := by kernel_rfl
theorem tby124 : tby Tryd.prog 124 = some 8 := by kernel_rfl
theorem tz124 : tzero Tryd.prog 124 = some (.pointer none) := by kernel_rfl
theorem agg124 : aggB Tryd.prog 124 = some false := by simp [aggB, Tryd.underlying124]
attribute [go_sem] Tryd.underlying124 tsz124 tby124 tz124 agg124
-- t 126 func([]string, int, int, *int) (int, int)
theorem tsz126 : tsz Tryd.prog 126 = some 1 := by kernel_rfl
theorem tby126 : tby Tryd.prog 126 = some 8 := by kernel_rfl
theorem tz126 : tzero Tryd.prog 126 = some (.nilFunc) := by kernel_rfl
theorem agg126 : aggB Tryd.prog 126 = some false := by simp [aggB, Tryd.underlying126]
attribute [go_sem] Tryd.underlying126 tsz126 tby126 tz126 agg126
-- t 127 [256]uint8
theorem tsz127 : tsz Tryd.prog 127 = some 256 := by kernel_rfl
theorem tby127 : tby Tryd.prog 127 = some 256 := by kernel_rfl
theorem agg127 : aggB Tryd.prog 127 = some true := by simp [aggB, Tryd.underlying127]
attribute [go_sem] Tryd.underlying127 tsz127 tby127 agg127
-- t 128 struct ( lo uint8; hi uint8 )
theorem tsz128 : tsz Tryd.prog 128 = some 2 := by kernel_rfl
theorem tby128 : tby Tryd.prog 128 = some 2 := by kernel_rfl
theorem tz128 : tzero Tryd.prog 128 = some (.agg #[.int .u8 0, .int .u8 0]) := by kernel_rfl
theorem agg128 : aggB Tryd.prog 128 = some true := by simp [aggB, Tryd.underlying128]
attribute [go_sem] Tryd.underlying128 tsz128 tby128 tz128 agg128
-- t 129 utf8.acceptRange = unicode/utf8.acceptRange
theorem tsz129 : tsz Tryd.prog 129 = some 2 := by kernel_rfl
theorem tby129 : tby Tryd.prog 129 = some 2 := by kernel_rfl
theorem tz129 : tzero Tryd.prog 129 = some (.agg #[.int .u8 0, .int .u8 0]) := by kernel_rfl
theorem agg129 : aggB Tryd.prog 129 = some true := by simp [aggB, Tryd.underlying129]
attribute [go_sem] Tryd.underlying129 tsz129 tby129 tz129 agg129
-- t 130 [16]utf8.acceptRange
theorem tsz130 : tsz Tryd.prog 130 = some 32 := by kernel_rfl
theorem tby130 : tby Tryd.prog 130 = some 32 := by kernel_rfl
theorem agg130 : aggB Tryd.prog 130 = some true := by simp [aggB, Tryd.underlying130]
attribute [go_sem] Tryd.underlying130 tsz130 tby130 agg130
-- t 131 func() string
theorem tsz131 : tsz Tryd.prog 131 = some 1 := by kernel_rfl
theorem tby131 : tby Tryd.prog 131 = some 8 := by kernel_rfl
theorem tz131 : tzero Tryd.prog 131 = some (.nilFunc) := by kernel_rfl
theorem agg131 : aggB Tryd.prog 131 = some false := by simp [aggB, Tryd.underlying131]
attribute [go_sem] Tryd.underlying131 tsz131 tby131 tz131 agg131
-- t 137 func() int
theorem tsz137 : tsz Tryd.prog 137 = some 1 := by kernel_rfl
theorem tby137 : tby Tryd.prog 137 = some 8 := by kernel_rfl
theorem tz137 : tzero Tryd.prog 137 = some (.nilFunc) := by kernel_rfl
theorem agg137 : aggB Tryd.prog 137 = some false := by simp [aggB, Tryd.underlying137]
attribute [go_sem] Tryd.underlying137 tsz137 tby137 tz137 agg137
-- t 141 *uint8
theorem tsz141 : tsz Tryd.prog 141 = some 1 := by kernel_rfl
theorem tby141 : tby Tryd.prog 141 = some 8 := by kernel_rfl
theorem tz141 : tzero Tryd.prog 141 = some (.pointer none) := by kernel_rfl
theorem agg141 : aggB Tryd.prog 141 = some false := by simp [aggB, Tryd.underlying141]
attribute [go_sem] Tryd.underlying141 tsz141 tby141 tz141 agg141
end L11
