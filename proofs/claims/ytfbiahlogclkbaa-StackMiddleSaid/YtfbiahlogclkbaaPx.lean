-- PRINTED BY print.sh 35421559b90ae4d0a3588c463048766b98c2df88dd9212a6774a882060cdf62d: not written by this session
import Derived.Test.YtfbiahlogclkbaaPx0
import Derived.Test.YtfbiahlogclkbaaPx1
import Derived.Test.YtfbiahlogclkbaaPx2
import Derived.Test.YtfbiahlogclkbaaPx3
import Derived.Test.YtfbiahlogclkbaaPx4
namespace Go.Proofs.Ytfbiahlogclkbaa.P
open Go.RowKit Go.Proofs.YtfbiahlogclkbaaW.PrintWords Go.Proofs.YtfbiahlogclkbaaW.PrintLast Go.Proofs.YtfbiahlogclkbaaW.PrintMore
attribute [local go_sem] max2_int min2_int max_two min_two max_three min_three max_four min_four   -- for this text's walks alone
set_option linter.unusedVariables false
set_option linter.unusedSimpArgs false

end Go.Proofs.Ytfbiahlogclkbaa.P
