import Derived.RangeFuncNested
import Derived.RangeFuncCalls
import Derived.OwnWalkIn
import Derived.Orders
import Derived.OrdersIn
set_option linter.unusedVariables false
namespace Lum
open Go
def noDefer (o:Oper):Bool:=match o.op with | .defer _ => false | _ => true
end Lum
