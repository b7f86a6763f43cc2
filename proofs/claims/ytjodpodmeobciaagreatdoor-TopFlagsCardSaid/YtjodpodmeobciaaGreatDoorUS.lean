/- The eventflag's kernel ahead of the call that sets the bits, for each number of tasks. Conditions: none. -/
import Derived.Test.YtjodpodmeobciaaGreatDoorUM
namespace Go.Proofs.YtjodpodmeobciaaGreatDoor
open Go.Rsf
set_option maxRecDepth 100000
noncomputable section
def i0 : Pth := .e
def i133 : Pth := (.z (.s (.s (.z (.z (.z (.z .e)))))))
def i134 : Pth := (.s (.s (.s (.z (.z (.z (.z .e)))))))
def i135 : Pth := (.z (.z (.z (.s (.z (.z (.z .e)))))))
def i136 : Pth := (.s (.z (.z (.s (.z (.z (.z .e)))))))
def i137 : Pth := (.z (.s (.z (.s (.z (.z (.z .e)))))))
def i138 : Pth := (.s (.s (.z (.s (.z (.z (.z .e)))))))
def i139 : Pth := (.z (.z (.s (.s (.z (.z (.z .e)))))))
def i140 : Pth := (.s (.z (.s (.s (.z (.z (.z .e)))))))
def i141 : Pth := (.z (.s (.s (.s (.z (.z (.z .e)))))))
def i142 : Pth := (.s (.s (.s (.s (.z (.z (.z .e)))))))
def i143 : Pth := (.z (.z (.z (.z (.s (.z (.z .e)))))))
def i144 : Pth := (.s (.z (.z (.z (.s (.z (.z .e)))))))
def i145 : Pth := (.z (.s (.z (.z (.s (.z (.z .e)))))))
def i146 : Pth := (.s (.s (.z (.z (.s (.z (.z .e)))))))
def i147 : Pth := (.z (.z (.s (.z (.s (.z (.z .e)))))))
def i148 : Pth := (.s (.z (.s (.z (.s (.z (.z .e)))))))
def i149 : Pth := (.z (.s (.s (.z (.s (.z (.z .e)))))))
def i150 : Pth := (.s (.s (.s (.z (.s (.z (.z .e)))))))
def i151 : Pth := (.z (.z (.z (.s (.s (.z (.z .e)))))))
def i152 : Pth := (.s (.z (.z (.s (.s (.z (.z .e)))))))
def i153 : Pth := (.z (.s (.z (.s (.s (.z (.z .e)))))))
def i154 : Pth := (.s (.s (.z (.s (.s (.z (.z .e)))))))
def i155 : Pth := (.z (.z (.s (.s (.s (.z (.z .e)))))))
def i156 : Pth := (.s (.z (.s (.s (.s (.z (.z .e)))))))
def i157 : Pth := (.z (.s (.s (.s (.s (.z (.z .e)))))))
def i158 : Pth := (.s (.s (.s (.s (.s (.z (.z .e)))))))
def i159 : Pth := (.z (.z (.z (.z (.z (.s (.z .e)))))))
def i160 : Pth := (.s (.z (.z (.z (.z (.s (.z .e)))))))
def i161 : Pth := (.z (.s (.z (.z (.z (.s (.z .e)))))))
def i162 : Pth := (.s (.s (.z (.z (.z (.s (.z .e)))))))
def i163 : Pth := (.z (.z (.s (.z (.z (.s (.z .e)))))))
def i164 : Pth := (.s (.z (.s (.z (.z (.s (.z .e)))))))
def i165 : Pth := (.z (.s (.s (.z (.z (.s (.z .e)))))))
def i166 : Pth := (.s (.s (.s (.z (.z (.s (.z .e)))))))
def i167 : Pth := (.z (.z (.z (.s (.z (.s (.z .e)))))))
def i168 : Pth := (.s (.z (.z (.s (.z (.s (.z .e)))))))
def i169 : Pth := (.z (.s (.z (.s (.z (.s (.z .e)))))))
def i170 : Pth := (.s (.s (.z (.s (.z (.s (.z .e)))))))
def i171 : Pth := (.z (.z (.s (.s (.z (.s (.z .e)))))))
def i172 : Pth := (.s (.z (.s (.s (.z (.s (.z .e)))))))
def i173 : Pth := (.z (.s (.s (.s (.z (.s (.z .e)))))))
def i174 : Pth := (.s (.s (.s (.s (.z (.s (.z .e)))))))
def i175 : Pth := (.z (.z (.z (.z (.s (.s (.z .e)))))))
def i176 : Pth := (.s (.z (.z (.z (.s (.s (.z .e)))))))
def i177 : Pth := (.z (.s (.z (.z (.s (.s (.z .e)))))))
def i178 : Pth := (.s (.s (.z (.z (.s (.s (.z .e)))))))
def i179 : Pth := (.z (.z (.s (.z (.s (.s (.z .e)))))))
def i180 : Pth := (.s (.z (.s (.z (.s (.s (.z .e)))))))
def i181 : Pth := (.z (.s (.s (.z (.s (.s (.z .e)))))))
def i182 : Pth := (.s (.s (.s (.z (.s (.s (.z .e)))))))
def i183 : Pth := (.z (.z (.z (.s (.s (.s (.z .e)))))))
def i184 : Pth := (.s (.z (.z (.s (.s (.s (.z .e)))))))
def i185 : Pth := (.z (.s (.z (.s (.s (.s (.z .e)))))))
def i186 : Pth := (.s (.s (.z (.s (.s (.s (.z .e)))))))
def i187 : Pth := (.z (.z (.s (.s (.s (.s (.z .e)))))))
def i188 : Pth := (.s (.z (.s (.s (.s (.s (.z .e)))))))
def i189 : Pth := (.z (.s (.s (.s (.s (.s (.z .e)))))))
def i190 : Pth := (.s (.s (.s (.s (.s (.s (.z .e)))))))
def i191 : Pth := (.z (.z (.z (.z (.z (.z (.s .e)))))))
def i192 : Pth := (.s (.z (.z (.z (.z (.z (.s .e)))))))
def i193 : Pth := (.z (.s (.z (.z (.z (.z (.s .e)))))))
def i194 : Pth := (.s (.s (.z (.z (.z (.z (.s .e)))))))
def i195 : Pth := (.z (.z (.s (.z (.z (.z (.s .e)))))))
def i196 : Pth := (.s (.z (.s (.z (.z (.z (.s .e)))))))
def i197 : Pth := (.z (.s (.s (.z (.z (.z (.s .e)))))))
def i198 : Pth := (.s (.s (.s (.z (.z (.z (.s .e)))))))
def i199 : Pth := (.z (.z (.z (.s (.z (.z (.s .e)))))))
def i200 : Pth := (.s (.z (.z (.s (.z (.z (.s .e)))))))
def i201 : Pth := (.z (.s (.z (.s (.z (.z (.s .e)))))))
def i202 : Pth := (.s (.s (.z (.s (.z (.z (.s .e)))))))
def i203 : Pth := (.z (.z (.s (.s (.z (.z (.s .e)))))))
def i204 : Pth := (.s (.z (.s (.s (.z (.z (.s .e)))))))
def i205 : Pth := (.z (.s (.s (.s (.z (.z (.s .e)))))))
def i206 : Pth := (.s (.s (.s (.s (.z (.z (.s .e)))))))
def i207 : Pth := (.z (.z (.z (.z (.s (.z (.s .e)))))))
def i208 : Pth := (.s (.z (.z (.z (.s (.z (.s .e)))))))
def i209 : Pth := (.z (.s (.z (.z (.s (.z (.s .e)))))))
def i210 : Pth := (.s (.s (.z (.z (.s (.z (.s .e)))))))
def i211 : Pth := (.z (.z (.s (.z (.s (.z (.s .e)))))))
def i212 : Pth := (.s (.z (.s (.z (.s (.z (.s .e)))))))
def i213 : Pth := (.z (.s (.s (.z (.s (.z (.s .e)))))))
def i214 : Pth := (.s (.s (.s (.z (.s (.z (.s .e)))))))
def i215 : Pth := (.z (.z (.z (.s (.s (.z (.s .e)))))))
def i216 : Pth := (.s (.z (.z (.s (.s (.z (.s .e)))))))
def i217 : Pth := (.z (.s (.z (.s (.s (.z (.s .e)))))))
def i218 : Pth := (.s (.s (.z (.s (.s (.z (.s .e)))))))
def i219 : Pth := (.z (.z (.s (.s (.s (.z (.s .e)))))))
def i220 : Pth := (.s (.z (.s (.s (.s (.z (.s .e)))))))
def i221 : Pth := (.z (.s (.s (.s (.s (.z (.s .e)))))))
def i222 : Pth := (.s (.s (.s (.s (.s (.z (.s .e)))))))
def i223 : Pth := (.z (.z (.z (.z (.z (.s (.s .e)))))))
def i224 : Pth := (.s (.z (.z (.z (.z (.s (.s .e)))))))
def i225 : Pth := (.z (.s (.z (.z (.z (.s (.s .e)))))))
def i226 : Pth := (.s (.s (.z (.z (.z (.s (.s .e)))))))
def i227 : Pth := (.z (.z (.s (.z (.z (.s (.s .e)))))))
def i228 : Pth := (.s (.z (.s (.z (.z (.s (.s .e)))))))
def i229 : Pth := (.z (.s (.s (.z (.z (.s (.s .e)))))))
def i230 : Pth := (.s (.s (.s (.z (.z (.s (.s .e)))))))
def i231 : Pth := (.z (.z (.z (.s (.z (.s (.s .e)))))))
def i232 : Pth := (.s (.z (.z (.s (.z (.s (.s .e)))))))
def i233 : Pth := (.z (.s (.z (.s (.z (.s (.s .e)))))))
def i234 : Pth := (.s (.s (.z (.s (.z (.s (.s .e)))))))
def i235 : Pth := (.z (.z (.s (.s (.z (.s (.s .e)))))))
def i236 : Pth := (.s (.z (.s (.s (.z (.s (.s .e)))))))
def i237 : Pth := (.z (.s (.s (.s (.z (.s (.s .e)))))))
def i238 : Pth := (.s (.s (.s (.s (.z (.s (.s .e)))))))
def i239 : Pth := (.z (.z (.z (.z (.s (.s (.s .e)))))))
def i240 : Pth := (.s (.z (.z (.z (.s (.s (.s .e)))))))
def i241 : Pth := (.z (.s (.z (.z (.s (.s (.s .e)))))))
def i242 : Pth := (.s (.s (.z (.z (.s (.s (.s .e)))))))
def i243 : Pth := (.z (.z (.s (.z (.s (.s (.s .e)))))))
def i244 : Pth := (.s (.z (.s (.z (.s (.s (.s .e)))))))
def i245 : Pth := (.z (.s (.s (.z (.s (.s (.s .e)))))))
def i246 : Pth := (.s (.s (.s (.z (.s (.s (.s .e)))))))
def i247 : Pth := (.z (.z (.z (.s (.s (.s (.s .e)))))))
def i248 : Pth := (.s (.z (.z (.s (.s (.s (.s .e)))))))
def i249 : Pth := (.z (.s (.z (.s (.s (.s (.s .e)))))))
def i250 : Pth := (.s (.s (.z (.s (.s (.s (.s .e)))))))
def i251 : Pth := (.z (.z (.s (.s (.s (.s (.s .e)))))))
def i252 : Pth := (.s (.z (.s (.s (.s (.s (.s .e)))))))
def i253 : Pth := (.z (.s (.s (.s (.s (.s (.s .e)))))))
def i254 : Pth := (.s (.s (.s (.s (.s (.s (.s .e)))))))
def i255 : Pth := (.z (.z (.z (.z (.z (.z (.z (.z .e))))))))
def i256 : Pth := (.s (.z (.z (.z (.z (.z (.z (.z .e))))))))
def i257 : Pth := (.z (.s (.z (.z (.z (.z (.z (.z .e))))))))
def i258 : Pth := (.s (.s (.z (.z (.z (.z (.z (.z .e))))))))
def i259 : Pth := (.z (.z (.s (.z (.z (.z (.z (.z .e))))))))
def i260 : Pth := (.s (.z (.s (.z (.z (.z (.z (.z .e))))))))
def i261 : Pth := (.z (.s (.s (.z (.z (.z (.z (.z .e))))))))
def i262 : Pth := (.s (.s (.s (.z (.z (.z (.z (.z .e))))))))
def i264 : Pth := (.s (.z (.z (.s (.z (.z (.z (.z .e))))))))
def i265 : Pth := (.z (.s (.z (.s (.z (.z (.z (.z .e))))))))
def i266 : Pth := (.s (.s (.z (.s (.z (.z (.z (.z .e))))))))
def i267 : Pth := (.z (.z (.s (.s (.z (.z (.z (.z .e))))))))
def i268 : Pth := (.s (.z (.s (.s (.z (.z (.z (.z .e))))))))
def i270 : Pth := (.s (.s (.s (.s (.z (.z (.z (.z .e))))))))
def i272 : Pth := (.s (.z (.z (.z (.s (.z (.z (.z .e))))))))
def i273 : Pth := (.z (.s (.z (.z (.s (.z (.z (.z .e))))))))
def i274 : Pth := (.s (.s (.z (.z (.s (.z (.z (.z .e))))))))
def i275 : Pth := (.z (.z (.s (.z (.s (.z (.z (.z .e))))))))
def i276 : Pth := (.s (.z (.s (.z (.s (.z (.z (.z .e))))))))
def i278 : Pth := (.s (.s (.s (.z (.s (.z (.z (.z .e))))))))
def i280 : Pth := (.s (.z (.z (.s (.s (.z (.z (.z .e))))))))
def i282 : Pth := (.s (.s (.z (.s (.s (.z (.z (.z .e))))))))
def i283 : Pth := (.z (.z (.s (.s (.s (.z (.z (.z .e))))))))
def i284 : Pth := (.s (.z (.s (.s (.s (.z (.z (.z .e))))))))
def i286 : Pth := (.s (.s (.s (.s (.s (.z (.z (.z .e))))))))
def i288 : Pth := (.s (.z (.z (.z (.z (.s (.z (.z .e))))))))
def i289 : Pth := (.z (.s (.z (.z (.z (.s (.z (.z .e))))))))
def i290 : Pth := (.s (.s (.z (.z (.z (.s (.z (.z .e))))))))
def i292 : Pth := (.s (.z (.s (.z (.z (.s (.z (.z .e))))))))
def i294 : Pth := (.s (.s (.s (.z (.z (.s (.z (.z .e))))))))
def i296 : Pth := (.s (.z (.z (.s (.z (.s (.z (.z .e))))))))
def i298 : Pth := (.s (.s (.z (.s (.z (.s (.z (.z .e))))))))
def i300 : Pth := (.s (.z (.s (.s (.z (.s (.z (.z .e))))))))
def i302 : Pth := (.s (.s (.s (.s (.z (.s (.z (.z .e))))))))
def i304 : Pth := (.s (.z (.z (.z (.s (.s (.z (.z .e))))))))
def i306 : Pth := (.s (.s (.z (.z (.s (.s (.z (.z .e))))))))
def i308 : Pth := (.s (.z (.s (.z (.s (.s (.z (.z .e))))))))
def i310 : Pth := (.s (.s (.s (.z (.s (.s (.z (.z .e))))))))
def i312 : Pth := (.s (.z (.z (.s (.s (.s (.z (.z .e))))))))
def i314 : Pth := (.s (.s (.z (.s (.s (.s (.z (.z .e))))))))
def i315 : Pth := (.z (.z (.s (.s (.s (.s (.z (.z .e))))))))
def i316 : Pth := (.s (.z (.s (.s (.s (.s (.z (.z .e))))))))
def i318 : Pth := (.s (.s (.s (.s (.s (.s (.z (.z .e))))))))
def i320 : Pth := (.s (.z (.z (.z (.z (.z (.s (.z .e))))))))
def i322 : Pth := (.s (.s (.z (.z (.z (.z (.s (.z .e))))))))
def i323 : Pth := (.z (.z (.s (.z (.z (.z (.s (.z .e))))))))
def i324 : Pth := (.s (.z (.s (.z (.z (.z (.s (.z .e))))))))
def i326 : Pth := (.s (.s (.s (.z (.z (.z (.s (.z .e))))))))
def i328 : Pth := (.s (.z (.z (.s (.z (.z (.s (.z .e))))))))
def i330 : Pth := (.s (.s (.z (.s (.z (.z (.s (.z .e))))))))
def i331 : Pth := (.z (.z (.s (.s (.z (.z (.s (.z .e))))))))
def i332 : Pth := (.s (.z (.s (.s (.z (.z (.s (.z .e))))))))
def i334 : Pth := (.s (.s (.s (.s (.z (.z (.s (.z .e))))))))
def i336 : Pth := (.s (.z (.z (.z (.s (.z (.s (.z .e))))))))
def i338 : Pth := (.s (.s (.z (.z (.s (.z (.s (.z .e))))))))
def i340 : Pth := (.s (.z (.s (.z (.s (.z (.s (.z .e))))))))
def i342 : Pth := (.s (.s (.s (.z (.s (.z (.s (.z .e))))))))
def i344 : Pth := (.s (.z (.z (.s (.s (.z (.s (.z .e))))))))
def i346 : Pth := (.s (.s (.z (.s (.s (.z (.s (.z .e))))))))
def i350 : Pth := (.s (.s (.s (.s (.s (.z (.s (.z .e))))))))
def i352 : Pth := (.s (.z (.z (.z (.z (.s (.s (.z .e))))))))
def i356 : Pth := (.s (.z (.s (.z (.z (.s (.s (.z .e))))))))
def i357 : Pth := (.z (.s (.s (.z (.z (.s (.s (.z .e))))))))
def i358 : Pth := (.s (.s (.s (.z (.z (.s (.s (.z .e))))))))
def i364 : Pth := (.s (.z (.s (.s (.z (.s (.s (.z .e))))))))
def i365 : Pth := (.z (.s (.s (.s (.z (.s (.s (.z .e))))))))
def i366 : Pth := (.s (.s (.s (.s (.z (.s (.s (.z .e))))))))
def i370 : Pth := (.s (.s (.z (.z (.s (.s (.s (.z .e))))))))
def i372 : Pth := (.s (.z (.s (.z (.s (.s (.s (.z .e))))))))
def i373 : Pth := (.z (.s (.s (.z (.s (.s (.s (.z .e))))))))
def i400 : Pth := (.s (.z (.z (.z (.s (.z (.z (.s .e))))))))
def i408 : Pth := (.s (.z (.z (.s (.s (.z (.z (.s .e))))))))
def i409 : Pth := (.z (.s (.z (.s (.s (.z (.z (.s .e))))))))
def i415 : Pth := (.z (.z (.z (.z (.z (.s (.z (.s .e))))))))
def i416 : Pth := (.s (.z (.z (.z (.z (.s (.z (.s .e))))))))
def i444 : Pth := (.s (.z (.s (.s (.s (.s (.z (.s .e))))))))
def i452 : Pth := (.s (.z (.s (.z (.z (.z (.s (.s .e))))))))
def i453 : Pth := (.z (.s (.s (.z (.z (.z (.s (.s .e))))))))
def i459 : Pth := (.z (.z (.s (.s (.z (.z (.s (.s .e))))))))
def i460 : Pth := (.s (.z (.s (.s (.z (.z (.s (.s .e))))))))
def i489 : Pth := (.z (.s (.z (.s (.z (.s (.s (.s .e))))))))
def i497 : Pth := (.z (.s (.z (.z (.s (.s (.s (.s .e))))))))
def i498 : Pth := (.s (.s (.z (.z (.s (.s (.s (.s .e))))))))
def i504 : Pth := (.s (.z (.z (.s (.s (.s (.s (.s .e))))))))
def i505 : Pth := (.z (.s (.z (.s (.s (.s (.s (.s .e))))))))
def i535 : Pth := (.z (.z (.z (.s (.s (.z (.z (.z (.z .e)))))))))
def i543 : Pth := (.z (.z (.z (.z (.z (.s (.z (.z (.z .e)))))))))
def i544 : Pth := (.s (.z (.z (.z (.z (.s (.z (.z (.z .e)))))))))
def i550 : Pth := (.s (.s (.s (.z (.z (.s (.z (.z (.z .e)))))))))
def i551 : Pth := (.z (.z (.z (.s (.z (.s (.z (.z (.z .e)))))))))
def i582 : Pth := (.s (.s (.s (.z (.z (.z (.s (.z (.z .e)))))))))
def i590 : Pth := (.s (.s (.s (.s (.z (.z (.s (.z (.z .e)))))))))
def i591 : Pth := (.z (.z (.z (.z (.s (.z (.s (.z (.z .e)))))))))
def i597 : Pth := (.z (.s (.s (.z (.s (.z (.s (.z (.z .e)))))))))
def i598 : Pth := (.s (.s (.s (.z (.s (.z (.s (.z (.z .e)))))))))
def i630 : Pth := (.s (.s (.s (.z (.s (.s (.s (.z (.z .e)))))))))
def i638 : Pth := (.s (.s (.s (.s (.s (.s (.s (.z (.z .e)))))))))
def i639 : Pth := (.z (.z (.z (.z (.z (.z (.z (.s (.z .e)))))))))
def i645 : Pth := (.z (.s (.s (.z (.z (.z (.z (.s (.z .e)))))))))
def i646 : Pth := (.s (.s (.s (.z (.z (.z (.z (.s (.z .e)))))))))
def i679 : Pth := (.z (.z (.z (.s (.z (.s (.z (.s (.z .e)))))))))
def i687 : Pth := (.z (.z (.z (.z (.s (.s (.z (.s (.z .e)))))))))
def i688 : Pth := (.s (.z (.z (.z (.s (.s (.z (.s (.z .e)))))))))
def i694 : Pth := (.s (.s (.s (.z (.s (.s (.z (.s (.z .e)))))))))
def i695 : Pth := (.z (.z (.z (.s (.s (.s (.z (.s (.z .e)))))))))
def i729 : Pth := (.z (.s (.z (.s (.s (.z (.s (.s (.z .e)))))))))
def i737 : Pth := (.z (.s (.z (.z (.z (.s (.s (.s (.z .e)))))))))
def i738 : Pth := (.s (.s (.z (.z (.z (.s (.s (.s (.z .e)))))))))
def i744 : Pth := (.s (.z (.z (.s (.z (.s (.s (.s (.z .e)))))))))
def i745 : Pth := (.z (.s (.z (.s (.z (.s (.s (.s (.z .e)))))))))
def i780 : Pth := (.s (.z (.s (.s (.z (.z (.z (.z (.s .e)))))))))
def i788 : Pth := (.s (.z (.s (.z (.s (.z (.z (.z (.s .e)))))))))
def i789 : Pth := (.z (.s (.s (.z (.s (.z (.z (.z (.s .e)))))))))
def i795 : Pth := (.z (.z (.s (.s (.s (.z (.z (.z (.s .e)))))))))
def i796 : Pth := (.s (.z (.s (.s (.s (.z (.z (.z (.s .e)))))))))
def i832 : Pth := (.s (.z (.z (.z (.z (.z (.s (.z (.s .e)))))))))
def i840 : Pth := (.s (.z (.z (.s (.z (.z (.s (.z (.s .e)))))))))
def i841 : Pth := (.z (.s (.z (.s (.z (.z (.s (.z (.s .e)))))))))
def i847 : Pth := (.z (.z (.z (.z (.s (.z (.s (.z (.s .e)))))))))
def i848 : Pth := (.s (.z (.z (.z (.s (.z (.s (.z (.s .e)))))))))
def lit0 : LitS := ⟨0, i136, 173, i173, [
  (i0, .tab tab),
  (i133, .row false [.nils, .bool false, .bool false]),
  (i134, .row false [.int .u64 (.ofNat 32768), .int .u64 (.ofNat 0), .int .u64 (.ofNat 0), .int .u64 (.ofNat 0), .nils, .nils, .nils, .nils, .nils, .nils, .nils, .nils, .nils, .nils, .nils, .nils, .nils, .nils, .nils, .nils, .slU i160 0 1 1, .int .i64 (.ofNat 0), .int .i64 (.ofNat 16), .int .i64 (.ofNat 0), .int .i64 (.ofNat 0), .int .i64 (.ofNat 0), .int .i64 (.ofNat 0), .int .i64 (.ofNat 0), .int .i64 (.ofNat 0), .int .i64 (.ofNat 0), .int .i64 (.ofNat 0), .int .i64 (.ofNat 0), .int .i64 (.ofNat 0), .int .i64 (.ofNat 0), .int .i64 (.ofNat 0), .int .i64 (.ofNat 0), .int .i64 (.ofNat 0), .int .i64 (.ofNat 0)]),
  (i136, .row false [.nils, .slU i145 0 1 1, .nils, .nils, .int .i64 (.ofNat 0), .ptr i139 0, .ptr i133 0, .ptr i149 0, .ptr i134 0, .slU i155 0 2 1, .int .i64 (.ofNat 0), .int .i64 (.ofNat 0), .int .i64 (.ofNat 1)]),
  (i138, .row false [.int .i64 (.ofNat 0), .int .i64 (.ofNat 0), .int .i64 (.ofNat 0), .nils]),
  (i139, .row false [.sl i138 0 1 1, .int .i64 (.ofNat 16), .int .i64 (.ofNat 16), .int .i64 (.ofNat 0), .int .i64 (.ofNat 16), .int .i64 (.ofNat 16), .int .i64 (.ofNat 0), .int .i64 (.ofNat 16), .int .i64 (.ofNat 16), .int .i64 (.ofNat 0), .int .i64 (.ofNat 16), .int .i64 (.ofNat 16), .int .i64 (.ofNat 0), .int .i64 (.ofNat 16), .int .i64 (.ofNat 16), .int .i64 (.ofNat 0), .int .i64 (.ofNat 16), .int .i64 (.ofNat 16), .int .i64 (.ofNat 0), .int .i64 (.ofNat 16), .int .i64 (.ofNat 16), .int .i64 (.ofNat 0), .int .i64 (.ofNat 16), .int .i64 (.ofNat 16), .int .i64 (.ofNat 0), .int .i64 (.ofNat 16), .int .i64 (.ofNat 16), .int .i64 (.ofNat 0), .int .i64 (.ofNat 16), .int .i64 (.ofNat 16), .int .i64 (.ofNat 0), .int .i64 (.ofNat 16), .int .i64 (.ofNat 16), .int .i64 (.ofNat 0), .int .i64 (.ofNat 16), .int .i64 (.ofNat 16), .int .i64 (.ofNat 0), .int .i64 (.ofNat 16), .int .i64 (.ofNat 16), .int .i64 (.ofNat 0), .int .i64 (.ofNat 16), .int .i64 (.ofNat 16), .int .i64 (.ofNat 0), .int .i64 (.ofNat 16), .int .i64 (.ofNat 16), .int .i64 (.ofNat 0), .int .i64 (.ofNat 16), .int .i64 (.ofNat 16), .int .i64 (.ofNat 0), .int .i64 (.ofNat 16), .int .i64 (.ofNat 16), .int .i64 (.ofNat 0)]),
  (i141, .row false [.nils, .bool false]),
  (i142, .map []),
  (i143, .row false [.ptr i141 0, .int .u32 (.ofNat 0), .bool true, .bool false, .map i142]),
  (i145, .row true [.ptr i143 0]),
  (i147, .row false [.nils, .int .i64 (.ofNat 0)]),
  (i148, .row false [.ptr i147 0, .int .u64 (.ofNat 1), .int .u64 (.ofNat 0), .int .u64 (.ofNat 0)]),
  (i149, .row false [.ptr i148 0, .int .u64 (.ofNat 1), .nils, .nils]),
  (i152, .row false [.int .i64 (.ofNat 0), .int .i64 (.ofNat 0), .int .i64 (.ofNat 0), .int .i64 (.ofNat 2), .bool false]),
  (i153, .row false [.ptr i152 0, .int .i64 (.ofNat 16), .int .i64 (.ofNat 16), .int .i64 (.ofNat 0), .int .i64 (.ofNat 0), .int .i64 (.ofNat 0), .int .i64 (.ofNat 0), .int .i64 (.ofNat 0)]),
  (i155, .row true [.nilp, .ptr i153 0]),
  (i160, .row true [.int .i64 (.ofNat 1)]),
  (i165, .row false [.int .i64 (.ofNat 28), .int .i64 (.ofNat 1), .lin .i64 (.ofNat 1) 0 (.ofNat 0), .int .i64 (.ofNat 0), .int .i64 (.ofNat 0)]),
  (i166, .row false [.int .i64 (.ofNat 0), .int .i64 (.ofNat 0)]),
  (i172, .row false [.int .i64 (.ofNat 0), .int .i64 (.ofNat 0)])]⟩
def lit1 : LitS := ⟨1, i138, 211, i211, [
  (i0, .tab tab),
  (i135, .row false [.nils, .bool false, .bool false]),
  (i136, .row false [.int .u64 (.ofNat 32768), .int .u64 (.ofNat 0), .int .u64 (.ofNat 0), .int .u64 (.ofNat 0), .nils, .slU i168 0 0 1, .nils, .nils, .nils, .nils, .nils, .nils, .nils, .nils, .nils, .nils, .nils, .nils, .nils, .nils, .slU i174 0 1 1, .int .i64 (.ofNat 0), .int .i64 (.ofNat 0), .int .i64 (.ofNat 16), .int .i64 (.ofNat 0), .int .i64 (.ofNat 0), .int .i64 (.ofNat 0), .int .i64 (.ofNat 0), .int .i64 (.ofNat 0), .int .i64 (.ofNat 0), .int .i64 (.ofNat 0), .int .i64 (.ofNat 0), .int .i64 (.ofNat 0), .int .i64 (.ofNat 0), .int .i64 (.ofNat 0), .int .i64 (.ofNat 0), .int .i64 (.ofNat 0), .int .i64 (.ofNat 0)]),
  (i138, .row false [.nils, .slU i147 0 1 1, .nils, .nils, .int .i64 (.ofNat 0), .ptr i141 0, .ptr i135 0, .ptr i151 0, .ptr i136 0, .slU i163 0 3 1, .int .i64 (.ofNat 0), .int .i64 (.ofNat 0), .int .i64 (.ofNat 2)]),
  (i140, .row false [.int .i64 (.ofNat 0), .int .i64 (.ofNat 0), .int .i64 (.ofNat 0), .nils]),
  (i141, .row false [.sl i140 0 1 1, .int .i64 (.ofNat 16), .int .i64 (.ofNat 16), .int .i64 (.ofNat 0), .int .i64 (.ofNat 1), .int .i64 (.ofNat 1), .int .i64 (.ofNat 0), .int .i64 (.ofNat 16), .int .i64 (.ofNat 16), .int .i64 (.ofNat 0), .int .i64 (.ofNat 16), .int .i64 (.ofNat 16), .int .i64 (.ofNat 0), .int .i64 (.ofNat 16), .int .i64 (.ofNat 16), .int .i64 (.ofNat 0), .int .i64 (.ofNat 16), .int .i64 (.ofNat 16), .int .i64 (.ofNat 0), .int .i64 (.ofNat 16), .int .i64 (.ofNat 16), .int .i64 (.ofNat 0), .int .i64 (.ofNat 16), .int .i64 (.ofNat 16), .int .i64 (.ofNat 0), .int .i64 (.ofNat 16), .int .i64 (.ofNat 16), .int .i64 (.ofNat 0), .int .i64 (.ofNat 16), .int .i64 (.ofNat 16), .int .i64 (.ofNat 0), .int .i64 (.ofNat 16), .int .i64 (.ofNat 16), .int .i64 (.ofNat 0), .int .i64 (.ofNat 16), .int .i64 (.ofNat 16), .int .i64 (.ofNat 0), .int .i64 (.ofNat 16), .int .i64 (.ofNat 16), .int .i64 (.ofNat 0), .int .i64 (.ofNat 16), .int .i64 (.ofNat 16), .int .i64 (.ofNat 0), .int .i64 (.ofNat 16), .int .i64 (.ofNat 16), .int .i64 (.ofNat 0), .int .i64 (.ofNat 16), .int .i64 (.ofNat 16), .int .i64 (.ofNat 0), .int .i64 (.ofNat 16), .int .i64 (.ofNat 16), .int .i64 (.ofNat 0)]),
  (i143, .row false [.slU i195 0 1 2, .bool false]),
  (i144, .map [((.ofNat 1), .agg [.lin .u32 (.ofNat 1) 16 (.ofNat 0), .int .i64 (.ofNat 0)])]),
  (i145, .row false [.ptr i143 0, .int .u32 (.ofNat 0), .bool true, .bool false, .map i144]),
  (i147, .row true [.ptr i145 0]),
  (i149, .row false [.nils, .int .i64 (.ofNat 0)]),
  (i150, .row false [.ptr i149 0, .int .u64 (.ofNat 1), .int .u64 (.ofNat 0), .int .u64 (.ofNat 0)]),
  (i151, .row false [.ptr i150 0, .int .u64 (.ofNat 1), .nils, .nils]),
  (i154, .row false [.int .i64 (.ofNat 0), .int .i64 (.ofNat 0), .int .i64 (.ofNat 0), .int .i64 (.ofNat 4), .bool false]),
  (i155, .row false [.ptr i154 0, .int .i64 (.ofNat 1), .int .i64 (.ofNat 1), .int .i64 (.ofNat 4), .int .i64 (.ofNat 1), .int .i64 (.ofNat 0), .int .i64 (.ofNat 0), .int .i64 (.ofNat 0)]),
  (i160, .row false [.int .i64 (.ofNat 0), .int .i64 (.ofNat 0), .int .i64 (.ofNat 0), .int .i64 (.ofNat 2), .bool false]),
  (i161, .row false [.ptr i160 0, .int .i64 (.ofNat 16), .int .i64 (.ofNat 16), .int .i64 (.ofNat 0), .int .i64 (.ofNat 0), .int .i64 (.ofNat 0), .int .i64 (.ofNat 0), .int .i64 (.ofNat 0)]),
  (i163, .row true [.nilp, .ptr i155 0, .ptr i161 0]),
  (i168, .row true [.int .i64 (.ofNat 0)]),
  (i174, .row true [.int .i64 (.ofNat 2)]),
  (i195, .row true [.int .i64 (.ofNat 1), .int .i64 (.ofNat 1)]),
  (i203, .row false [.int .i64 (.ofNat 28), .int .i64 (.ofNat 1), .lin .i64 (.ofNat 1) 0 (.ofNat 0), .int .i64 (.ofNat 0), .int .i64 (.ofNat 0)]),
  (i204, .row false [.int .i64 (.ofNat 0), .int .i64 (.ofNat 0)]),
  (i210, .row false [.int .i64 (.ofNat 0), .int .i64 (.ofNat 0)])]⟩
def lit2 : LitS := ⟨2, i140, 250, i250, [
  (i0, .tab tab),
  (i137, .row false [.nils, .bool false, .bool false]),
  (i138, .row false [.int .u64 (.ofNat 32768), .int .u64 (.ofNat 0), .int .u64 (.ofNat 0), .int .u64 (.ofNat 0), .nils, .slU i176 0 0 1, .slU i182 0 0 1, .nils, .nils, .nils, .nils, .nils, .nils, .nils, .nils, .nils, .nils, .nils, .nils, .nils, .slU i188 0 1 1, .int .i64 (.ofNat 0), .int .i64 (.ofNat 0), .int .i64 (.ofNat 0), .int .i64 (.ofNat 16), .int .i64 (.ofNat 0), .int .i64 (.ofNat 0), .int .i64 (.ofNat 0), .int .i64 (.ofNat 0), .int .i64 (.ofNat 0), .int .i64 (.ofNat 0), .int .i64 (.ofNat 0), .int .i64 (.ofNat 0), .int .i64 (.ofNat 0), .int .i64 (.ofNat 0), .int .i64 (.ofNat 0), .int .i64 (.ofNat 0), .int .i64 (.ofNat 0)]),
  (i140, .row false [.nils, .slU i149 0 1 1, .nils, .nils, .int .i64 (.ofNat 0), .ptr i143 0, .ptr i137 0, .ptr i153 0, .ptr i138 0, .slU i171 0 4 1, .int .i64 (.ofNat 0), .int .i64 (.ofNat 0), .int .i64 (.ofNat 3)]),
  (i142, .row false [.int .i64 (.ofNat 0), .int .i64 (.ofNat 0), .int .i64 (.ofNat 0), .nils]),
  (i143, .row false [.sl i142 0 1 1, .int .i64 (.ofNat 16), .int .i64 (.ofNat 16), .int .i64 (.ofNat 0), .int .i64 (.ofNat 1), .int .i64 (.ofNat 1), .int .i64 (.ofNat 0), .int .i64 (.ofNat 2), .int .i64 (.ofNat 2), .int .i64 (.ofNat 0), .int .i64 (.ofNat 16), .int .i64 (.ofNat 16), .int .i64 (.ofNat 0), .int .i64 (.ofNat 16), .int .i64 (.ofNat 16), .int .i64 (.ofNat 0), .int .i64 (.ofNat 16), .int .i64 (.ofNat 16), .int .i64 (.ofNat 0), .int .i64 (.ofNat 16), .int .i64 (.ofNat 16), .int .i64 (.ofNat 0), .int .i64 (.ofNat 16), .int .i64 (.ofNat 16), .int .i64 (.ofNat 0), .int .i64 (.ofNat 16), .int .i64 (.ofNat 16), .int .i64 (.ofNat 0), .int .i64 (.ofNat 16), .int .i64 (.ofNat 16), .int .i64 (.ofNat 0), .int .i64 (.ofNat 16), .int .i64 (.ofNat 16), .int .i64 (.ofNat 0), .int .i64 (.ofNat 16), .int .i64 (.ofNat 16), .int .i64 (.ofNat 0), .int .i64 (.ofNat 16), .int .i64 (.ofNat 16), .int .i64 (.ofNat 0), .int .i64 (.ofNat 16), .int .i64 (.ofNat 16), .int .i64 (.ofNat 0), .int .i64 (.ofNat 16), .int .i64 (.ofNat 16), .int .i64 (.ofNat 0), .int .i64 (.ofNat 16), .int .i64 (.ofNat 16), .int .i64 (.ofNat 0), .int .i64 (.ofNat 16), .int .i64 (.ofNat 16), .int .i64 (.ofNat 0)]),
  (i145, .row false [.slU i234 0 2 2, .bool false]),
  (i146, .map [((.ofNat 2), .agg [.lin .u32 (.ofNat 1) 17 (.ofNat 0), .int .i64 (.ofNat 1)]), ((.ofNat 1), .agg [.lin .u32 (.ofNat 1) 16 (.ofNat 0), .int .i64 (.ofNat 0)])]),
  (i147, .row false [.ptr i145 0, .int .u32 (.ofNat 0), .bool true, .bool false, .map i146]),
  (i149, .row true [.ptr i147 0]),
  (i151, .row false [.nils, .int .i64 (.ofNat 0)]),
  (i152, .row false [.ptr i151 0, .int .u64 (.ofNat 1), .int .u64 (.ofNat 0), .int .u64 (.ofNat 0)]),
  (i153, .row false [.ptr i152 0, .int .u64 (.ofNat 1), .nils, .nils]),
  (i156, .row false [.int .i64 (.ofNat 0), .int .i64 (.ofNat 0), .int .i64 (.ofNat 0), .int .i64 (.ofNat 4), .bool false]),
  (i157, .row false [.ptr i156 0, .int .i64 (.ofNat 1), .int .i64 (.ofNat 1), .int .i64 (.ofNat 4), .int .i64 (.ofNat 1), .int .i64 (.ofNat 0), .int .i64 (.ofNat 0), .int .i64 (.ofNat 0)]),
  (i162, .row false [.int .i64 (.ofNat 0), .int .i64 (.ofNat 0), .int .i64 (.ofNat 0), .int .i64 (.ofNat 4), .bool false]),
  (i163, .row false [.ptr i162 0, .int .i64 (.ofNat 2), .int .i64 (.ofNat 2), .int .i64 (.ofNat 4), .int .i64 (.ofNat 1), .int .i64 (.ofNat 0), .int .i64 (.ofNat 0), .int .i64 (.ofNat 0)]),
  (i168, .row false [.int .i64 (.ofNat 0), .int .i64 (.ofNat 0), .int .i64 (.ofNat 0), .int .i64 (.ofNat 2), .bool false]),
  (i169, .row false [.ptr i168 0, .int .i64 (.ofNat 16), .int .i64 (.ofNat 16), .int .i64 (.ofNat 0), .int .i64 (.ofNat 0), .int .i64 (.ofNat 0), .int .i64 (.ofNat 0), .int .i64 (.ofNat 0)]),
  (i171, .row true [.nilp, .ptr i157 0, .ptr i163 0, .ptr i169 0]),
  (i176, .row true [.int .i64 (.ofNat 0)]),
  (i182, .row true [.int .i64 (.ofNat 0)]),
  (i188, .row true [.int .i64 (.ofNat 3)]),
  (i234, .row true [.int .i64 (.ofNat 1), .int .i64 (.ofNat 1), .int .i64 (.ofNat 2), .int .i64 (.ofNat 2)]),
  (i242, .row false [.int .i64 (.ofNat 28), .int .i64 (.ofNat 1), .lin .i64 (.ofNat 1) 0 (.ofNat 0), .int .i64 (.ofNat 0), .int .i64 (.ofNat 0)]),
  (i243, .row false [.int .i64 (.ofNat 0), .int .i64 (.ofNat 0)]),
  (i249, .row false [.int .i64 (.ofNat 0), .int .i64 (.ofNat 0)])]⟩
def lit3 : LitS := ⟨3, i142, 290, i290, [
  (i0, .tab tab),
  (i139, .row false [.nils, .bool false, .bool false]),
  (i140, .row false [.int .u64 (.ofNat 32768), .int .u64 (.ofNat 0), .int .u64 (.ofNat 0), .int .u64 (.ofNat 0), .nils, .slU i184 0 0 1, .slU i190 0 0 1, .slU i196 0 0 1, .nils, .nils, .nils, .nils, .nils, .nils, .nils, .nils, .nils, .nils, .nils, .nils, .slU i202 0 1 1, .int .i64 (.ofNat 0), .int .i64 (.ofNat 0), .int .i64 (.ofNat 0), .int .i64 (.ofNat 0), .int .i64 (.ofNat 16), .int .i64 (.ofNat 0), .int .i64 (.ofNat 0), .int .i64 (.ofNat 0), .int .i64 (.ofNat 0), .int .i64 (.ofNat 0), .int .i64 (.ofNat 0), .int .i64 (.ofNat 0), .int .i64 (.ofNat 0), .int .i64 (.ofNat 0), .int .i64 (.ofNat 0), .int .i64 (.ofNat 0), .int .i64 (.ofNat 0)]),
  (i142, .row false [.nils, .slU i151 0 1 1, .nils, .nils, .int .i64 (.ofNat 0), .ptr i145 0, .ptr i139 0, .ptr i155 0, .ptr i140 0, .slU i179 0 5 1, .int .i64 (.ofNat 0), .int .i64 (.ofNat 0), .int .i64 (.ofNat 4)]),
  (i144, .row false [.int .i64 (.ofNat 0), .int .i64 (.ofNat 0), .int .i64 (.ofNat 0), .nils]),
  (i145, .row false [.sl i144 0 1 1, .int .i64 (.ofNat 16), .int .i64 (.ofNat 16), .int .i64 (.ofNat 0), .int .i64 (.ofNat 1), .int .i64 (.ofNat 1), .int .i64 (.ofNat 0), .int .i64 (.ofNat 2), .int .i64 (.ofNat 2), .int .i64 (.ofNat 0), .int .i64 (.ofNat 3), .int .i64 (.ofNat 3), .int .i64 (.ofNat 0), .int .i64 (.ofNat 16), .int .i64 (.ofNat 16), .int .i64 (.ofNat 0), .int .i64 (.ofNat 16), .int .i64 (.ofNat 16), .int .i64 (.ofNat 0), .int .i64 (.ofNat 16), .int .i64 (.ofNat 16), .int .i64 (.ofNat 0), .int .i64 (.ofNat 16), .int .i64 (.ofNat 16), .int .i64 (.ofNat 0), .int .i64 (.ofNat 16), .int .i64 (.ofNat 16), .int .i64 (.ofNat 0), .int .i64 (.ofNat 16), .int .i64 (.ofNat 16), .int .i64 (.ofNat 0), .int .i64 (.ofNat 16), .int .i64 (.ofNat 16), .int .i64 (.ofNat 0), .int .i64 (.ofNat 16), .int .i64 (.ofNat 16), .int .i64 (.ofNat 0), .int .i64 (.ofNat 16), .int .i64 (.ofNat 16), .int .i64 (.ofNat 0), .int .i64 (.ofNat 16), .int .i64 (.ofNat 16), .int .i64 (.ofNat 0), .int .i64 (.ofNat 16), .int .i64 (.ofNat 16), .int .i64 (.ofNat 0), .int .i64 (.ofNat 16), .int .i64 (.ofNat 16), .int .i64 (.ofNat 0), .int .i64 (.ofNat 16), .int .i64 (.ofNat 16), .int .i64 (.ofNat 0)]),
  (i147, .row false [.slU i274 0 3 2, .bool false]),
  (i148, .map [((.ofNat 3), .agg [.lin .u32 (.ofNat 1) 18 (.ofNat 0), .int .i64 (.ofNat 0)]), ((.ofNat 2), .agg [.lin .u32 (.ofNat 1) 17 (.ofNat 0), .int .i64 (.ofNat 1)]), ((.ofNat 1), .agg [.lin .u32 (.ofNat 1) 16 (.ofNat 0), .int .i64 (.ofNat 0)])]),
  (i149, .row false [.ptr i147 0, .int .u32 (.ofNat 0), .bool true, .bool false, .map i148]),
  (i151, .row true [.ptr i149 0]),
  (i153, .row false [.nils, .int .i64 (.ofNat 0)]),
  (i154, .row false [.ptr i153 0, .int .u64 (.ofNat 1), .int .u64 (.ofNat 0), .int .u64 (.ofNat 0)]),
  (i155, .row false [.ptr i154 0, .int .u64 (.ofNat 1), .nils, .nils]),
  (i158, .row false [.int .i64 (.ofNat 0), .int .i64 (.ofNat 0), .int .i64 (.ofNat 0), .int .i64 (.ofNat 4), .bool false]),
  (i159, .row false [.ptr i158 0, .int .i64 (.ofNat 1), .int .i64 (.ofNat 1), .int .i64 (.ofNat 4), .int .i64 (.ofNat 1), .int .i64 (.ofNat 0), .int .i64 (.ofNat 0), .int .i64 (.ofNat 0)]),
  (i164, .row false [.int .i64 (.ofNat 0), .int .i64 (.ofNat 0), .int .i64 (.ofNat 0), .int .i64 (.ofNat 4), .bool false]),
  (i165, .row false [.ptr i164 0, .int .i64 (.ofNat 2), .int .i64 (.ofNat 2), .int .i64 (.ofNat 4), .int .i64 (.ofNat 1), .int .i64 (.ofNat 0), .int .i64 (.ofNat 0), .int .i64 (.ofNat 0)]),
  (i170, .row false [.int .i64 (.ofNat 0), .int .i64 (.ofNat 0), .int .i64 (.ofNat 0), .int .i64 (.ofNat 4), .bool false]),
  (i171, .row false [.ptr i170 0, .int .i64 (.ofNat 3), .int .i64 (.ofNat 3), .int .i64 (.ofNat 4), .int .i64 (.ofNat 1), .int .i64 (.ofNat 0), .int .i64 (.ofNat 0), .int .i64 (.ofNat 0)]),
  (i176, .row false [.int .i64 (.ofNat 0), .int .i64 (.ofNat 0), .int .i64 (.ofNat 0), .int .i64 (.ofNat 2), .bool false]),
  (i177, .row false [.ptr i176 0, .int .i64 (.ofNat 16), .int .i64 (.ofNat 16), .int .i64 (.ofNat 0), .int .i64 (.ofNat 0), .int .i64 (.ofNat 0), .int .i64 (.ofNat 0), .int .i64 (.ofNat 0)]),
  (i179, .row true [.nilp, .ptr i159 0, .ptr i165 0, .ptr i171 0, .ptr i177 0]),
  (i184, .row true [.int .i64 (.ofNat 0)]),
  (i190, .row true [.int .i64 (.ofNat 0)]),
  (i196, .row true [.int .i64 (.ofNat 0)]),
  (i202, .row true [.int .i64 (.ofNat 4)]),
  (i274, .row true [.int .i64 (.ofNat 1), .int .i64 (.ofNat 1), .int .i64 (.ofNat 2), .int .i64 (.ofNat 2), .int .i64 (.ofNat 3), .int .i64 (.ofNat 3)]),
  (i282, .row false [.int .i64 (.ofNat 28), .int .i64 (.ofNat 1), .lin .i64 (.ofNat 1) 0 (.ofNat 0), .int .i64 (.ofNat 0), .int .i64 (.ofNat 0)]),
  (i283, .row false [.int .i64 (.ofNat 0), .int .i64 (.ofNat 0)]),
  (i289, .row false [.int .i64 (.ofNat 0), .int .i64 (.ofNat 0)])]⟩
def lit4 : LitS := ⟨4, i144, 331, i331, [
  (i0, .tab tab),
  (i141, .row false [.nils, .bool false, .bool false]),
  (i142, .row false [.int .u64 (.ofNat 32768), .int .u64 (.ofNat 0), .int .u64 (.ofNat 0), .int .u64 (.ofNat 0), .nils, .slU i192 0 0 1, .slU i198 0 0 1, .slU i204 0 0 1, .slU i210 0 0 1, .nils, .nils, .nils, .nils, .nils, .nils, .nils, .nils, .nils, .nils, .nils, .slU i216 0 1 1, .int .i64 (.ofNat 0), .int .i64 (.ofNat 0), .int .i64 (.ofNat 0), .int .i64 (.ofNat 0), .int .i64 (.ofNat 0), .int .i64 (.ofNat 16), .int .i64 (.ofNat 0), .int .i64 (.ofNat 0), .int .i64 (.ofNat 0), .int .i64 (.ofNat 0), .int .i64 (.ofNat 0), .int .i64 (.ofNat 0), .int .i64 (.ofNat 0), .int .i64 (.ofNat 0), .int .i64 (.ofNat 0), .int .i64 (.ofNat 0), .int .i64 (.ofNat 0)]),
  (i144, .row false [.nils, .slU i153 0 1 1, .nils, .nils, .int .i64 (.ofNat 0), .ptr i147 0, .ptr i141 0, .ptr i157 0, .ptr i142 0, .slU i187 0 6 1, .int .i64 (.ofNat 0), .int .i64 (.ofNat 0), .int .i64 (.ofNat 5)]),
  (i146, .row false [.int .i64 (.ofNat 0), .int .i64 (.ofNat 0), .int .i64 (.ofNat 0), .nils]),
  (i147, .row false [.sl i146 0 1 1, .int .i64 (.ofNat 16), .int .i64 (.ofNat 16), .int .i64 (.ofNat 0), .int .i64 (.ofNat 1), .int .i64 (.ofNat 1), .int .i64 (.ofNat 0), .int .i64 (.ofNat 2), .int .i64 (.ofNat 2), .int .i64 (.ofNat 0), .int .i64 (.ofNat 3), .int .i64 (.ofNat 3), .int .i64 (.ofNat 0), .int .i64 (.ofNat 4), .int .i64 (.ofNat 4), .int .i64 (.ofNat 0), .int .i64 (.ofNat 16), .int .i64 (.ofNat 16), .int .i64 (.ofNat 0), .int .i64 (.ofNat 16), .int .i64 (.ofNat 16), .int .i64 (.ofNat 0), .int .i64 (.ofNat 16), .int .i64 (.ofNat 16), .int .i64 (.ofNat 0), .int .i64 (.ofNat 16), .int .i64 (.ofNat 16), .int .i64 (.ofNat 0), .int .i64 (.ofNat 16), .int .i64 (.ofNat 16), .int .i64 (.ofNat 0), .int .i64 (.ofNat 16), .int .i64 (.ofNat 16), .int .i64 (.ofNat 0), .int .i64 (.ofNat 16), .int .i64 (.ofNat 16), .int .i64 (.ofNat 0), .int .i64 (.ofNat 16), .int .i64 (.ofNat 16), .int .i64 (.ofNat 0), .int .i64 (.ofNat 16), .int .i64 (.ofNat 16), .int .i64 (.ofNat 0), .int .i64 (.ofNat 16), .int .i64 (.ofNat 16), .int .i64 (.ofNat 0), .int .i64 (.ofNat 16), .int .i64 (.ofNat 16), .int .i64 (.ofNat 0), .int .i64 (.ofNat 16), .int .i64 (.ofNat 16), .int .i64 (.ofNat 0)]),
  (i149, .row false [.slU i315 0 4 2, .bool false]),
  (i150, .map [((.ofNat 4), .agg [.lin .u32 (.ofNat 1) 19 (.ofNat 0), .int .i64 (.ofNat 1)]), ((.ofNat 3), .agg [.lin .u32 (.ofNat 1) 18 (.ofNat 0), .int .i64 (.ofNat 0)]), ((.ofNat 2), .agg [.lin .u32 (.ofNat 1) 17 (.ofNat 0), .int .i64 (.ofNat 1)]), ((.ofNat 1), .agg [.lin .u32 (.ofNat 1) 16 (.ofNat 0), .int .i64 (.ofNat 0)])]),
  (i151, .row false [.ptr i149 0, .int .u32 (.ofNat 0), .bool true, .bool false, .map i150]),
  (i153, .row true [.ptr i151 0]),
  (i155, .row false [.nils, .int .i64 (.ofNat 0)]),
  (i156, .row false [.ptr i155 0, .int .u64 (.ofNat 1), .int .u64 (.ofNat 0), .int .u64 (.ofNat 0)]),
  (i157, .row false [.ptr i156 0, .int .u64 (.ofNat 1), .nils, .nils]),
  (i160, .row false [.int .i64 (.ofNat 0), .int .i64 (.ofNat 0), .int .i64 (.ofNat 0), .int .i64 (.ofNat 4), .bool false]),
  (i161, .row false [.ptr i160 0, .int .i64 (.ofNat 1), .int .i64 (.ofNat 1), .int .i64 (.ofNat 4), .int .i64 (.ofNat 1), .int .i64 (.ofNat 0), .int .i64 (.ofNat 0), .int .i64 (.ofNat 0)]),
  (i166, .row false [.int .i64 (.ofNat 0), .int .i64 (.ofNat 0), .int .i64 (.ofNat 0), .int .i64 (.ofNat 4), .bool false]),
  (i167, .row false [.ptr i166 0, .int .i64 (.ofNat 2), .int .i64 (.ofNat 2), .int .i64 (.ofNat 4), .int .i64 (.ofNat 1), .int .i64 (.ofNat 0), .int .i64 (.ofNat 0), .int .i64 (.ofNat 0)]),
  (i172, .row false [.int .i64 (.ofNat 0), .int .i64 (.ofNat 0), .int .i64 (.ofNat 0), .int .i64 (.ofNat 4), .bool false]),
  (i173, .row false [.ptr i172 0, .int .i64 (.ofNat 3), .int .i64 (.ofNat 3), .int .i64 (.ofNat 4), .int .i64 (.ofNat 1), .int .i64 (.ofNat 0), .int .i64 (.ofNat 0), .int .i64 (.ofNat 0)]),
  (i178, .row false [.int .i64 (.ofNat 0), .int .i64 (.ofNat 0), .int .i64 (.ofNat 0), .int .i64 (.ofNat 4), .bool false]),
  (i179, .row false [.ptr i178 0, .int .i64 (.ofNat 4), .int .i64 (.ofNat 4), .int .i64 (.ofNat 4), .int .i64 (.ofNat 1), .int .i64 (.ofNat 0), .int .i64 (.ofNat 0), .int .i64 (.ofNat 0)]),
  (i184, .row false [.int .i64 (.ofNat 0), .int .i64 (.ofNat 0), .int .i64 (.ofNat 0), .int .i64 (.ofNat 2), .bool false]),
  (i185, .row false [.ptr i184 0, .int .i64 (.ofNat 16), .int .i64 (.ofNat 16), .int .i64 (.ofNat 0), .int .i64 (.ofNat 0), .int .i64 (.ofNat 0), .int .i64 (.ofNat 0), .int .i64 (.ofNat 0)]),
  (i187, .row true [.nilp, .ptr i161 0, .ptr i167 0, .ptr i173 0, .ptr i179 0, .ptr i185 0]),
  (i192, .row true [.int .i64 (.ofNat 0)]),
  (i198, .row true [.int .i64 (.ofNat 0)]),
  (i204, .row true [.int .i64 (.ofNat 0)]),
  (i210, .row true [.int .i64 (.ofNat 0)]),
  (i216, .row true [.int .i64 (.ofNat 5)]),
  (i315, .row true [.int .i64 (.ofNat 1), .int .i64 (.ofNat 1), .int .i64 (.ofNat 2), .int .i64 (.ofNat 2), .int .i64 (.ofNat 3), .int .i64 (.ofNat 3), .int .i64 (.ofNat 4), .int .i64 (.ofNat 4)]),
  (i323, .row false [.int .i64 (.ofNat 28), .int .i64 (.ofNat 1), .lin .i64 (.ofNat 1) 0 (.ofNat 0), .int .i64 (.ofNat 0), .int .i64 (.ofNat 0)]),
  (i324, .row false [.int .i64 (.ofNat 0), .int .i64 (.ofNat 0)]),
  (i330, .row false [.int .i64 (.ofNat 0), .int .i64 (.ofNat 0)])]⟩
def lit5 : LitS := ⟨5, i146, 373, i373, [
  (i0, .tab tab),
  (i143, .row false [.nils, .bool false, .bool false]),
  (i144, .row false [.int .u64 (.ofNat 32768), .int .u64 (.ofNat 0), .int .u64 (.ofNat 0), .int .u64 (.ofNat 0), .nils, .slU i200 0 0 1, .slU i206 0 0 1, .slU i212 0 0 1, .slU i218 0 0 1, .slU i224 0 0 1, .nils, .nils, .nils, .nils, .nils, .nils, .nils, .nils, .nils, .nils, .slU i230 0 1 1, .int .i64 (.ofNat 0), .int .i64 (.ofNat 0), .int .i64 (.ofNat 0), .int .i64 (.ofNat 0), .int .i64 (.ofNat 0), .int .i64 (.ofNat 0), .int .i64 (.ofNat 16), .int .i64 (.ofNat 0), .int .i64 (.ofNat 0), .int .i64 (.ofNat 0), .int .i64 (.ofNat 0), .int .i64 (.ofNat 0), .int .i64 (.ofNat 0), .int .i64 (.ofNat 0), .int .i64 (.ofNat 0), .int .i64 (.ofNat 0), .int .i64 (.ofNat 0)]),
  (i146, .row false [.nils, .slU i155 0 1 1, .nils, .nils, .int .i64 (.ofNat 0), .ptr i149 0, .ptr i143 0, .ptr i159 0, .ptr i144 0, .slU i195 0 7 1, .int .i64 (.ofNat 0), .int .i64 (.ofNat 0), .int .i64 (.ofNat 6)]),
  (i148, .row false [.int .i64 (.ofNat 0), .int .i64 (.ofNat 0), .int .i64 (.ofNat 0), .nils]),
  (i149, .row false [.sl i148 0 1 1, .int .i64 (.ofNat 16), .int .i64 (.ofNat 16), .int .i64 (.ofNat 0), .int .i64 (.ofNat 1), .int .i64 (.ofNat 1), .int .i64 (.ofNat 0), .int .i64 (.ofNat 2), .int .i64 (.ofNat 2), .int .i64 (.ofNat 0), .int .i64 (.ofNat 3), .int .i64 (.ofNat 3), .int .i64 (.ofNat 0), .int .i64 (.ofNat 4), .int .i64 (.ofNat 4), .int .i64 (.ofNat 0), .int .i64 (.ofNat 5), .int .i64 (.ofNat 5), .int .i64 (.ofNat 0), .int .i64 (.ofNat 16), .int .i64 (.ofNat 16), .int .i64 (.ofNat 0), .int .i64 (.ofNat 16), .int .i64 (.ofNat 16), .int .i64 (.ofNat 0), .int .i64 (.ofNat 16), .int .i64 (.ofNat 16), .int .i64 (.ofNat 0), .int .i64 (.ofNat 16), .int .i64 (.ofNat 16), .int .i64 (.ofNat 0), .int .i64 (.ofNat 16), .int .i64 (.ofNat 16), .int .i64 (.ofNat 0), .int .i64 (.ofNat 16), .int .i64 (.ofNat 16), .int .i64 (.ofNat 0), .int .i64 (.ofNat 16), .int .i64 (.ofNat 16), .int .i64 (.ofNat 0), .int .i64 (.ofNat 16), .int .i64 (.ofNat 16), .int .i64 (.ofNat 0), .int .i64 (.ofNat 16), .int .i64 (.ofNat 16), .int .i64 (.ofNat 0), .int .i64 (.ofNat 16), .int .i64 (.ofNat 16), .int .i64 (.ofNat 0), .int .i64 (.ofNat 16), .int .i64 (.ofNat 16), .int .i64 (.ofNat 0)]),
  (i151, .row false [.slU i357 0 5 2, .bool false]),
  (i152, .map [((.ofNat 5), .agg [.lin .u32 (.ofNat 1) 20 (.ofNat 0), .int .i64 (.ofNat 0)]), ((.ofNat 4), .agg [.lin .u32 (.ofNat 1) 19 (.ofNat 0), .int .i64 (.ofNat 1)]), ((.ofNat 3), .agg [.lin .u32 (.ofNat 1) 18 (.ofNat 0), .int .i64 (.ofNat 0)]), ((.ofNat 2), .agg [.lin .u32 (.ofNat 1) 17 (.ofNat 0), .int .i64 (.ofNat 1)]), ((.ofNat 1), .agg [.lin .u32 (.ofNat 1) 16 (.ofNat 0), .int .i64 (.ofNat 0)])]),
  (i153, .row false [.ptr i151 0, .int .u32 (.ofNat 0), .bool true, .bool false, .map i152]),
  (i155, .row true [.ptr i153 0]),
  (i157, .row false [.nils, .int .i64 (.ofNat 0)]),
  (i158, .row false [.ptr i157 0, .int .u64 (.ofNat 1), .int .u64 (.ofNat 0), .int .u64 (.ofNat 0)]),
  (i159, .row false [.ptr i158 0, .int .u64 (.ofNat 1), .nils, .nils]),
  (i162, .row false [.int .i64 (.ofNat 0), .int .i64 (.ofNat 0), .int .i64 (.ofNat 0), .int .i64 (.ofNat 4), .bool false]),
  (i163, .row false [.ptr i162 0, .int .i64 (.ofNat 1), .int .i64 (.ofNat 1), .int .i64 (.ofNat 4), .int .i64 (.ofNat 1), .int .i64 (.ofNat 0), .int .i64 (.ofNat 0), .int .i64 (.ofNat 0)]),
  (i168, .row false [.int .i64 (.ofNat 0), .int .i64 (.ofNat 0), .int .i64 (.ofNat 0), .int .i64 (.ofNat 4), .bool false]),
  (i169, .row false [.ptr i168 0, .int .i64 (.ofNat 2), .int .i64 (.ofNat 2), .int .i64 (.ofNat 4), .int .i64 (.ofNat 1), .int .i64 (.ofNat 0), .int .i64 (.ofNat 0), .int .i64 (.ofNat 0)]),
  (i174, .row false [.int .i64 (.ofNat 0), .int .i64 (.ofNat 0), .int .i64 (.ofNat 0), .int .i64 (.ofNat 4), .bool false]),
  (i175, .row false [.ptr i174 0, .int .i64 (.ofNat 3), .int .i64 (.ofNat 3), .int .i64 (.ofNat 4), .int .i64 (.ofNat 1), .int .i64 (.ofNat 0), .int .i64 (.ofNat 0), .int .i64 (.ofNat 0)]),
  (i180, .row false [.int .i64 (.ofNat 0), .int .i64 (.ofNat 0), .int .i64 (.ofNat 0), .int .i64 (.ofNat 4), .bool false]),
  (i181, .row false [.ptr i180 0, .int .i64 (.ofNat 4), .int .i64 (.ofNat 4), .int .i64 (.ofNat 4), .int .i64 (.ofNat 1), .int .i64 (.ofNat 0), .int .i64 (.ofNat 0), .int .i64 (.ofNat 0)]),
  (i186, .row false [.int .i64 (.ofNat 0), .int .i64 (.ofNat 0), .int .i64 (.ofNat 0), .int .i64 (.ofNat 4), .bool false]),
  (i187, .row false [.ptr i186 0, .int .i64 (.ofNat 5), .int .i64 (.ofNat 5), .int .i64 (.ofNat 4), .int .i64 (.ofNat 1), .int .i64 (.ofNat 0), .int .i64 (.ofNat 0), .int .i64 (.ofNat 0)]),
  (i192, .row false [.int .i64 (.ofNat 0), .int .i64 (.ofNat 0), .int .i64 (.ofNat 0), .int .i64 (.ofNat 2), .bool false]),
  (i193, .row false [.ptr i192 0, .int .i64 (.ofNat 16), .int .i64 (.ofNat 16), .int .i64 (.ofNat 0), .int .i64 (.ofNat 0), .int .i64 (.ofNat 0), .int .i64 (.ofNat 0), .int .i64 (.ofNat 0)]),
  (i195, .row true [.nilp, .ptr i163 0, .ptr i169 0, .ptr i175 0, .ptr i181 0, .ptr i187 0, .ptr i193 0]),
  (i200, .row true [.int .i64 (.ofNat 0)]),
  (i206, .row true [.int .i64 (.ofNat 0)]),
  (i212, .row true [.int .i64 (.ofNat 0)]),
  (i218, .row true [.int .i64 (.ofNat 0)]),
  (i224, .row true [.int .i64 (.ofNat 0)]),
  (i230, .row true [.int .i64 (.ofNat 6)]),
  (i357, .row true [.int .i64 (.ofNat 1), .int .i64 (.ofNat 1), .int .i64 (.ofNat 2), .int .i64 (.ofNat 2), .int .i64 (.ofNat 3), .int .i64 (.ofNat 3), .int .i64 (.ofNat 4), .int .i64 (.ofNat 4), .int .i64 (.ofNat 5), .int .i64 (.ofNat 5)]),
  (i365, .row false [.int .i64 (.ofNat 28), .int .i64 (.ofNat 1), .lin .i64 (.ofNat 1) 0 (.ofNat 0), .int .i64 (.ofNat 0), .int .i64 (.ofNat 0)]),
  (i366, .row false [.int .i64 (.ofNat 0), .int .i64 (.ofNat 0)]),
  (i372, .row false [.int .i64 (.ofNat 0), .int .i64 (.ofNat 0)])]⟩
def lit6 : LitS := ⟨6, i148, 416, i416, [
  (i0, .tab tab),
  (i145, .row false [.nils, .bool false, .bool false]),
  (i146, .row false [.int .u64 (.ofNat 32768), .int .u64 (.ofNat 0), .int .u64 (.ofNat 0), .int .u64 (.ofNat 0), .nils, .slU i208 0 0 1, .slU i214 0 0 1, .slU i220 0 0 1, .slU i226 0 0 1, .slU i232 0 0 1, .slU i238 0 0 1, .nils, .nils, .nils, .nils, .nils, .nils, .nils, .nils, .nils, .slU i244 0 1 1, .int .i64 (.ofNat 0), .int .i64 (.ofNat 0), .int .i64 (.ofNat 0), .int .i64 (.ofNat 0), .int .i64 (.ofNat 0), .int .i64 (.ofNat 0), .int .i64 (.ofNat 0), .int .i64 (.ofNat 16), .int .i64 (.ofNat 0), .int .i64 (.ofNat 0), .int .i64 (.ofNat 0), .int .i64 (.ofNat 0), .int .i64 (.ofNat 0), .int .i64 (.ofNat 0), .int .i64 (.ofNat 0), .int .i64 (.ofNat 0), .int .i64 (.ofNat 0)]),
  (i148, .row false [.nils, .slU i157 0 1 1, .nils, .nils, .int .i64 (.ofNat 0), .ptr i151 0, .ptr i145 0, .ptr i161 0, .ptr i146 0, .slU i203 0 8 1, .int .i64 (.ofNat 0), .int .i64 (.ofNat 0), .int .i64 (.ofNat 7)]),
  (i150, .row false [.int .i64 (.ofNat 0), .int .i64 (.ofNat 0), .int .i64 (.ofNat 0), .nils]),
  (i151, .row false [.sl i150 0 1 1, .int .i64 (.ofNat 16), .int .i64 (.ofNat 16), .int .i64 (.ofNat 0), .int .i64 (.ofNat 1), .int .i64 (.ofNat 1), .int .i64 (.ofNat 0), .int .i64 (.ofNat 2), .int .i64 (.ofNat 2), .int .i64 (.ofNat 0), .int .i64 (.ofNat 3), .int .i64 (.ofNat 3), .int .i64 (.ofNat 0), .int .i64 (.ofNat 4), .int .i64 (.ofNat 4), .int .i64 (.ofNat 0), .int .i64 (.ofNat 5), .int .i64 (.ofNat 5), .int .i64 (.ofNat 0), .int .i64 (.ofNat 6), .int .i64 (.ofNat 6), .int .i64 (.ofNat 0), .int .i64 (.ofNat 16), .int .i64 (.ofNat 16), .int .i64 (.ofNat 0), .int .i64 (.ofNat 16), .int .i64 (.ofNat 16), .int .i64 (.ofNat 0), .int .i64 (.ofNat 16), .int .i64 (.ofNat 16), .int .i64 (.ofNat 0), .int .i64 (.ofNat 16), .int .i64 (.ofNat 16), .int .i64 (.ofNat 0), .int .i64 (.ofNat 16), .int .i64 (.ofNat 16), .int .i64 (.ofNat 0), .int .i64 (.ofNat 16), .int .i64 (.ofNat 16), .int .i64 (.ofNat 0), .int .i64 (.ofNat 16), .int .i64 (.ofNat 16), .int .i64 (.ofNat 0), .int .i64 (.ofNat 16), .int .i64 (.ofNat 16), .int .i64 (.ofNat 0), .int .i64 (.ofNat 16), .int .i64 (.ofNat 16), .int .i64 (.ofNat 0), .int .i64 (.ofNat 16), .int .i64 (.ofNat 16), .int .i64 (.ofNat 0)]),
  (i153, .row false [.slU i400 0 6 2, .bool false]),
  (i154, .map [((.ofNat 6), .agg [.lin .u32 (.ofNat 1) 21 (.ofNat 0), .int .i64 (.ofNat 1)]), ((.ofNat 5), .agg [.lin .u32 (.ofNat 1) 20 (.ofNat 0), .int .i64 (.ofNat 0)]), ((.ofNat 4), .agg [.lin .u32 (.ofNat 1) 19 (.ofNat 0), .int .i64 (.ofNat 1)]), ((.ofNat 3), .agg [.lin .u32 (.ofNat 1) 18 (.ofNat 0), .int .i64 (.ofNat 0)]), ((.ofNat 2), .agg [.lin .u32 (.ofNat 1) 17 (.ofNat 0), .int .i64 (.ofNat 1)]), ((.ofNat 1), .agg [.lin .u32 (.ofNat 1) 16 (.ofNat 0), .int .i64 (.ofNat 0)])]),
  (i155, .row false [.ptr i153 0, .int .u32 (.ofNat 0), .bool true, .bool false, .map i154]),
  (i157, .row true [.ptr i155 0]),
  (i159, .row false [.nils, .int .i64 (.ofNat 0)]),
  (i160, .row false [.ptr i159 0, .int .u64 (.ofNat 1), .int .u64 (.ofNat 0), .int .u64 (.ofNat 0)]),
  (i161, .row false [.ptr i160 0, .int .u64 (.ofNat 1), .nils, .nils]),
  (i164, .row false [.int .i64 (.ofNat 0), .int .i64 (.ofNat 0), .int .i64 (.ofNat 0), .int .i64 (.ofNat 4), .bool false]),
  (i165, .row false [.ptr i164 0, .int .i64 (.ofNat 1), .int .i64 (.ofNat 1), .int .i64 (.ofNat 4), .int .i64 (.ofNat 1), .int .i64 (.ofNat 0), .int .i64 (.ofNat 0), .int .i64 (.ofNat 0)]),
  (i170, .row false [.int .i64 (.ofNat 0), .int .i64 (.ofNat 0), .int .i64 (.ofNat 0), .int .i64 (.ofNat 4), .bool false]),
  (i171, .row false [.ptr i170 0, .int .i64 (.ofNat 2), .int .i64 (.ofNat 2), .int .i64 (.ofNat 4), .int .i64 (.ofNat 1), .int .i64 (.ofNat 0), .int .i64 (.ofNat 0), .int .i64 (.ofNat 0)]),
  (i176, .row false [.int .i64 (.ofNat 0), .int .i64 (.ofNat 0), .int .i64 (.ofNat 0), .int .i64 (.ofNat 4), .bool false]),
  (i177, .row false [.ptr i176 0, .int .i64 (.ofNat 3), .int .i64 (.ofNat 3), .int .i64 (.ofNat 4), .int .i64 (.ofNat 1), .int .i64 (.ofNat 0), .int .i64 (.ofNat 0), .int .i64 (.ofNat 0)]),
  (i182, .row false [.int .i64 (.ofNat 0), .int .i64 (.ofNat 0), .int .i64 (.ofNat 0), .int .i64 (.ofNat 4), .bool false]),
  (i183, .row false [.ptr i182 0, .int .i64 (.ofNat 4), .int .i64 (.ofNat 4), .int .i64 (.ofNat 4), .int .i64 (.ofNat 1), .int .i64 (.ofNat 0), .int .i64 (.ofNat 0), .int .i64 (.ofNat 0)]),
  (i188, .row false [.int .i64 (.ofNat 0), .int .i64 (.ofNat 0), .int .i64 (.ofNat 0), .int .i64 (.ofNat 4), .bool false]),
  (i189, .row false [.ptr i188 0, .int .i64 (.ofNat 5), .int .i64 (.ofNat 5), .int .i64 (.ofNat 4), .int .i64 (.ofNat 1), .int .i64 (.ofNat 0), .int .i64 (.ofNat 0), .int .i64 (.ofNat 0)]),
  (i194, .row false [.int .i64 (.ofNat 0), .int .i64 (.ofNat 0), .int .i64 (.ofNat 0), .int .i64 (.ofNat 4), .bool false]),
  (i195, .row false [.ptr i194 0, .int .i64 (.ofNat 6), .int .i64 (.ofNat 6), .int .i64 (.ofNat 4), .int .i64 (.ofNat 1), .int .i64 (.ofNat 0), .int .i64 (.ofNat 0), .int .i64 (.ofNat 0)]),
  (i200, .row false [.int .i64 (.ofNat 0), .int .i64 (.ofNat 0), .int .i64 (.ofNat 0), .int .i64 (.ofNat 2), .bool false]),
  (i201, .row false [.ptr i200 0, .int .i64 (.ofNat 16), .int .i64 (.ofNat 16), .int .i64 (.ofNat 0), .int .i64 (.ofNat 0), .int .i64 (.ofNat 0), .int .i64 (.ofNat 0), .int .i64 (.ofNat 0)]),
  (i203, .row true [.nilp, .ptr i165 0, .ptr i171 0, .ptr i177 0, .ptr i183 0, .ptr i189 0, .ptr i195 0, .ptr i201 0]),
  (i208, .row true [.int .i64 (.ofNat 0)]),
  (i214, .row true [.int .i64 (.ofNat 0)]),
  (i220, .row true [.int .i64 (.ofNat 0)]),
  (i226, .row true [.int .i64 (.ofNat 0)]),
  (i232, .row true [.int .i64 (.ofNat 0)]),
  (i238, .row true [.int .i64 (.ofNat 0)]),
  (i244, .row true [.int .i64 (.ofNat 7)]),
  (i400, .row true [.int .i64 (.ofNat 1), .int .i64 (.ofNat 1), .int .i64 (.ofNat 2), .int .i64 (.ofNat 2), .int .i64 (.ofNat 3), .int .i64 (.ofNat 3), .int .i64 (.ofNat 4), .int .i64 (.ofNat 4), .int .i64 (.ofNat 5), .int .i64 (.ofNat 5), .int .i64 (.ofNat 6), .int .i64 (.ofNat 6)]),
  (i408, .row false [.int .i64 (.ofNat 28), .int .i64 (.ofNat 1), .lin .i64 (.ofNat 1) 0 (.ofNat 0), .int .i64 (.ofNat 0), .int .i64 (.ofNat 0)]),
  (i409, .row false [.int .i64 (.ofNat 0), .int .i64 (.ofNat 0)]),
  (i415, .row false [.int .i64 (.ofNat 0), .int .i64 (.ofNat 0)])]⟩
def lit7 : LitS := ⟨7, i150, 460, i460, [
  (i0, .tab tab),
  (i147, .row false [.nils, .bool false, .bool false]),
  (i148, .row false [.int .u64 (.ofNat 32768), .int .u64 (.ofNat 0), .int .u64 (.ofNat 0), .int .u64 (.ofNat 0), .nils, .slU i216 0 0 1, .slU i222 0 0 1, .slU i228 0 0 1, .slU i234 0 0 1, .slU i240 0 0 1, .slU i246 0 0 1, .slU i252 0 0 1, .nils, .nils, .nils, .nils, .nils, .nils, .nils, .nils, .slU i258 0 1 1, .int .i64 (.ofNat 0), .int .i64 (.ofNat 0), .int .i64 (.ofNat 0), .int .i64 (.ofNat 0), .int .i64 (.ofNat 0), .int .i64 (.ofNat 0), .int .i64 (.ofNat 0), .int .i64 (.ofNat 0), .int .i64 (.ofNat 16), .int .i64 (.ofNat 0), .int .i64 (.ofNat 0), .int .i64 (.ofNat 0), .int .i64 (.ofNat 0), .int .i64 (.ofNat 0), .int .i64 (.ofNat 0), .int .i64 (.ofNat 0), .int .i64 (.ofNat 0)]),
  (i150, .row false [.nils, .slU i159 0 1 1, .nils, .nils, .int .i64 (.ofNat 0), .ptr i153 0, .ptr i147 0, .ptr i163 0, .ptr i148 0, .slU i211 0 9 1, .int .i64 (.ofNat 0), .int .i64 (.ofNat 0), .int .i64 (.ofNat 8)]),
  (i152, .row false [.int .i64 (.ofNat 0), .int .i64 (.ofNat 0), .int .i64 (.ofNat 0), .nils]),
  (i153, .row false [.sl i152 0 1 1, .int .i64 (.ofNat 16), .int .i64 (.ofNat 16), .int .i64 (.ofNat 0), .int .i64 (.ofNat 1), .int .i64 (.ofNat 1), .int .i64 (.ofNat 0), .int .i64 (.ofNat 2), .int .i64 (.ofNat 2), .int .i64 (.ofNat 0), .int .i64 (.ofNat 3), .int .i64 (.ofNat 3), .int .i64 (.ofNat 0), .int .i64 (.ofNat 4), .int .i64 (.ofNat 4), .int .i64 (.ofNat 0), .int .i64 (.ofNat 5), .int .i64 (.ofNat 5), .int .i64 (.ofNat 0), .int .i64 (.ofNat 6), .int .i64 (.ofNat 6), .int .i64 (.ofNat 0), .int .i64 (.ofNat 7), .int .i64 (.ofNat 7), .int .i64 (.ofNat 0), .int .i64 (.ofNat 16), .int .i64 (.ofNat 16), .int .i64 (.ofNat 0), .int .i64 (.ofNat 16), .int .i64 (.ofNat 16), .int .i64 (.ofNat 0), .int .i64 (.ofNat 16), .int .i64 (.ofNat 16), .int .i64 (.ofNat 0), .int .i64 (.ofNat 16), .int .i64 (.ofNat 16), .int .i64 (.ofNat 0), .int .i64 (.ofNat 16), .int .i64 (.ofNat 16), .int .i64 (.ofNat 0), .int .i64 (.ofNat 16), .int .i64 (.ofNat 16), .int .i64 (.ofNat 0), .int .i64 (.ofNat 16), .int .i64 (.ofNat 16), .int .i64 (.ofNat 0), .int .i64 (.ofNat 16), .int .i64 (.ofNat 16), .int .i64 (.ofNat 0), .int .i64 (.ofNat 16), .int .i64 (.ofNat 16), .int .i64 (.ofNat 0)]),
  (i155, .row false [.slU i444 0 7 2, .bool false]),
  (i156, .map [((.ofNat 7), .agg [.lin .u32 (.ofNat 1) 22 (.ofNat 0), .int .i64 (.ofNat 0)]), ((.ofNat 6), .agg [.lin .u32 (.ofNat 1) 21 (.ofNat 0), .int .i64 (.ofNat 1)]), ((.ofNat 5), .agg [.lin .u32 (.ofNat 1) 20 (.ofNat 0), .int .i64 (.ofNat 0)]), ((.ofNat 4), .agg [.lin .u32 (.ofNat 1) 19 (.ofNat 0), .int .i64 (.ofNat 1)]), ((.ofNat 3), .agg [.lin .u32 (.ofNat 1) 18 (.ofNat 0), .int .i64 (.ofNat 0)]), ((.ofNat 2), .agg [.lin .u32 (.ofNat 1) 17 (.ofNat 0), .int .i64 (.ofNat 1)]), ((.ofNat 1), .agg [.lin .u32 (.ofNat 1) 16 (.ofNat 0), .int .i64 (.ofNat 0)])]),
  (i157, .row false [.ptr i155 0, .int .u32 (.ofNat 0), .bool true, .bool false, .map i156]),
  (i159, .row true [.ptr i157 0]),
  (i161, .row false [.nils, .int .i64 (.ofNat 0)]),
  (i162, .row false [.ptr i161 0, .int .u64 (.ofNat 1), .int .u64 (.ofNat 0), .int .u64 (.ofNat 0)]),
  (i163, .row false [.ptr i162 0, .int .u64 (.ofNat 1), .nils, .nils]),
  (i166, .row false [.int .i64 (.ofNat 0), .int .i64 (.ofNat 0), .int .i64 (.ofNat 0), .int .i64 (.ofNat 4), .bool false]),
  (i167, .row false [.ptr i166 0, .int .i64 (.ofNat 1), .int .i64 (.ofNat 1), .int .i64 (.ofNat 4), .int .i64 (.ofNat 1), .int .i64 (.ofNat 0), .int .i64 (.ofNat 0), .int .i64 (.ofNat 0)]),
  (i172, .row false [.int .i64 (.ofNat 0), .int .i64 (.ofNat 0), .int .i64 (.ofNat 0), .int .i64 (.ofNat 4), .bool false]),
  (i173, .row false [.ptr i172 0, .int .i64 (.ofNat 2), .int .i64 (.ofNat 2), .int .i64 (.ofNat 4), .int .i64 (.ofNat 1), .int .i64 (.ofNat 0), .int .i64 (.ofNat 0), .int .i64 (.ofNat 0)]),
  (i178, .row false [.int .i64 (.ofNat 0), .int .i64 (.ofNat 0), .int .i64 (.ofNat 0), .int .i64 (.ofNat 4), .bool false]),
  (i179, .row false [.ptr i178 0, .int .i64 (.ofNat 3), .int .i64 (.ofNat 3), .int .i64 (.ofNat 4), .int .i64 (.ofNat 1), .int .i64 (.ofNat 0), .int .i64 (.ofNat 0), .int .i64 (.ofNat 0)]),
  (i184, .row false [.int .i64 (.ofNat 0), .int .i64 (.ofNat 0), .int .i64 (.ofNat 0), .int .i64 (.ofNat 4), .bool false]),
  (i185, .row false [.ptr i184 0, .int .i64 (.ofNat 4), .int .i64 (.ofNat 4), .int .i64 (.ofNat 4), .int .i64 (.ofNat 1), .int .i64 (.ofNat 0), .int .i64 (.ofNat 0), .int .i64 (.ofNat 0)]),
  (i190, .row false [.int .i64 (.ofNat 0), .int .i64 (.ofNat 0), .int .i64 (.ofNat 0), .int .i64 (.ofNat 4), .bool false]),
  (i191, .row false [.ptr i190 0, .int .i64 (.ofNat 5), .int .i64 (.ofNat 5), .int .i64 (.ofNat 4), .int .i64 (.ofNat 1), .int .i64 (.ofNat 0), .int .i64 (.ofNat 0), .int .i64 (.ofNat 0)]),
  (i196, .row false [.int .i64 (.ofNat 0), .int .i64 (.ofNat 0), .int .i64 (.ofNat 0), .int .i64 (.ofNat 4), .bool false]),
  (i197, .row false [.ptr i196 0, .int .i64 (.ofNat 6), .int .i64 (.ofNat 6), .int .i64 (.ofNat 4), .int .i64 (.ofNat 1), .int .i64 (.ofNat 0), .int .i64 (.ofNat 0), .int .i64 (.ofNat 0)]),
  (i202, .row false [.int .i64 (.ofNat 0), .int .i64 (.ofNat 0), .int .i64 (.ofNat 0), .int .i64 (.ofNat 4), .bool false]),
  (i203, .row false [.ptr i202 0, .int .i64 (.ofNat 7), .int .i64 (.ofNat 7), .int .i64 (.ofNat 4), .int .i64 (.ofNat 1), .int .i64 (.ofNat 0), .int .i64 (.ofNat 0), .int .i64 (.ofNat 0)]),
  (i208, .row false [.int .i64 (.ofNat 0), .int .i64 (.ofNat 0), .int .i64 (.ofNat 0), .int .i64 (.ofNat 2), .bool false]),
  (i209, .row false [.ptr i208 0, .int .i64 (.ofNat 16), .int .i64 (.ofNat 16), .int .i64 (.ofNat 0), .int .i64 (.ofNat 0), .int .i64 (.ofNat 0), .int .i64 (.ofNat 0), .int .i64 (.ofNat 0)]),
  (i211, .row true [.nilp, .ptr i167 0, .ptr i173 0, .ptr i179 0, .ptr i185 0, .ptr i191 0, .ptr i197 0, .ptr i203 0, .ptr i209 0]),
  (i216, .row true [.int .i64 (.ofNat 0)]),
  (i222, .row true [.int .i64 (.ofNat 0)]),
  (i228, .row true [.int .i64 (.ofNat 0)]),
  (i234, .row true [.int .i64 (.ofNat 0)]),
  (i240, .row true [.int .i64 (.ofNat 0)]),
  (i246, .row true [.int .i64 (.ofNat 0)]),
  (i252, .row true [.int .i64 (.ofNat 0)]),
  (i258, .row true [.int .i64 (.ofNat 8)]),
  (i444, .row true [.int .i64 (.ofNat 1), .int .i64 (.ofNat 1), .int .i64 (.ofNat 2), .int .i64 (.ofNat 2), .int .i64 (.ofNat 3), .int .i64 (.ofNat 3), .int .i64 (.ofNat 4), .int .i64 (.ofNat 4), .int .i64 (.ofNat 5), .int .i64 (.ofNat 5), .int .i64 (.ofNat 6), .int .i64 (.ofNat 6), .int .i64 (.ofNat 7), .int .i64 (.ofNat 7)]),
  (i452, .row false [.int .i64 (.ofNat 28), .int .i64 (.ofNat 1), .lin .i64 (.ofNat 1) 0 (.ofNat 0), .int .i64 (.ofNat 0), .int .i64 (.ofNat 0)]),
  (i453, .row false [.int .i64 (.ofNat 0), .int .i64 (.ofNat 0)]),
  (i459, .row false [.int .i64 (.ofNat 0), .int .i64 (.ofNat 0)])]⟩
def lit8 : LitS := ⟨8, i152, 505, i505, [
  (i0, .tab tab),
  (i149, .row false [.nils, .bool false, .bool false]),
  (i150, .row false [.int .u64 (.ofNat 32768), .int .u64 (.ofNat 0), .int .u64 (.ofNat 0), .int .u64 (.ofNat 0), .nils, .slU i224 0 0 1, .slU i230 0 0 1, .slU i236 0 0 1, .slU i242 0 0 1, .slU i248 0 0 1, .slU i254 0 0 1, .slU i260 0 0 1, .slU i266 0 0 1, .nils, .nils, .nils, .nils, .nils, .nils, .nils, .slU i272 0 1 1, .int .i64 (.ofNat 0), .int .i64 (.ofNat 0), .int .i64 (.ofNat 0), .int .i64 (.ofNat 0), .int .i64 (.ofNat 0), .int .i64 (.ofNat 0), .int .i64 (.ofNat 0), .int .i64 (.ofNat 0), .int .i64 (.ofNat 0), .int .i64 (.ofNat 16), .int .i64 (.ofNat 0), .int .i64 (.ofNat 0), .int .i64 (.ofNat 0), .int .i64 (.ofNat 0), .int .i64 (.ofNat 0), .int .i64 (.ofNat 0), .int .i64 (.ofNat 0)]),
  (i152, .row false [.nils, .slU i161 0 1 1, .nils, .nils, .int .i64 (.ofNat 0), .ptr i155 0, .ptr i149 0, .ptr i165 0, .ptr i150 0, .slU i219 0 10 1, .int .i64 (.ofNat 0), .int .i64 (.ofNat 0), .int .i64 (.ofNat 9)]),
  (i154, .row false [.int .i64 (.ofNat 0), .int .i64 (.ofNat 0), .int .i64 (.ofNat 0), .nils]),
  (i155, .row false [.sl i154 0 1 1, .int .i64 (.ofNat 16), .int .i64 (.ofNat 16), .int .i64 (.ofNat 0), .int .i64 (.ofNat 1), .int .i64 (.ofNat 1), .int .i64 (.ofNat 0), .int .i64 (.ofNat 2), .int .i64 (.ofNat 2), .int .i64 (.ofNat 0), .int .i64 (.ofNat 3), .int .i64 (.ofNat 3), .int .i64 (.ofNat 0), .int .i64 (.ofNat 4), .int .i64 (.ofNat 4), .int .i64 (.ofNat 0), .int .i64 (.ofNat 5), .int .i64 (.ofNat 5), .int .i64 (.ofNat 0), .int .i64 (.ofNat 6), .int .i64 (.ofNat 6), .int .i64 (.ofNat 0), .int .i64 (.ofNat 7), .int .i64 (.ofNat 7), .int .i64 (.ofNat 0), .int .i64 (.ofNat 8), .int .i64 (.ofNat 8), .int .i64 (.ofNat 0), .int .i64 (.ofNat 16), .int .i64 (.ofNat 16), .int .i64 (.ofNat 0), .int .i64 (.ofNat 16), .int .i64 (.ofNat 16), .int .i64 (.ofNat 0), .int .i64 (.ofNat 16), .int .i64 (.ofNat 16), .int .i64 (.ofNat 0), .int .i64 (.ofNat 16), .int .i64 (.ofNat 16), .int .i64 (.ofNat 0), .int .i64 (.ofNat 16), .int .i64 (.ofNat 16), .int .i64 (.ofNat 0), .int .i64 (.ofNat 16), .int .i64 (.ofNat 16), .int .i64 (.ofNat 0), .int .i64 (.ofNat 16), .int .i64 (.ofNat 16), .int .i64 (.ofNat 0), .int .i64 (.ofNat 16), .int .i64 (.ofNat 16), .int .i64 (.ofNat 0)]),
  (i157, .row false [.slU i489 0 8 2, .bool false]),
  (i158, .map [((.ofNat 8), .agg [.lin .u32 (.ofNat 1) 23 (.ofNat 0), .int .i64 (.ofNat 1)]), ((.ofNat 7), .agg [.lin .u32 (.ofNat 1) 22 (.ofNat 0), .int .i64 (.ofNat 0)]), ((.ofNat 6), .agg [.lin .u32 (.ofNat 1) 21 (.ofNat 0), .int .i64 (.ofNat 1)]), ((.ofNat 5), .agg [.lin .u32 (.ofNat 1) 20 (.ofNat 0), .int .i64 (.ofNat 0)]), ((.ofNat 4), .agg [.lin .u32 (.ofNat 1) 19 (.ofNat 0), .int .i64 (.ofNat 1)]), ((.ofNat 3), .agg [.lin .u32 (.ofNat 1) 18 (.ofNat 0), .int .i64 (.ofNat 0)]), ((.ofNat 2), .agg [.lin .u32 (.ofNat 1) 17 (.ofNat 0), .int .i64 (.ofNat 1)]), ((.ofNat 1), .agg [.lin .u32 (.ofNat 1) 16 (.ofNat 0), .int .i64 (.ofNat 0)])]),
  (i159, .row false [.ptr i157 0, .int .u32 (.ofNat 0), .bool true, .bool false, .map i158]),
  (i161, .row true [.ptr i159 0]),
  (i163, .row false [.nils, .int .i64 (.ofNat 0)]),
  (i164, .row false [.ptr i163 0, .int .u64 (.ofNat 1), .int .u64 (.ofNat 0), .int .u64 (.ofNat 0)]),
  (i165, .row false [.ptr i164 0, .int .u64 (.ofNat 1), .nils, .nils]),
  (i168, .row false [.int .i64 (.ofNat 0), .int .i64 (.ofNat 0), .int .i64 (.ofNat 0), .int .i64 (.ofNat 4), .bool false]),
  (i169, .row false [.ptr i168 0, .int .i64 (.ofNat 1), .int .i64 (.ofNat 1), .int .i64 (.ofNat 4), .int .i64 (.ofNat 1), .int .i64 (.ofNat 0), .int .i64 (.ofNat 0), .int .i64 (.ofNat 0)]),
  (i174, .row false [.int .i64 (.ofNat 0), .int .i64 (.ofNat 0), .int .i64 (.ofNat 0), .int .i64 (.ofNat 4), .bool false]),
  (i175, .row false [.ptr i174 0, .int .i64 (.ofNat 2), .int .i64 (.ofNat 2), .int .i64 (.ofNat 4), .int .i64 (.ofNat 1), .int .i64 (.ofNat 0), .int .i64 (.ofNat 0), .int .i64 (.ofNat 0)]),
  (i180, .row false [.int .i64 (.ofNat 0), .int .i64 (.ofNat 0), .int .i64 (.ofNat 0), .int .i64 (.ofNat 4), .bool false]),
  (i181, .row false [.ptr i180 0, .int .i64 (.ofNat 3), .int .i64 (.ofNat 3), .int .i64 (.ofNat 4), .int .i64 (.ofNat 1), .int .i64 (.ofNat 0), .int .i64 (.ofNat 0), .int .i64 (.ofNat 0)]),
  (i186, .row false [.int .i64 (.ofNat 0), .int .i64 (.ofNat 0), .int .i64 (.ofNat 0), .int .i64 (.ofNat 4), .bool false]),
  (i187, .row false [.ptr i186 0, .int .i64 (.ofNat 4), .int .i64 (.ofNat 4), .int .i64 (.ofNat 4), .int .i64 (.ofNat 1), .int .i64 (.ofNat 0), .int .i64 (.ofNat 0), .int .i64 (.ofNat 0)]),
  (i192, .row false [.int .i64 (.ofNat 0), .int .i64 (.ofNat 0), .int .i64 (.ofNat 0), .int .i64 (.ofNat 4), .bool false]),
  (i193, .row false [.ptr i192 0, .int .i64 (.ofNat 5), .int .i64 (.ofNat 5), .int .i64 (.ofNat 4), .int .i64 (.ofNat 1), .int .i64 (.ofNat 0), .int .i64 (.ofNat 0), .int .i64 (.ofNat 0)]),
  (i198, .row false [.int .i64 (.ofNat 0), .int .i64 (.ofNat 0), .int .i64 (.ofNat 0), .int .i64 (.ofNat 4), .bool false]),
  (i199, .row false [.ptr i198 0, .int .i64 (.ofNat 6), .int .i64 (.ofNat 6), .int .i64 (.ofNat 4), .int .i64 (.ofNat 1), .int .i64 (.ofNat 0), .int .i64 (.ofNat 0), .int .i64 (.ofNat 0)]),
  (i204, .row false [.int .i64 (.ofNat 0), .int .i64 (.ofNat 0), .int .i64 (.ofNat 0), .int .i64 (.ofNat 4), .bool false]),
  (i205, .row false [.ptr i204 0, .int .i64 (.ofNat 7), .int .i64 (.ofNat 7), .int .i64 (.ofNat 4), .int .i64 (.ofNat 1), .int .i64 (.ofNat 0), .int .i64 (.ofNat 0), .int .i64 (.ofNat 0)]),
  (i210, .row false [.int .i64 (.ofNat 0), .int .i64 (.ofNat 0), .int .i64 (.ofNat 0), .int .i64 (.ofNat 4), .bool false]),
  (i211, .row false [.ptr i210 0, .int .i64 (.ofNat 8), .int .i64 (.ofNat 8), .int .i64 (.ofNat 4), .int .i64 (.ofNat 1), .int .i64 (.ofNat 0), .int .i64 (.ofNat 0), .int .i64 (.ofNat 0)]),
  (i216, .row false [.int .i64 (.ofNat 0), .int .i64 (.ofNat 0), .int .i64 (.ofNat 0), .int .i64 (.ofNat 2), .bool false]),
  (i217, .row false [.ptr i216 0, .int .i64 (.ofNat 16), .int .i64 (.ofNat 16), .int .i64 (.ofNat 0), .int .i64 (.ofNat 0), .int .i64 (.ofNat 0), .int .i64 (.ofNat 0), .int .i64 (.ofNat 0)]),
  (i219, .row true [.nilp, .ptr i169 0, .ptr i175 0, .ptr i181 0, .ptr i187 0, .ptr i193 0, .ptr i199 0, .ptr i205 0, .ptr i211 0, .ptr i217 0]),
  (i224, .row true [.int .i64 (.ofNat 0)]),
  (i230, .row true [.int .i64 (.ofNat 0)]),
  (i236, .row true [.int .i64 (.ofNat 0)]),
  (i242, .row true [.int .i64 (.ofNat 0)]),
  (i248, .row true [.int .i64 (.ofNat 0)]),
  (i254, .row true [.int .i64 (.ofNat 0)]),
  (i260, .row true [.int .i64 (.ofNat 0)]),
  (i266, .row true [.int .i64 (.ofNat 0)]),
  (i272, .row true [.int .i64 (.ofNat 9)]),
  (i489, .row true [.int .i64 (.ofNat 1), .int .i64 (.ofNat 1), .int .i64 (.ofNat 2), .int .i64 (.ofNat 2), .int .i64 (.ofNat 3), .int .i64 (.ofNat 3), .int .i64 (.ofNat 4), .int .i64 (.ofNat 4), .int .i64 (.ofNat 5), .int .i64 (.ofNat 5), .int .i64 (.ofNat 6), .int .i64 (.ofNat 6), .int .i64 (.ofNat 7), .int .i64 (.ofNat 7), .int .i64 (.ofNat 8), .int .i64 (.ofNat 8)]),
  (i497, .row false [.int .i64 (.ofNat 28), .int .i64 (.ofNat 1), .lin .i64 (.ofNat 1) 0 (.ofNat 0), .int .i64 (.ofNat 0), .int .i64 (.ofNat 0)]),
  (i498, .row false [.int .i64 (.ofNat 0), .int .i64 (.ofNat 0)]),
  (i504, .row false [.int .i64 (.ofNat 0), .int .i64 (.ofNat 0)])]⟩
def lit9 : LitS := ⟨9, i154, 551, i551, [
  (i0, .tab tab),
  (i151, .row false [.nils, .bool false, .bool false]),
  (i152, .row false [.int .u64 (.ofNat 32768), .int .u64 (.ofNat 0), .int .u64 (.ofNat 0), .int .u64 (.ofNat 0), .nils, .slU i232 0 0 1, .slU i238 0 0 1, .slU i244 0 0 1, .slU i250 0 0 1, .slU i256 0 0 1, .slU i262 0 0 1, .slU i268 0 0 1, .slU i274 0 0 1, .slU i280 0 0 1, .nils, .nils, .nils, .nils, .nils, .nils, .slU i286 0 1 1, .int .i64 (.ofNat 0), .int .i64 (.ofNat 0), .int .i64 (.ofNat 0), .int .i64 (.ofNat 0), .int .i64 (.ofNat 0), .int .i64 (.ofNat 0), .int .i64 (.ofNat 0), .int .i64 (.ofNat 0), .int .i64 (.ofNat 0), .int .i64 (.ofNat 0), .int .i64 (.ofNat 16), .int .i64 (.ofNat 0), .int .i64 (.ofNat 0), .int .i64 (.ofNat 0), .int .i64 (.ofNat 0), .int .i64 (.ofNat 0), .int .i64 (.ofNat 0)]),
  (i154, .row false [.nils, .slU i163 0 1 1, .nils, .nils, .int .i64 (.ofNat 0), .ptr i157 0, .ptr i151 0, .ptr i167 0, .ptr i152 0, .slU i227 0 11 1, .int .i64 (.ofNat 0), .int .i64 (.ofNat 0), .int .i64 (.ofNat 10)]),
  (i156, .row false [.int .i64 (.ofNat 0), .int .i64 (.ofNat 0), .int .i64 (.ofNat 0), .nils]),
  (i157, .row false [.sl i156 0 1 1, .int .i64 (.ofNat 16), .int .i64 (.ofNat 16), .int .i64 (.ofNat 0), .int .i64 (.ofNat 1), .int .i64 (.ofNat 1), .int .i64 (.ofNat 0), .int .i64 (.ofNat 2), .int .i64 (.ofNat 2), .int .i64 (.ofNat 0), .int .i64 (.ofNat 3), .int .i64 (.ofNat 3), .int .i64 (.ofNat 0), .int .i64 (.ofNat 4), .int .i64 (.ofNat 4), .int .i64 (.ofNat 0), .int .i64 (.ofNat 5), .int .i64 (.ofNat 5), .int .i64 (.ofNat 0), .int .i64 (.ofNat 6), .int .i64 (.ofNat 6), .int .i64 (.ofNat 0), .int .i64 (.ofNat 7), .int .i64 (.ofNat 7), .int .i64 (.ofNat 0), .int .i64 (.ofNat 8), .int .i64 (.ofNat 8), .int .i64 (.ofNat 0), .int .i64 (.ofNat 9), .int .i64 (.ofNat 9), .int .i64 (.ofNat 0), .int .i64 (.ofNat 16), .int .i64 (.ofNat 16), .int .i64 (.ofNat 0), .int .i64 (.ofNat 16), .int .i64 (.ofNat 16), .int .i64 (.ofNat 0), .int .i64 (.ofNat 16), .int .i64 (.ofNat 16), .int .i64 (.ofNat 0), .int .i64 (.ofNat 16), .int .i64 (.ofNat 16), .int .i64 (.ofNat 0), .int .i64 (.ofNat 16), .int .i64 (.ofNat 16), .int .i64 (.ofNat 0), .int .i64 (.ofNat 16), .int .i64 (.ofNat 16), .int .i64 (.ofNat 0), .int .i64 (.ofNat 16), .int .i64 (.ofNat 16), .int .i64 (.ofNat 0)]),
  (i159, .row false [.slU i535 0 9 2, .bool false]),
  (i160, .map [((.ofNat 9), .agg [.lin .u32 (.ofNat 1) 24 (.ofNat 0), .int .i64 (.ofNat 0)]), ((.ofNat 8), .agg [.lin .u32 (.ofNat 1) 23 (.ofNat 0), .int .i64 (.ofNat 1)]), ((.ofNat 7), .agg [.lin .u32 (.ofNat 1) 22 (.ofNat 0), .int .i64 (.ofNat 0)]), ((.ofNat 6), .agg [.lin .u32 (.ofNat 1) 21 (.ofNat 0), .int .i64 (.ofNat 1)]), ((.ofNat 5), .agg [.lin .u32 (.ofNat 1) 20 (.ofNat 0), .int .i64 (.ofNat 0)]), ((.ofNat 4), .agg [.lin .u32 (.ofNat 1) 19 (.ofNat 0), .int .i64 (.ofNat 1)]), ((.ofNat 3), .agg [.lin .u32 (.ofNat 1) 18 (.ofNat 0), .int .i64 (.ofNat 0)]), ((.ofNat 2), .agg [.lin .u32 (.ofNat 1) 17 (.ofNat 0), .int .i64 (.ofNat 1)]), ((.ofNat 1), .agg [.lin .u32 (.ofNat 1) 16 (.ofNat 0), .int .i64 (.ofNat 0)])]),
  (i161, .row false [.ptr i159 0, .int .u32 (.ofNat 0), .bool true, .bool false, .map i160]),
  (i163, .row true [.ptr i161 0]),
  (i165, .row false [.nils, .int .i64 (.ofNat 0)]),
  (i166, .row false [.ptr i165 0, .int .u64 (.ofNat 1), .int .u64 (.ofNat 0), .int .u64 (.ofNat 0)]),
  (i167, .row false [.ptr i166 0, .int .u64 (.ofNat 1), .nils, .nils]),
  (i170, .row false [.int .i64 (.ofNat 0), .int .i64 (.ofNat 0), .int .i64 (.ofNat 0), .int .i64 (.ofNat 4), .bool false]),
  (i171, .row false [.ptr i170 0, .int .i64 (.ofNat 1), .int .i64 (.ofNat 1), .int .i64 (.ofNat 4), .int .i64 (.ofNat 1), .int .i64 (.ofNat 0), .int .i64 (.ofNat 0), .int .i64 (.ofNat 0)]),
  (i176, .row false [.int .i64 (.ofNat 0), .int .i64 (.ofNat 0), .int .i64 (.ofNat 0), .int .i64 (.ofNat 4), .bool false]),
  (i177, .row false [.ptr i176 0, .int .i64 (.ofNat 2), .int .i64 (.ofNat 2), .int .i64 (.ofNat 4), .int .i64 (.ofNat 1), .int .i64 (.ofNat 0), .int .i64 (.ofNat 0), .int .i64 (.ofNat 0)]),
  (i182, .row false [.int .i64 (.ofNat 0), .int .i64 (.ofNat 0), .int .i64 (.ofNat 0), .int .i64 (.ofNat 4), .bool false]),
  (i183, .row false [.ptr i182 0, .int .i64 (.ofNat 3), .int .i64 (.ofNat 3), .int .i64 (.ofNat 4), .int .i64 (.ofNat 1), .int .i64 (.ofNat 0), .int .i64 (.ofNat 0), .int .i64 (.ofNat 0)]),
  (i188, .row false [.int .i64 (.ofNat 0), .int .i64 (.ofNat 0), .int .i64 (.ofNat 0), .int .i64 (.ofNat 4), .bool false]),
  (i189, .row false [.ptr i188 0, .int .i64 (.ofNat 4), .int .i64 (.ofNat 4), .int .i64 (.ofNat 4), .int .i64 (.ofNat 1), .int .i64 (.ofNat 0), .int .i64 (.ofNat 0), .int .i64 (.ofNat 0)]),
  (i194, .row false [.int .i64 (.ofNat 0), .int .i64 (.ofNat 0), .int .i64 (.ofNat 0), .int .i64 (.ofNat 4), .bool false]),
  (i195, .row false [.ptr i194 0, .int .i64 (.ofNat 5), .int .i64 (.ofNat 5), .int .i64 (.ofNat 4), .int .i64 (.ofNat 1), .int .i64 (.ofNat 0), .int .i64 (.ofNat 0), .int .i64 (.ofNat 0)]),
  (i200, .row false [.int .i64 (.ofNat 0), .int .i64 (.ofNat 0), .int .i64 (.ofNat 0), .int .i64 (.ofNat 4), .bool false]),
  (i201, .row false [.ptr i200 0, .int .i64 (.ofNat 6), .int .i64 (.ofNat 6), .int .i64 (.ofNat 4), .int .i64 (.ofNat 1), .int .i64 (.ofNat 0), .int .i64 (.ofNat 0), .int .i64 (.ofNat 0)]),
  (i206, .row false [.int .i64 (.ofNat 0), .int .i64 (.ofNat 0), .int .i64 (.ofNat 0), .int .i64 (.ofNat 4), .bool false]),
  (i207, .row false [.ptr i206 0, .int .i64 (.ofNat 7), .int .i64 (.ofNat 7), .int .i64 (.ofNat 4), .int .i64 (.ofNat 1), .int .i64 (.ofNat 0), .int .i64 (.ofNat 0), .int .i64 (.ofNat 0)]),
  (i212, .row false [.int .i64 (.ofNat 0), .int .i64 (.ofNat 0), .int .i64 (.ofNat 0), .int .i64 (.ofNat 4), .bool false]),
  (i213, .row false [.ptr i212 0, .int .i64 (.ofNat 8), .int .i64 (.ofNat 8), .int .i64 (.ofNat 4), .int .i64 (.ofNat 1), .int .i64 (.ofNat 0), .int .i64 (.ofNat 0), .int .i64 (.ofNat 0)]),
  (i218, .row false [.int .i64 (.ofNat 0), .int .i64 (.ofNat 0), .int .i64 (.ofNat 0), .int .i64 (.ofNat 4), .bool false]),
  (i219, .row false [.ptr i218 0, .int .i64 (.ofNat 9), .int .i64 (.ofNat 9), .int .i64 (.ofNat 4), .int .i64 (.ofNat 1), .int .i64 (.ofNat 0), .int .i64 (.ofNat 0), .int .i64 (.ofNat 0)]),
  (i224, .row false [.int .i64 (.ofNat 0), .int .i64 (.ofNat 0), .int .i64 (.ofNat 0), .int .i64 (.ofNat 2), .bool false]),
  (i225, .row false [.ptr i224 0, .int .i64 (.ofNat 16), .int .i64 (.ofNat 16), .int .i64 (.ofNat 0), .int .i64 (.ofNat 0), .int .i64 (.ofNat 0), .int .i64 (.ofNat 0), .int .i64 (.ofNat 0)]),
  (i227, .row true [.nilp, .ptr i171 0, .ptr i177 0, .ptr i183 0, .ptr i189 0, .ptr i195 0, .ptr i201 0, .ptr i207 0, .ptr i213 0, .ptr i219 0, .ptr i225 0]),
  (i232, .row true [.int .i64 (.ofNat 0)]),
  (i238, .row true [.int .i64 (.ofNat 0)]),
  (i244, .row true [.int .i64 (.ofNat 0)]),
  (i250, .row true [.int .i64 (.ofNat 0)]),
  (i256, .row true [.int .i64 (.ofNat 0)]),
  (i262, .row true [.int .i64 (.ofNat 0)]),
  (i268, .row true [.int .i64 (.ofNat 0)]),
  (i274, .row true [.int .i64 (.ofNat 0)]),
  (i280, .row true [.int .i64 (.ofNat 0)]),
  (i286, .row true [.int .i64 (.ofNat 10)]),
  (i535, .row true [.int .i64 (.ofNat 1), .int .i64 (.ofNat 1), .int .i64 (.ofNat 2), .int .i64 (.ofNat 2), .int .i64 (.ofNat 3), .int .i64 (.ofNat 3), .int .i64 (.ofNat 4), .int .i64 (.ofNat 4), .int .i64 (.ofNat 5), .int .i64 (.ofNat 5), .int .i64 (.ofNat 6), .int .i64 (.ofNat 6), .int .i64 (.ofNat 7), .int .i64 (.ofNat 7), .int .i64 (.ofNat 8), .int .i64 (.ofNat 8), .int .i64 (.ofNat 9), .int .i64 (.ofNat 9)]),
  (i543, .row false [.int .i64 (.ofNat 28), .int .i64 (.ofNat 1), .lin .i64 (.ofNat 1) 0 (.ofNat 0), .int .i64 (.ofNat 0), .int .i64 (.ofNat 0)]),
  (i544, .row false [.int .i64 (.ofNat 0), .int .i64 (.ofNat 0)]),
  (i550, .row false [.int .i64 (.ofNat 0), .int .i64 (.ofNat 0)])]⟩
def lit10 : LitS := ⟨10, i156, 598, i598, [
  (i0, .tab tab),
  (i153, .row false [.nils, .bool false, .bool false]),
  (i154, .row false [.int .u64 (.ofNat 32768), .int .u64 (.ofNat 0), .int .u64 (.ofNat 0), .int .u64 (.ofNat 0), .nils, .slU i240 0 0 1, .slU i246 0 0 1, .slU i252 0 0 1, .slU i258 0 0 1, .slU i264 0 0 1, .slU i270 0 0 1, .slU i276 0 0 1, .slU i282 0 0 1, .slU i288 0 0 1, .slU i294 0 0 1, .nils, .nils, .nils, .nils, .nils, .slU i300 0 1 1, .int .i64 (.ofNat 0), .int .i64 (.ofNat 0), .int .i64 (.ofNat 0), .int .i64 (.ofNat 0), .int .i64 (.ofNat 0), .int .i64 (.ofNat 0), .int .i64 (.ofNat 0), .int .i64 (.ofNat 0), .int .i64 (.ofNat 0), .int .i64 (.ofNat 0), .int .i64 (.ofNat 0), .int .i64 (.ofNat 16), .int .i64 (.ofNat 0), .int .i64 (.ofNat 0), .int .i64 (.ofNat 0), .int .i64 (.ofNat 0), .int .i64 (.ofNat 0)]),
  (i156, .row false [.nils, .slU i165 0 1 1, .nils, .nils, .int .i64 (.ofNat 0), .ptr i159 0, .ptr i153 0, .ptr i169 0, .ptr i154 0, .slU i235 0 12 1, .int .i64 (.ofNat 0), .int .i64 (.ofNat 0), .int .i64 (.ofNat 11)]),
  (i158, .row false [.int .i64 (.ofNat 0), .int .i64 (.ofNat 0), .int .i64 (.ofNat 0), .nils]),
  (i159, .row false [.sl i158 0 1 1, .int .i64 (.ofNat 16), .int .i64 (.ofNat 16), .int .i64 (.ofNat 0), .int .i64 (.ofNat 1), .int .i64 (.ofNat 1), .int .i64 (.ofNat 0), .int .i64 (.ofNat 2), .int .i64 (.ofNat 2), .int .i64 (.ofNat 0), .int .i64 (.ofNat 3), .int .i64 (.ofNat 3), .int .i64 (.ofNat 0), .int .i64 (.ofNat 4), .int .i64 (.ofNat 4), .int .i64 (.ofNat 0), .int .i64 (.ofNat 5), .int .i64 (.ofNat 5), .int .i64 (.ofNat 0), .int .i64 (.ofNat 6), .int .i64 (.ofNat 6), .int .i64 (.ofNat 0), .int .i64 (.ofNat 7), .int .i64 (.ofNat 7), .int .i64 (.ofNat 0), .int .i64 (.ofNat 8), .int .i64 (.ofNat 8), .int .i64 (.ofNat 0), .int .i64 (.ofNat 9), .int .i64 (.ofNat 9), .int .i64 (.ofNat 0), .int .i64 (.ofNat 10), .int .i64 (.ofNat 10), .int .i64 (.ofNat 0), .int .i64 (.ofNat 16), .int .i64 (.ofNat 16), .int .i64 (.ofNat 0), .int .i64 (.ofNat 16), .int .i64 (.ofNat 16), .int .i64 (.ofNat 0), .int .i64 (.ofNat 16), .int .i64 (.ofNat 16), .int .i64 (.ofNat 0), .int .i64 (.ofNat 16), .int .i64 (.ofNat 16), .int .i64 (.ofNat 0), .int .i64 (.ofNat 16), .int .i64 (.ofNat 16), .int .i64 (.ofNat 0), .int .i64 (.ofNat 16), .int .i64 (.ofNat 16), .int .i64 (.ofNat 0)]),
  (i161, .row false [.slU i582 0 10 2, .bool false]),
  (i162, .map [((.ofNat 10), .agg [.lin .u32 (.ofNat 1) 25 (.ofNat 0), .int .i64 (.ofNat 1)]), ((.ofNat 9), .agg [.lin .u32 (.ofNat 1) 24 (.ofNat 0), .int .i64 (.ofNat 0)]), ((.ofNat 8), .agg [.lin .u32 (.ofNat 1) 23 (.ofNat 0), .int .i64 (.ofNat 1)]), ((.ofNat 7), .agg [.lin .u32 (.ofNat 1) 22 (.ofNat 0), .int .i64 (.ofNat 0)]), ((.ofNat 6), .agg [.lin .u32 (.ofNat 1) 21 (.ofNat 0), .int .i64 (.ofNat 1)]), ((.ofNat 5), .agg [.lin .u32 (.ofNat 1) 20 (.ofNat 0), .int .i64 (.ofNat 0)]), ((.ofNat 4), .agg [.lin .u32 (.ofNat 1) 19 (.ofNat 0), .int .i64 (.ofNat 1)]), ((.ofNat 3), .agg [.lin .u32 (.ofNat 1) 18 (.ofNat 0), .int .i64 (.ofNat 0)]), ((.ofNat 2), .agg [.lin .u32 (.ofNat 1) 17 (.ofNat 0), .int .i64 (.ofNat 1)]), ((.ofNat 1), .agg [.lin .u32 (.ofNat 1) 16 (.ofNat 0), .int .i64 (.ofNat 0)])]),
  (i163, .row false [.ptr i161 0, .int .u32 (.ofNat 0), .bool true, .bool false, .map i162]),
  (i165, .row true [.ptr i163 0]),
  (i167, .row false [.nils, .int .i64 (.ofNat 0)]),
  (i168, .row false [.ptr i167 0, .int .u64 (.ofNat 1), .int .u64 (.ofNat 0), .int .u64 (.ofNat 0)]),
  (i169, .row false [.ptr i168 0, .int .u64 (.ofNat 1), .nils, .nils]),
  (i172, .row false [.int .i64 (.ofNat 0), .int .i64 (.ofNat 0), .int .i64 (.ofNat 0), .int .i64 (.ofNat 4), .bool false]),
  (i173, .row false [.ptr i172 0, .int .i64 (.ofNat 1), .int .i64 (.ofNat 1), .int .i64 (.ofNat 4), .int .i64 (.ofNat 1), .int .i64 (.ofNat 0), .int .i64 (.ofNat 0), .int .i64 (.ofNat 0)]),
  (i178, .row false [.int .i64 (.ofNat 0), .int .i64 (.ofNat 0), .int .i64 (.ofNat 0), .int .i64 (.ofNat 4), .bool false]),
  (i179, .row false [.ptr i178 0, .int .i64 (.ofNat 2), .int .i64 (.ofNat 2), .int .i64 (.ofNat 4), .int .i64 (.ofNat 1), .int .i64 (.ofNat 0), .int .i64 (.ofNat 0), .int .i64 (.ofNat 0)]),
  (i184, .row false [.int .i64 (.ofNat 0), .int .i64 (.ofNat 0), .int .i64 (.ofNat 0), .int .i64 (.ofNat 4), .bool false]),
  (i185, .row false [.ptr i184 0, .int .i64 (.ofNat 3), .int .i64 (.ofNat 3), .int .i64 (.ofNat 4), .int .i64 (.ofNat 1), .int .i64 (.ofNat 0), .int .i64 (.ofNat 0), .int .i64 (.ofNat 0)]),
  (i190, .row false [.int .i64 (.ofNat 0), .int .i64 (.ofNat 0), .int .i64 (.ofNat 0), .int .i64 (.ofNat 4), .bool false]),
  (i191, .row false [.ptr i190 0, .int .i64 (.ofNat 4), .int .i64 (.ofNat 4), .int .i64 (.ofNat 4), .int .i64 (.ofNat 1), .int .i64 (.ofNat 0), .int .i64 (.ofNat 0), .int .i64 (.ofNat 0)]),
  (i196, .row false [.int .i64 (.ofNat 0), .int .i64 (.ofNat 0), .int .i64 (.ofNat 0), .int .i64 (.ofNat 4), .bool false]),
  (i197, .row false [.ptr i196 0, .int .i64 (.ofNat 5), .int .i64 (.ofNat 5), .int .i64 (.ofNat 4), .int .i64 (.ofNat 1), .int .i64 (.ofNat 0), .int .i64 (.ofNat 0), .int .i64 (.ofNat 0)]),
  (i202, .row false [.int .i64 (.ofNat 0), .int .i64 (.ofNat 0), .int .i64 (.ofNat 0), .int .i64 (.ofNat 4), .bool false]),
  (i203, .row false [.ptr i202 0, .int .i64 (.ofNat 6), .int .i64 (.ofNat 6), .int .i64 (.ofNat 4), .int .i64 (.ofNat 1), .int .i64 (.ofNat 0), .int .i64 (.ofNat 0), .int .i64 (.ofNat 0)]),
  (i208, .row false [.int .i64 (.ofNat 0), .int .i64 (.ofNat 0), .int .i64 (.ofNat 0), .int .i64 (.ofNat 4), .bool false]),
  (i209, .row false [.ptr i208 0, .int .i64 (.ofNat 7), .int .i64 (.ofNat 7), .int .i64 (.ofNat 4), .int .i64 (.ofNat 1), .int .i64 (.ofNat 0), .int .i64 (.ofNat 0), .int .i64 (.ofNat 0)]),
  (i214, .row false [.int .i64 (.ofNat 0), .int .i64 (.ofNat 0), .int .i64 (.ofNat 0), .int .i64 (.ofNat 4), .bool false]),
  (i215, .row false [.ptr i214 0, .int .i64 (.ofNat 8), .int .i64 (.ofNat 8), .int .i64 (.ofNat 4), .int .i64 (.ofNat 1), .int .i64 (.ofNat 0), .int .i64 (.ofNat 0), .int .i64 (.ofNat 0)]),
  (i220, .row false [.int .i64 (.ofNat 0), .int .i64 (.ofNat 0), .int .i64 (.ofNat 0), .int .i64 (.ofNat 4), .bool false]),
  (i221, .row false [.ptr i220 0, .int .i64 (.ofNat 9), .int .i64 (.ofNat 9), .int .i64 (.ofNat 4), .int .i64 (.ofNat 1), .int .i64 (.ofNat 0), .int .i64 (.ofNat 0), .int .i64 (.ofNat 0)]),
  (i226, .row false [.int .i64 (.ofNat 0), .int .i64 (.ofNat 0), .int .i64 (.ofNat 0), .int .i64 (.ofNat 4), .bool false]),
  (i227, .row false [.ptr i226 0, .int .i64 (.ofNat 10), .int .i64 (.ofNat 10), .int .i64 (.ofNat 4), .int .i64 (.ofNat 1), .int .i64 (.ofNat 0), .int .i64 (.ofNat 0), .int .i64 (.ofNat 0)]),
  (i232, .row false [.int .i64 (.ofNat 0), .int .i64 (.ofNat 0), .int .i64 (.ofNat 0), .int .i64 (.ofNat 2), .bool false]),
  (i233, .row false [.ptr i232 0, .int .i64 (.ofNat 16), .int .i64 (.ofNat 16), .int .i64 (.ofNat 0), .int .i64 (.ofNat 0), .int .i64 (.ofNat 0), .int .i64 (.ofNat 0), .int .i64 (.ofNat 0)]),
  (i235, .row true [.nilp, .ptr i173 0, .ptr i179 0, .ptr i185 0, .ptr i191 0, .ptr i197 0, .ptr i203 0, .ptr i209 0, .ptr i215 0, .ptr i221 0, .ptr i227 0, .ptr i233 0]),
  (i240, .row true [.int .i64 (.ofNat 0)]),
  (i246, .row true [.int .i64 (.ofNat 0)]),
  (i252, .row true [.int .i64 (.ofNat 0)]),
  (i258, .row true [.int .i64 (.ofNat 0)]),
  (i264, .row true [.int .i64 (.ofNat 0)]),
  (i270, .row true [.int .i64 (.ofNat 0)]),
  (i276, .row true [.int .i64 (.ofNat 0)]),
  (i282, .row true [.int .i64 (.ofNat 0)]),
  (i288, .row true [.int .i64 (.ofNat 0)]),
  (i294, .row true [.int .i64 (.ofNat 0)]),
  (i300, .row true [.int .i64 (.ofNat 11)]),
  (i582, .row true [.int .i64 (.ofNat 1), .int .i64 (.ofNat 1), .int .i64 (.ofNat 2), .int .i64 (.ofNat 2), .int .i64 (.ofNat 3), .int .i64 (.ofNat 3), .int .i64 (.ofNat 4), .int .i64 (.ofNat 4), .int .i64 (.ofNat 5), .int .i64 (.ofNat 5), .int .i64 (.ofNat 6), .int .i64 (.ofNat 6), .int .i64 (.ofNat 7), .int .i64 (.ofNat 7), .int .i64 (.ofNat 8), .int .i64 (.ofNat 8), .int .i64 (.ofNat 9), .int .i64 (.ofNat 9), .int .i64 (.ofNat 10), .int .i64 (.ofNat 10)]),
  (i590, .row false [.int .i64 (.ofNat 28), .int .i64 (.ofNat 1), .lin .i64 (.ofNat 1) 0 (.ofNat 0), .int .i64 (.ofNat 0), .int .i64 (.ofNat 0)]),
  (i591, .row false [.int .i64 (.ofNat 0), .int .i64 (.ofNat 0)]),
  (i597, .row false [.int .i64 (.ofNat 0), .int .i64 (.ofNat 0)])]⟩
def lit11 : LitS := ⟨11, i158, 646, i646, [
  (i0, .tab tab),
  (i155, .row false [.nils, .bool false, .bool false]),
  (i156, .row false [.int .u64 (.ofNat 32768), .int .u64 (.ofNat 0), .int .u64 (.ofNat 0), .int .u64 (.ofNat 0), .nils, .slU i248 0 0 1, .slU i254 0 0 1, .slU i260 0 0 1, .slU i266 0 0 1, .slU i272 0 0 1, .slU i278 0 0 1, .slU i284 0 0 1, .slU i290 0 0 1, .slU i296 0 0 1, .slU i302 0 0 1, .slU i308 0 0 1, .nils, .nils, .nils, .nils, .slU i314 0 1 1, .int .i64 (.ofNat 0), .int .i64 (.ofNat 0), .int .i64 (.ofNat 0), .int .i64 (.ofNat 0), .int .i64 (.ofNat 0), .int .i64 (.ofNat 0), .int .i64 (.ofNat 0), .int .i64 (.ofNat 0), .int .i64 (.ofNat 0), .int .i64 (.ofNat 0), .int .i64 (.ofNat 0), .int .i64 (.ofNat 0), .int .i64 (.ofNat 16), .int .i64 (.ofNat 0), .int .i64 (.ofNat 0), .int .i64 (.ofNat 0), .int .i64 (.ofNat 0)]),
  (i158, .row false [.nils, .slU i167 0 1 1, .nils, .nils, .int .i64 (.ofNat 0), .ptr i161 0, .ptr i155 0, .ptr i171 0, .ptr i156 0, .slU i243 0 13 1, .int .i64 (.ofNat 0), .int .i64 (.ofNat 0), .int .i64 (.ofNat 12)]),
  (i160, .row false [.int .i64 (.ofNat 0), .int .i64 (.ofNat 0), .int .i64 (.ofNat 0), .nils]),
  (i161, .row false [.sl i160 0 1 1, .int .i64 (.ofNat 16), .int .i64 (.ofNat 16), .int .i64 (.ofNat 0), .int .i64 (.ofNat 1), .int .i64 (.ofNat 1), .int .i64 (.ofNat 0), .int .i64 (.ofNat 2), .int .i64 (.ofNat 2), .int .i64 (.ofNat 0), .int .i64 (.ofNat 3), .int .i64 (.ofNat 3), .int .i64 (.ofNat 0), .int .i64 (.ofNat 4), .int .i64 (.ofNat 4), .int .i64 (.ofNat 0), .int .i64 (.ofNat 5), .int .i64 (.ofNat 5), .int .i64 (.ofNat 0), .int .i64 (.ofNat 6), .int .i64 (.ofNat 6), .int .i64 (.ofNat 0), .int .i64 (.ofNat 7), .int .i64 (.ofNat 7), .int .i64 (.ofNat 0), .int .i64 (.ofNat 8), .int .i64 (.ofNat 8), .int .i64 (.ofNat 0), .int .i64 (.ofNat 9), .int .i64 (.ofNat 9), .int .i64 (.ofNat 0), .int .i64 (.ofNat 10), .int .i64 (.ofNat 10), .int .i64 (.ofNat 0), .int .i64 (.ofNat 11), .int .i64 (.ofNat 11), .int .i64 (.ofNat 0), .int .i64 (.ofNat 16), .int .i64 (.ofNat 16), .int .i64 (.ofNat 0), .int .i64 (.ofNat 16), .int .i64 (.ofNat 16), .int .i64 (.ofNat 0), .int .i64 (.ofNat 16), .int .i64 (.ofNat 16), .int .i64 (.ofNat 0), .int .i64 (.ofNat 16), .int .i64 (.ofNat 16), .int .i64 (.ofNat 0), .int .i64 (.ofNat 16), .int .i64 (.ofNat 16), .int .i64 (.ofNat 0)]),
  (i163, .row false [.slU i630 0 11 2, .bool false]),
  (i164, .map [((.ofNat 11), .agg [.lin .u32 (.ofNat 1) 26 (.ofNat 0), .int .i64 (.ofNat 0)]), ((.ofNat 10), .agg [.lin .u32 (.ofNat 1) 25 (.ofNat 0), .int .i64 (.ofNat 1)]), ((.ofNat 9), .agg [.lin .u32 (.ofNat 1) 24 (.ofNat 0), .int .i64 (.ofNat 0)]), ((.ofNat 8), .agg [.lin .u32 (.ofNat 1) 23 (.ofNat 0), .int .i64 (.ofNat 1)]), ((.ofNat 7), .agg [.lin .u32 (.ofNat 1) 22 (.ofNat 0), .int .i64 (.ofNat 0)]), ((.ofNat 6), .agg [.lin .u32 (.ofNat 1) 21 (.ofNat 0), .int .i64 (.ofNat 1)]), ((.ofNat 5), .agg [.lin .u32 (.ofNat 1) 20 (.ofNat 0), .int .i64 (.ofNat 0)]), ((.ofNat 4), .agg [.lin .u32 (.ofNat 1) 19 (.ofNat 0), .int .i64 (.ofNat 1)]), ((.ofNat 3), .agg [.lin .u32 (.ofNat 1) 18 (.ofNat 0), .int .i64 (.ofNat 0)]), ((.ofNat 2), .agg [.lin .u32 (.ofNat 1) 17 (.ofNat 0), .int .i64 (.ofNat 1)]), ((.ofNat 1), .agg [.lin .u32 (.ofNat 1) 16 (.ofNat 0), .int .i64 (.ofNat 0)])]),
  (i165, .row false [.ptr i163 0, .int .u32 (.ofNat 0), .bool true, .bool false, .map i164]),
  (i167, .row true [.ptr i165 0]),
  (i169, .row false [.nils, .int .i64 (.ofNat 0)]),
  (i170, .row false [.ptr i169 0, .int .u64 (.ofNat 1), .int .u64 (.ofNat 0), .int .u64 (.ofNat 0)]),
  (i171, .row false [.ptr i170 0, .int .u64 (.ofNat 1), .nils, .nils]),
  (i174, .row false [.int .i64 (.ofNat 0), .int .i64 (.ofNat 0), .int .i64 (.ofNat 0), .int .i64 (.ofNat 4), .bool false]),
  (i175, .row false [.ptr i174 0, .int .i64 (.ofNat 1), .int .i64 (.ofNat 1), .int .i64 (.ofNat 4), .int .i64 (.ofNat 1), .int .i64 (.ofNat 0), .int .i64 (.ofNat 0), .int .i64 (.ofNat 0)]),
  (i180, .row false [.int .i64 (.ofNat 0), .int .i64 (.ofNat 0), .int .i64 (.ofNat 0), .int .i64 (.ofNat 4), .bool false]),
  (i181, .row false [.ptr i180 0, .int .i64 (.ofNat 2), .int .i64 (.ofNat 2), .int .i64 (.ofNat 4), .int .i64 (.ofNat 1), .int .i64 (.ofNat 0), .int .i64 (.ofNat 0), .int .i64 (.ofNat 0)]),
  (i186, .row false [.int .i64 (.ofNat 0), .int .i64 (.ofNat 0), .int .i64 (.ofNat 0), .int .i64 (.ofNat 4), .bool false]),
  (i187, .row false [.ptr i186 0, .int .i64 (.ofNat 3), .int .i64 (.ofNat 3), .int .i64 (.ofNat 4), .int .i64 (.ofNat 1), .int .i64 (.ofNat 0), .int .i64 (.ofNat 0), .int .i64 (.ofNat 0)]),
  (i192, .row false [.int .i64 (.ofNat 0), .int .i64 (.ofNat 0), .int .i64 (.ofNat 0), .int .i64 (.ofNat 4), .bool false]),
  (i193, .row false [.ptr i192 0, .int .i64 (.ofNat 4), .int .i64 (.ofNat 4), .int .i64 (.ofNat 4), .int .i64 (.ofNat 1), .int .i64 (.ofNat 0), .int .i64 (.ofNat 0), .int .i64 (.ofNat 0)]),
  (i198, .row false [.int .i64 (.ofNat 0), .int .i64 (.ofNat 0), .int .i64 (.ofNat 0), .int .i64 (.ofNat 4), .bool false]),
  (i199, .row false [.ptr i198 0, .int .i64 (.ofNat 5), .int .i64 (.ofNat 5), .int .i64 (.ofNat 4), .int .i64 (.ofNat 1), .int .i64 (.ofNat 0), .int .i64 (.ofNat 0), .int .i64 (.ofNat 0)]),
  (i204, .row false [.int .i64 (.ofNat 0), .int .i64 (.ofNat 0), .int .i64 (.ofNat 0), .int .i64 (.ofNat 4), .bool false]),
  (i205, .row false [.ptr i204 0, .int .i64 (.ofNat 6), .int .i64 (.ofNat 6), .int .i64 (.ofNat 4), .int .i64 (.ofNat 1), .int .i64 (.ofNat 0), .int .i64 (.ofNat 0), .int .i64 (.ofNat 0)]),
  (i210, .row false [.int .i64 (.ofNat 0), .int .i64 (.ofNat 0), .int .i64 (.ofNat 0), .int .i64 (.ofNat 4), .bool false]),
  (i211, .row false [.ptr i210 0, .int .i64 (.ofNat 7), .int .i64 (.ofNat 7), .int .i64 (.ofNat 4), .int .i64 (.ofNat 1), .int .i64 (.ofNat 0), .int .i64 (.ofNat 0), .int .i64 (.ofNat 0)]),
  (i216, .row false [.int .i64 (.ofNat 0), .int .i64 (.ofNat 0), .int .i64 (.ofNat 0), .int .i64 (.ofNat 4), .bool false]),
  (i217, .row false [.ptr i216 0, .int .i64 (.ofNat 8), .int .i64 (.ofNat 8), .int .i64 (.ofNat 4), .int .i64 (.ofNat 1), .int .i64 (.ofNat 0), .int .i64 (.ofNat 0), .int .i64 (.ofNat 0)]),
  (i222, .row false [.int .i64 (.ofNat 0), .int .i64 (.ofNat 0), .int .i64 (.ofNat 0), .int .i64 (.ofNat 4), .bool false]),
  (i223, .row false [.ptr i222 0, .int .i64 (.ofNat 9), .int .i64 (.ofNat 9), .int .i64 (.ofNat 4), .int .i64 (.ofNat 1), .int .i64 (.ofNat 0), .int .i64 (.ofNat 0), .int .i64 (.ofNat 0)]),
  (i228, .row false [.int .i64 (.ofNat 0), .int .i64 (.ofNat 0), .int .i64 (.ofNat 0), .int .i64 (.ofNat 4), .bool false]),
  (i229, .row false [.ptr i228 0, .int .i64 (.ofNat 10), .int .i64 (.ofNat 10), .int .i64 (.ofNat 4), .int .i64 (.ofNat 1), .int .i64 (.ofNat 0), .int .i64 (.ofNat 0), .int .i64 (.ofNat 0)]),
  (i234, .row false [.int .i64 (.ofNat 0), .int .i64 (.ofNat 0), .int .i64 (.ofNat 0), .int .i64 (.ofNat 4), .bool false]),
  (i235, .row false [.ptr i234 0, .int .i64 (.ofNat 11), .int .i64 (.ofNat 11), .int .i64 (.ofNat 4), .int .i64 (.ofNat 1), .int .i64 (.ofNat 0), .int .i64 (.ofNat 0), .int .i64 (.ofNat 0)]),
  (i240, .row false [.int .i64 (.ofNat 0), .int .i64 (.ofNat 0), .int .i64 (.ofNat 0), .int .i64 (.ofNat 2), .bool false]),
  (i241, .row false [.ptr i240 0, .int .i64 (.ofNat 16), .int .i64 (.ofNat 16), .int .i64 (.ofNat 0), .int .i64 (.ofNat 0), .int .i64 (.ofNat 0), .int .i64 (.ofNat 0), .int .i64 (.ofNat 0)]),
  (i243, .row true [.nilp, .ptr i175 0, .ptr i181 0, .ptr i187 0, .ptr i193 0, .ptr i199 0, .ptr i205 0, .ptr i211 0, .ptr i217 0, .ptr i223 0, .ptr i229 0, .ptr i235 0, .ptr i241 0]),
  (i248, .row true [.int .i64 (.ofNat 0)]),
  (i254, .row true [.int .i64 (.ofNat 0)]),
  (i260, .row true [.int .i64 (.ofNat 0)]),
  (i266, .row true [.int .i64 (.ofNat 0)]),
  (i272, .row true [.int .i64 (.ofNat 0)]),
  (i278, .row true [.int .i64 (.ofNat 0)]),
  (i284, .row true [.int .i64 (.ofNat 0)]),
  (i290, .row true [.int .i64 (.ofNat 0)]),
  (i296, .row true [.int .i64 (.ofNat 0)]),
  (i302, .row true [.int .i64 (.ofNat 0)]),
  (i308, .row true [.int .i64 (.ofNat 0)]),
  (i314, .row true [.int .i64 (.ofNat 12)]),
  (i630, .row true [.int .i64 (.ofNat 1), .int .i64 (.ofNat 1), .int .i64 (.ofNat 2), .int .i64 (.ofNat 2), .int .i64 (.ofNat 3), .int .i64 (.ofNat 3), .int .i64 (.ofNat 4), .int .i64 (.ofNat 4), .int .i64 (.ofNat 5), .int .i64 (.ofNat 5), .int .i64 (.ofNat 6), .int .i64 (.ofNat 6), .int .i64 (.ofNat 7), .int .i64 (.ofNat 7), .int .i64 (.ofNat 8), .int .i64 (.ofNat 8), .int .i64 (.ofNat 9), .int .i64 (.ofNat 9), .int .i64 (.ofNat 10), .int .i64 (.ofNat 10), .int .i64 (.ofNat 11), .int .i64 (.ofNat 11)]),
  (i638, .row false [.int .i64 (.ofNat 28), .int .i64 (.ofNat 1), .lin .i64 (.ofNat 1) 0 (.ofNat 0), .int .i64 (.ofNat 0), .int .i64 (.ofNat 0)]),
  (i639, .row false [.int .i64 (.ofNat 0), .int .i64 (.ofNat 0)]),
  (i645, .row false [.int .i64 (.ofNat 0), .int .i64 (.ofNat 0)])]⟩
def lit12 : LitS := ⟨12, i160, 695, i695, [
  (i0, .tab tab),
  (i157, .row false [.nils, .bool false, .bool false]),
  (i158, .row false [.int .u64 (.ofNat 32768), .int .u64 (.ofNat 0), .int .u64 (.ofNat 0), .int .u64 (.ofNat 0), .nils, .slU i256 0 0 1, .slU i262 0 0 1, .slU i268 0 0 1, .slU i274 0 0 1, .slU i280 0 0 1, .slU i286 0 0 1, .slU i292 0 0 1, .slU i298 0 0 1, .slU i304 0 0 1, .slU i310 0 0 1, .slU i316 0 0 1, .slU i322 0 0 1, .nils, .nils, .nils, .slU i328 0 1 1, .int .i64 (.ofNat 0), .int .i64 (.ofNat 0), .int .i64 (.ofNat 0), .int .i64 (.ofNat 0), .int .i64 (.ofNat 0), .int .i64 (.ofNat 0), .int .i64 (.ofNat 0), .int .i64 (.ofNat 0), .int .i64 (.ofNat 0), .int .i64 (.ofNat 0), .int .i64 (.ofNat 0), .int .i64 (.ofNat 0), .int .i64 (.ofNat 0), .int .i64 (.ofNat 16), .int .i64 (.ofNat 0), .int .i64 (.ofNat 0), .int .i64 (.ofNat 0)]),
  (i160, .row false [.nils, .slU i169 0 1 1, .nils, .nils, .int .i64 (.ofNat 0), .ptr i163 0, .ptr i157 0, .ptr i173 0, .ptr i158 0, .slU i251 0 14 1, .int .i64 (.ofNat 0), .int .i64 (.ofNat 0), .int .i64 (.ofNat 13)]),
  (i162, .row false [.int .i64 (.ofNat 0), .int .i64 (.ofNat 0), .int .i64 (.ofNat 0), .nils]),
  (i163, .row false [.sl i162 0 1 1, .int .i64 (.ofNat 16), .int .i64 (.ofNat 16), .int .i64 (.ofNat 0), .int .i64 (.ofNat 1), .int .i64 (.ofNat 1), .int .i64 (.ofNat 0), .int .i64 (.ofNat 2), .int .i64 (.ofNat 2), .int .i64 (.ofNat 0), .int .i64 (.ofNat 3), .int .i64 (.ofNat 3), .int .i64 (.ofNat 0), .int .i64 (.ofNat 4), .int .i64 (.ofNat 4), .int .i64 (.ofNat 0), .int .i64 (.ofNat 5), .int .i64 (.ofNat 5), .int .i64 (.ofNat 0), .int .i64 (.ofNat 6), .int .i64 (.ofNat 6), .int .i64 (.ofNat 0), .int .i64 (.ofNat 7), .int .i64 (.ofNat 7), .int .i64 (.ofNat 0), .int .i64 (.ofNat 8), .int .i64 (.ofNat 8), .int .i64 (.ofNat 0), .int .i64 (.ofNat 9), .int .i64 (.ofNat 9), .int .i64 (.ofNat 0), .int .i64 (.ofNat 10), .int .i64 (.ofNat 10), .int .i64 (.ofNat 0), .int .i64 (.ofNat 11), .int .i64 (.ofNat 11), .int .i64 (.ofNat 0), .int .i64 (.ofNat 12), .int .i64 (.ofNat 12), .int .i64 (.ofNat 0), .int .i64 (.ofNat 16), .int .i64 (.ofNat 16), .int .i64 (.ofNat 0), .int .i64 (.ofNat 16), .int .i64 (.ofNat 16), .int .i64 (.ofNat 0), .int .i64 (.ofNat 16), .int .i64 (.ofNat 16), .int .i64 (.ofNat 0), .int .i64 (.ofNat 16), .int .i64 (.ofNat 16), .int .i64 (.ofNat 0)]),
  (i165, .row false [.slU i679 0 12 2, .bool false]),
  (i166, .map [((.ofNat 12), .agg [.lin .u32 (.ofNat 1) 27 (.ofNat 0), .int .i64 (.ofNat 1)]), ((.ofNat 11), .agg [.lin .u32 (.ofNat 1) 26 (.ofNat 0), .int .i64 (.ofNat 0)]), ((.ofNat 10), .agg [.lin .u32 (.ofNat 1) 25 (.ofNat 0), .int .i64 (.ofNat 1)]), ((.ofNat 9), .agg [.lin .u32 (.ofNat 1) 24 (.ofNat 0), .int .i64 (.ofNat 0)]), ((.ofNat 8), .agg [.lin .u32 (.ofNat 1) 23 (.ofNat 0), .int .i64 (.ofNat 1)]), ((.ofNat 7), .agg [.lin .u32 (.ofNat 1) 22 (.ofNat 0), .int .i64 (.ofNat 0)]), ((.ofNat 6), .agg [.lin .u32 (.ofNat 1) 21 (.ofNat 0), .int .i64 (.ofNat 1)]), ((.ofNat 5), .agg [.lin .u32 (.ofNat 1) 20 (.ofNat 0), .int .i64 (.ofNat 0)]), ((.ofNat 4), .agg [.lin .u32 (.ofNat 1) 19 (.ofNat 0), .int .i64 (.ofNat 1)]), ((.ofNat 3), .agg [.lin .u32 (.ofNat 1) 18 (.ofNat 0), .int .i64 (.ofNat 0)]), ((.ofNat 2), .agg [.lin .u32 (.ofNat 1) 17 (.ofNat 0), .int .i64 (.ofNat 1)]), ((.ofNat 1), .agg [.lin .u32 (.ofNat 1) 16 (.ofNat 0), .int .i64 (.ofNat 0)])]),
  (i167, .row false [.ptr i165 0, .int .u32 (.ofNat 0), .bool true, .bool false, .map i166]),
  (i169, .row true [.ptr i167 0]),
  (i171, .row false [.nils, .int .i64 (.ofNat 0)]),
  (i172, .row false [.ptr i171 0, .int .u64 (.ofNat 1), .int .u64 (.ofNat 0), .int .u64 (.ofNat 0)]),
  (i173, .row false [.ptr i172 0, .int .u64 (.ofNat 1), .nils, .nils]),
  (i176, .row false [.int .i64 (.ofNat 0), .int .i64 (.ofNat 0), .int .i64 (.ofNat 0), .int .i64 (.ofNat 4), .bool false]),
  (i177, .row false [.ptr i176 0, .int .i64 (.ofNat 1), .int .i64 (.ofNat 1), .int .i64 (.ofNat 4), .int .i64 (.ofNat 1), .int .i64 (.ofNat 0), .int .i64 (.ofNat 0), .int .i64 (.ofNat 0)]),
  (i182, .row false [.int .i64 (.ofNat 0), .int .i64 (.ofNat 0), .int .i64 (.ofNat 0), .int .i64 (.ofNat 4), .bool false]),
  (i183, .row false [.ptr i182 0, .int .i64 (.ofNat 2), .int .i64 (.ofNat 2), .int .i64 (.ofNat 4), .int .i64 (.ofNat 1), .int .i64 (.ofNat 0), .int .i64 (.ofNat 0), .int .i64 (.ofNat 0)]),
  (i188, .row false [.int .i64 (.ofNat 0), .int .i64 (.ofNat 0), .int .i64 (.ofNat 0), .int .i64 (.ofNat 4), .bool false]),
  (i189, .row false [.ptr i188 0, .int .i64 (.ofNat 3), .int .i64 (.ofNat 3), .int .i64 (.ofNat 4), .int .i64 (.ofNat 1), .int .i64 (.ofNat 0), .int .i64 (.ofNat 0), .int .i64 (.ofNat 0)]),
  (i194, .row false [.int .i64 (.ofNat 0), .int .i64 (.ofNat 0), .int .i64 (.ofNat 0), .int .i64 (.ofNat 4), .bool false]),
  (i195, .row false [.ptr i194 0, .int .i64 (.ofNat 4), .int .i64 (.ofNat 4), .int .i64 (.ofNat 4), .int .i64 (.ofNat 1), .int .i64 (.ofNat 0), .int .i64 (.ofNat 0), .int .i64 (.ofNat 0)]),
  (i200, .row false [.int .i64 (.ofNat 0), .int .i64 (.ofNat 0), .int .i64 (.ofNat 0), .int .i64 (.ofNat 4), .bool false]),
  (i201, .row false [.ptr i200 0, .int .i64 (.ofNat 5), .int .i64 (.ofNat 5), .int .i64 (.ofNat 4), .int .i64 (.ofNat 1), .int .i64 (.ofNat 0), .int .i64 (.ofNat 0), .int .i64 (.ofNat 0)]),
  (i206, .row false [.int .i64 (.ofNat 0), .int .i64 (.ofNat 0), .int .i64 (.ofNat 0), .int .i64 (.ofNat 4), .bool false]),
  (i207, .row false [.ptr i206 0, .int .i64 (.ofNat 6), .int .i64 (.ofNat 6), .int .i64 (.ofNat 4), .int .i64 (.ofNat 1), .int .i64 (.ofNat 0), .int .i64 (.ofNat 0), .int .i64 (.ofNat 0)]),
  (i212, .row false [.int .i64 (.ofNat 0), .int .i64 (.ofNat 0), .int .i64 (.ofNat 0), .int .i64 (.ofNat 4), .bool false]),
  (i213, .row false [.ptr i212 0, .int .i64 (.ofNat 7), .int .i64 (.ofNat 7), .int .i64 (.ofNat 4), .int .i64 (.ofNat 1), .int .i64 (.ofNat 0), .int .i64 (.ofNat 0), .int .i64 (.ofNat 0)]),
  (i218, .row false [.int .i64 (.ofNat 0), .int .i64 (.ofNat 0), .int .i64 (.ofNat 0), .int .i64 (.ofNat 4), .bool false]),
  (i219, .row false [.ptr i218 0, .int .i64 (.ofNat 8), .int .i64 (.ofNat 8), .int .i64 (.ofNat 4), .int .i64 (.ofNat 1), .int .i64 (.ofNat 0), .int .i64 (.ofNat 0), .int .i64 (.ofNat 0)]),
  (i224, .row false [.int .i64 (.ofNat 0), .int .i64 (.ofNat 0), .int .i64 (.ofNat 0), .int .i64 (.ofNat 4), .bool false]),
  (i225, .row false [.ptr i224 0, .int .i64 (.ofNat 9), .int .i64 (.ofNat 9), .int .i64 (.ofNat 4), .int .i64 (.ofNat 1), .int .i64 (.ofNat 0), .int .i64 (.ofNat 0), .int .i64 (.ofNat 0)]),
  (i230, .row false [.int .i64 (.ofNat 0), .int .i64 (.ofNat 0), .int .i64 (.ofNat 0), .int .i64 (.ofNat 4), .bool false]),
  (i231, .row false [.ptr i230 0, .int .i64 (.ofNat 10), .int .i64 (.ofNat 10), .int .i64 (.ofNat 4), .int .i64 (.ofNat 1), .int .i64 (.ofNat 0), .int .i64 (.ofNat 0), .int .i64 (.ofNat 0)]),
  (i236, .row false [.int .i64 (.ofNat 0), .int .i64 (.ofNat 0), .int .i64 (.ofNat 0), .int .i64 (.ofNat 4), .bool false]),
  (i237, .row false [.ptr i236 0, .int .i64 (.ofNat 11), .int .i64 (.ofNat 11), .int .i64 (.ofNat 4), .int .i64 (.ofNat 1), .int .i64 (.ofNat 0), .int .i64 (.ofNat 0), .int .i64 (.ofNat 0)]),
  (i242, .row false [.int .i64 (.ofNat 0), .int .i64 (.ofNat 0), .int .i64 (.ofNat 0), .int .i64 (.ofNat 4), .bool false]),
  (i243, .row false [.ptr i242 0, .int .i64 (.ofNat 12), .int .i64 (.ofNat 12), .int .i64 (.ofNat 4), .int .i64 (.ofNat 1), .int .i64 (.ofNat 0), .int .i64 (.ofNat 0), .int .i64 (.ofNat 0)]),
  (i248, .row false [.int .i64 (.ofNat 0), .int .i64 (.ofNat 0), .int .i64 (.ofNat 0), .int .i64 (.ofNat 2), .bool false]),
  (i249, .row false [.ptr i248 0, .int .i64 (.ofNat 16), .int .i64 (.ofNat 16), .int .i64 (.ofNat 0), .int .i64 (.ofNat 0), .int .i64 (.ofNat 0), .int .i64 (.ofNat 0), .int .i64 (.ofNat 0)]),
  (i251, .row true [.nilp, .ptr i177 0, .ptr i183 0, .ptr i189 0, .ptr i195 0, .ptr i201 0, .ptr i207 0, .ptr i213 0, .ptr i219 0, .ptr i225 0, .ptr i231 0, .ptr i237 0, .ptr i243 0, .ptr i249 0]),
  (i256, .row true [.int .i64 (.ofNat 0)]),
  (i262, .row true [.int .i64 (.ofNat 0)]),
  (i268, .row true [.int .i64 (.ofNat 0)]),
  (i274, .row true [.int .i64 (.ofNat 0)]),
  (i280, .row true [.int .i64 (.ofNat 0)]),
  (i286, .row true [.int .i64 (.ofNat 0)]),
  (i292, .row true [.int .i64 (.ofNat 0)]),
  (i298, .row true [.int .i64 (.ofNat 0)]),
  (i304, .row true [.int .i64 (.ofNat 0)]),
  (i310, .row true [.int .i64 (.ofNat 0)]),
  (i316, .row true [.int .i64 (.ofNat 0)]),
  (i322, .row true [.int .i64 (.ofNat 0)]),
  (i328, .row true [.int .i64 (.ofNat 13)]),
  (i679, .row true [.int .i64 (.ofNat 1), .int .i64 (.ofNat 1), .int .i64 (.ofNat 2), .int .i64 (.ofNat 2), .int .i64 (.ofNat 3), .int .i64 (.ofNat 3), .int .i64 (.ofNat 4), .int .i64 (.ofNat 4), .int .i64 (.ofNat 5), .int .i64 (.ofNat 5), .int .i64 (.ofNat 6), .int .i64 (.ofNat 6), .int .i64 (.ofNat 7), .int .i64 (.ofNat 7), .int .i64 (.ofNat 8), .int .i64 (.ofNat 8), .int .i64 (.ofNat 9), .int .i64 (.ofNat 9), .int .i64 (.ofNat 10), .int .i64 (.ofNat 10), .int .i64 (.ofNat 11), .int .i64 (.ofNat 11), .int .i64 (.ofNat 12), .int .i64 (.ofNat 12)]),
  (i687, .row false [.int .i64 (.ofNat 28), .int .i64 (.ofNat 1), .lin .i64 (.ofNat 1) 0 (.ofNat 0), .int .i64 (.ofNat 0), .int .i64 (.ofNat 0)]),
  (i688, .row false [.int .i64 (.ofNat 0), .int .i64 (.ofNat 0)]),
  (i694, .row false [.int .i64 (.ofNat 0), .int .i64 (.ofNat 0)])]⟩
def lit13 : LitS := ⟨13, i162, 745, i745, [
  (i0, .tab tab),
  (i159, .row false [.nils, .bool false, .bool false]),
  (i160, .row false [.int .u64 (.ofNat 32768), .int .u64 (.ofNat 0), .int .u64 (.ofNat 0), .int .u64 (.ofNat 0), .nils, .slU i264 0 0 1, .slU i270 0 0 1, .slU i276 0 0 1, .slU i282 0 0 1, .slU i288 0 0 1, .slU i294 0 0 1, .slU i300 0 0 1, .slU i306 0 0 1, .slU i312 0 0 1, .slU i318 0 0 1, .slU i324 0 0 1, .slU i330 0 0 1, .slU i336 0 0 1, .nils, .nils, .slU i342 0 1 1, .int .i64 (.ofNat 0), .int .i64 (.ofNat 0), .int .i64 (.ofNat 0), .int .i64 (.ofNat 0), .int .i64 (.ofNat 0), .int .i64 (.ofNat 0), .int .i64 (.ofNat 0), .int .i64 (.ofNat 0), .int .i64 (.ofNat 0), .int .i64 (.ofNat 0), .int .i64 (.ofNat 0), .int .i64 (.ofNat 0), .int .i64 (.ofNat 0), .int .i64 (.ofNat 0), .int .i64 (.ofNat 16), .int .i64 (.ofNat 0), .int .i64 (.ofNat 0)]),
  (i162, .row false [.nils, .slU i171 0 1 1, .nils, .nils, .int .i64 (.ofNat 0), .ptr i165 0, .ptr i159 0, .ptr i175 0, .ptr i160 0, .slU i259 0 15 1, .int .i64 (.ofNat 0), .int .i64 (.ofNat 0), .int .i64 (.ofNat 14)]),
  (i164, .row false [.int .i64 (.ofNat 0), .int .i64 (.ofNat 0), .int .i64 (.ofNat 0), .nils]),
  (i165, .row false [.sl i164 0 1 1, .int .i64 (.ofNat 16), .int .i64 (.ofNat 16), .int .i64 (.ofNat 0), .int .i64 (.ofNat 1), .int .i64 (.ofNat 1), .int .i64 (.ofNat 0), .int .i64 (.ofNat 2), .int .i64 (.ofNat 2), .int .i64 (.ofNat 0), .int .i64 (.ofNat 3), .int .i64 (.ofNat 3), .int .i64 (.ofNat 0), .int .i64 (.ofNat 4), .int .i64 (.ofNat 4), .int .i64 (.ofNat 0), .int .i64 (.ofNat 5), .int .i64 (.ofNat 5), .int .i64 (.ofNat 0), .int .i64 (.ofNat 6), .int .i64 (.ofNat 6), .int .i64 (.ofNat 0), .int .i64 (.ofNat 7), .int .i64 (.ofNat 7), .int .i64 (.ofNat 0), .int .i64 (.ofNat 8), .int .i64 (.ofNat 8), .int .i64 (.ofNat 0), .int .i64 (.ofNat 9), .int .i64 (.ofNat 9), .int .i64 (.ofNat 0), .int .i64 (.ofNat 10), .int .i64 (.ofNat 10), .int .i64 (.ofNat 0), .int .i64 (.ofNat 11), .int .i64 (.ofNat 11), .int .i64 (.ofNat 0), .int .i64 (.ofNat 12), .int .i64 (.ofNat 12), .int .i64 (.ofNat 0), .int .i64 (.ofNat 13), .int .i64 (.ofNat 13), .int .i64 (.ofNat 0), .int .i64 (.ofNat 16), .int .i64 (.ofNat 16), .int .i64 (.ofNat 0), .int .i64 (.ofNat 16), .int .i64 (.ofNat 16), .int .i64 (.ofNat 0), .int .i64 (.ofNat 16), .int .i64 (.ofNat 16), .int .i64 (.ofNat 0)]),
  (i167, .row false [.slU i729 0 13 2, .bool false]),
  (i168, .map [((.ofNat 13), .agg [.lin .u32 (.ofNat 1) 28 (.ofNat 0), .int .i64 (.ofNat 0)]), ((.ofNat 12), .agg [.lin .u32 (.ofNat 1) 27 (.ofNat 0), .int .i64 (.ofNat 1)]), ((.ofNat 11), .agg [.lin .u32 (.ofNat 1) 26 (.ofNat 0), .int .i64 (.ofNat 0)]), ((.ofNat 10), .agg [.lin .u32 (.ofNat 1) 25 (.ofNat 0), .int .i64 (.ofNat 1)]), ((.ofNat 9), .agg [.lin .u32 (.ofNat 1) 24 (.ofNat 0), .int .i64 (.ofNat 0)]), ((.ofNat 8), .agg [.lin .u32 (.ofNat 1) 23 (.ofNat 0), .int .i64 (.ofNat 1)]), ((.ofNat 7), .agg [.lin .u32 (.ofNat 1) 22 (.ofNat 0), .int .i64 (.ofNat 0)]), ((.ofNat 6), .agg [.lin .u32 (.ofNat 1) 21 (.ofNat 0), .int .i64 (.ofNat 1)]), ((.ofNat 5), .agg [.lin .u32 (.ofNat 1) 20 (.ofNat 0), .int .i64 (.ofNat 0)]), ((.ofNat 4), .agg [.lin .u32 (.ofNat 1) 19 (.ofNat 0), .int .i64 (.ofNat 1)]), ((.ofNat 3), .agg [.lin .u32 (.ofNat 1) 18 (.ofNat 0), .int .i64 (.ofNat 0)]), ((.ofNat 2), .agg [.lin .u32 (.ofNat 1) 17 (.ofNat 0), .int .i64 (.ofNat 1)]), ((.ofNat 1), .agg [.lin .u32 (.ofNat 1) 16 (.ofNat 0), .int .i64 (.ofNat 0)])]),
  (i169, .row false [.ptr i167 0, .int .u32 (.ofNat 0), .bool true, .bool false, .map i168]),
  (i171, .row true [.ptr i169 0]),
  (i173, .row false [.nils, .int .i64 (.ofNat 0)]),
  (i174, .row false [.ptr i173 0, .int .u64 (.ofNat 1), .int .u64 (.ofNat 0), .int .u64 (.ofNat 0)]),
  (i175, .row false [.ptr i174 0, .int .u64 (.ofNat 1), .nils, .nils]),
  (i178, .row false [.int .i64 (.ofNat 0), .int .i64 (.ofNat 0), .int .i64 (.ofNat 0), .int .i64 (.ofNat 4), .bool false]),
  (i179, .row false [.ptr i178 0, .int .i64 (.ofNat 1), .int .i64 (.ofNat 1), .int .i64 (.ofNat 4), .int .i64 (.ofNat 1), .int .i64 (.ofNat 0), .int .i64 (.ofNat 0), .int .i64 (.ofNat 0)]),
  (i184, .row false [.int .i64 (.ofNat 0), .int .i64 (.ofNat 0), .int .i64 (.ofNat 0), .int .i64 (.ofNat 4), .bool false]),
  (i185, .row false [.ptr i184 0, .int .i64 (.ofNat 2), .int .i64 (.ofNat 2), .int .i64 (.ofNat 4), .int .i64 (.ofNat 1), .int .i64 (.ofNat 0), .int .i64 (.ofNat 0), .int .i64 (.ofNat 0)]),
  (i190, .row false [.int .i64 (.ofNat 0), .int .i64 (.ofNat 0), .int .i64 (.ofNat 0), .int .i64 (.ofNat 4), .bool false]),
  (i191, .row false [.ptr i190 0, .int .i64 (.ofNat 3), .int .i64 (.ofNat 3), .int .i64 (.ofNat 4), .int .i64 (.ofNat 1), .int .i64 (.ofNat 0), .int .i64 (.ofNat 0), .int .i64 (.ofNat 0)]),
  (i196, .row false [.int .i64 (.ofNat 0), .int .i64 (.ofNat 0), .int .i64 (.ofNat 0), .int .i64 (.ofNat 4), .bool false]),
  (i197, .row false [.ptr i196 0, .int .i64 (.ofNat 4), .int .i64 (.ofNat 4), .int .i64 (.ofNat 4), .int .i64 (.ofNat 1), .int .i64 (.ofNat 0), .int .i64 (.ofNat 0), .int .i64 (.ofNat 0)]),
  (i202, .row false [.int .i64 (.ofNat 0), .int .i64 (.ofNat 0), .int .i64 (.ofNat 0), .int .i64 (.ofNat 4), .bool false]),
  (i203, .row false [.ptr i202 0, .int .i64 (.ofNat 5), .int .i64 (.ofNat 5), .int .i64 (.ofNat 4), .int .i64 (.ofNat 1), .int .i64 (.ofNat 0), .int .i64 (.ofNat 0), .int .i64 (.ofNat 0)]),
  (i208, .row false [.int .i64 (.ofNat 0), .int .i64 (.ofNat 0), .int .i64 (.ofNat 0), .int .i64 (.ofNat 4), .bool false]),
  (i209, .row false [.ptr i208 0, .int .i64 (.ofNat 6), .int .i64 (.ofNat 6), .int .i64 (.ofNat 4), .int .i64 (.ofNat 1), .int .i64 (.ofNat 0), .int .i64 (.ofNat 0), .int .i64 (.ofNat 0)]),
  (i214, .row false [.int .i64 (.ofNat 0), .int .i64 (.ofNat 0), .int .i64 (.ofNat 0), .int .i64 (.ofNat 4), .bool false]),
  (i215, .row false [.ptr i214 0, .int .i64 (.ofNat 7), .int .i64 (.ofNat 7), .int .i64 (.ofNat 4), .int .i64 (.ofNat 1), .int .i64 (.ofNat 0), .int .i64 (.ofNat 0), .int .i64 (.ofNat 0)]),
  (i220, .row false [.int .i64 (.ofNat 0), .int .i64 (.ofNat 0), .int .i64 (.ofNat 0), .int .i64 (.ofNat 4), .bool false]),
  (i221, .row false [.ptr i220 0, .int .i64 (.ofNat 8), .int .i64 (.ofNat 8), .int .i64 (.ofNat 4), .int .i64 (.ofNat 1), .int .i64 (.ofNat 0), .int .i64 (.ofNat 0), .int .i64 (.ofNat 0)]),
  (i226, .row false [.int .i64 (.ofNat 0), .int .i64 (.ofNat 0), .int .i64 (.ofNat 0), .int .i64 (.ofNat 4), .bool false]),
  (i227, .row false [.ptr i226 0, .int .i64 (.ofNat 9), .int .i64 (.ofNat 9), .int .i64 (.ofNat 4), .int .i64 (.ofNat 1), .int .i64 (.ofNat 0), .int .i64 (.ofNat 0), .int .i64 (.ofNat 0)]),
  (i232, .row false [.int .i64 (.ofNat 0), .int .i64 (.ofNat 0), .int .i64 (.ofNat 0), .int .i64 (.ofNat 4), .bool false]),
  (i233, .row false [.ptr i232 0, .int .i64 (.ofNat 10), .int .i64 (.ofNat 10), .int .i64 (.ofNat 4), .int .i64 (.ofNat 1), .int .i64 (.ofNat 0), .int .i64 (.ofNat 0), .int .i64 (.ofNat 0)]),
  (i238, .row false [.int .i64 (.ofNat 0), .int .i64 (.ofNat 0), .int .i64 (.ofNat 0), .int .i64 (.ofNat 4), .bool false]),
  (i239, .row false [.ptr i238 0, .int .i64 (.ofNat 11), .int .i64 (.ofNat 11), .int .i64 (.ofNat 4), .int .i64 (.ofNat 1), .int .i64 (.ofNat 0), .int .i64 (.ofNat 0), .int .i64 (.ofNat 0)]),
  (i244, .row false [.int .i64 (.ofNat 0), .int .i64 (.ofNat 0), .int .i64 (.ofNat 0), .int .i64 (.ofNat 4), .bool false]),
  (i245, .row false [.ptr i244 0, .int .i64 (.ofNat 12), .int .i64 (.ofNat 12), .int .i64 (.ofNat 4), .int .i64 (.ofNat 1), .int .i64 (.ofNat 0), .int .i64 (.ofNat 0), .int .i64 (.ofNat 0)]),
  (i250, .row false [.int .i64 (.ofNat 0), .int .i64 (.ofNat 0), .int .i64 (.ofNat 0), .int .i64 (.ofNat 4), .bool false]),
  (i251, .row false [.ptr i250 0, .int .i64 (.ofNat 13), .int .i64 (.ofNat 13), .int .i64 (.ofNat 4), .int .i64 (.ofNat 1), .int .i64 (.ofNat 0), .int .i64 (.ofNat 0), .int .i64 (.ofNat 0)]),
  (i256, .row false [.int .i64 (.ofNat 0), .int .i64 (.ofNat 0), .int .i64 (.ofNat 0), .int .i64 (.ofNat 2), .bool false]),
  (i257, .row false [.ptr i256 0, .int .i64 (.ofNat 16), .int .i64 (.ofNat 16), .int .i64 (.ofNat 0), .int .i64 (.ofNat 0), .int .i64 (.ofNat 0), .int .i64 (.ofNat 0), .int .i64 (.ofNat 0)]),
  (i259, .row true [.nilp, .ptr i179 0, .ptr i185 0, .ptr i191 0, .ptr i197 0, .ptr i203 0, .ptr i209 0, .ptr i215 0, .ptr i221 0, .ptr i227 0, .ptr i233 0, .ptr i239 0, .ptr i245 0, .ptr i251 0, .ptr i257 0]),
  (i264, .row true [.int .i64 (.ofNat 0)]),
  (i270, .row true [.int .i64 (.ofNat 0)]),
  (i276, .row true [.int .i64 (.ofNat 0)]),
  (i282, .row true [.int .i64 (.ofNat 0)]),
  (i288, .row true [.int .i64 (.ofNat 0)]),
  (i294, .row true [.int .i64 (.ofNat 0)]),
  (i300, .row true [.int .i64 (.ofNat 0)]),
  (i306, .row true [.int .i64 (.ofNat 0)]),
  (i312, .row true [.int .i64 (.ofNat 0)]),
  (i318, .row true [.int .i64 (.ofNat 0)]),
  (i324, .row true [.int .i64 (.ofNat 0)]),
  (i330, .row true [.int .i64 (.ofNat 0)]),
  (i336, .row true [.int .i64 (.ofNat 0)]),
  (i342, .row true [.int .i64 (.ofNat 14)]),
  (i729, .row true [.int .i64 (.ofNat 1), .int .i64 (.ofNat 1), .int .i64 (.ofNat 2), .int .i64 (.ofNat 2), .int .i64 (.ofNat 3), .int .i64 (.ofNat 3), .int .i64 (.ofNat 4), .int .i64 (.ofNat 4), .int .i64 (.ofNat 5), .int .i64 (.ofNat 5), .int .i64 (.ofNat 6), .int .i64 (.ofNat 6), .int .i64 (.ofNat 7), .int .i64 (.ofNat 7), .int .i64 (.ofNat 8), .int .i64 (.ofNat 8), .int .i64 (.ofNat 9), .int .i64 (.ofNat 9), .int .i64 (.ofNat 10), .int .i64 (.ofNat 10), .int .i64 (.ofNat 11), .int .i64 (.ofNat 11), .int .i64 (.ofNat 12), .int .i64 (.ofNat 12), .int .i64 (.ofNat 13), .int .i64 (.ofNat 13)]),
  (i737, .row false [.int .i64 (.ofNat 28), .int .i64 (.ofNat 1), .lin .i64 (.ofNat 1) 0 (.ofNat 0), .int .i64 (.ofNat 0), .int .i64 (.ofNat 0)]),
  (i738, .row false [.int .i64 (.ofNat 0), .int .i64 (.ofNat 0)]),
  (i744, .row false [.int .i64 (.ofNat 0), .int .i64 (.ofNat 0)])]⟩
def lit14 : LitS := ⟨14, i164, 796, i796, [
  (i0, .tab tab),
  (i161, .row false [.nils, .bool false, .bool false]),
  (i162, .row false [.int .u64 (.ofNat 32768), .int .u64 (.ofNat 0), .int .u64 (.ofNat 0), .int .u64 (.ofNat 0), .nils, .slU i272 0 0 1, .slU i278 0 0 1, .slU i284 0 0 1, .slU i290 0 0 1, .slU i296 0 0 1, .slU i302 0 0 1, .slU i308 0 0 1, .slU i314 0 0 1, .slU i320 0 0 1, .slU i326 0 0 1, .slU i332 0 0 1, .slU i338 0 0 1, .slU i344 0 0 1, .slU i350 0 0 1, .nils, .slU i356 0 1 1, .int .i64 (.ofNat 0), .int .i64 (.ofNat 0), .int .i64 (.ofNat 0), .int .i64 (.ofNat 0), .int .i64 (.ofNat 0), .int .i64 (.ofNat 0), .int .i64 (.ofNat 0), .int .i64 (.ofNat 0), .int .i64 (.ofNat 0), .int .i64 (.ofNat 0), .int .i64 (.ofNat 0), .int .i64 (.ofNat 0), .int .i64 (.ofNat 0), .int .i64 (.ofNat 0), .int .i64 (.ofNat 0), .int .i64 (.ofNat 16), .int .i64 (.ofNat 0)]),
  (i164, .row false [.nils, .slU i173 0 1 1, .nils, .nils, .int .i64 (.ofNat 0), .ptr i167 0, .ptr i161 0, .ptr i177 0, .ptr i162 0, .slU i267 0 16 1, .int .i64 (.ofNat 0), .int .i64 (.ofNat 0), .int .i64 (.ofNat 15)]),
  (i166, .row false [.int .i64 (.ofNat 0), .int .i64 (.ofNat 0), .int .i64 (.ofNat 0), .nils]),
  (i167, .row false [.sl i166 0 1 1, .int .i64 (.ofNat 16), .int .i64 (.ofNat 16), .int .i64 (.ofNat 0), .int .i64 (.ofNat 1), .int .i64 (.ofNat 1), .int .i64 (.ofNat 0), .int .i64 (.ofNat 2), .int .i64 (.ofNat 2), .int .i64 (.ofNat 0), .int .i64 (.ofNat 3), .int .i64 (.ofNat 3), .int .i64 (.ofNat 0), .int .i64 (.ofNat 4), .int .i64 (.ofNat 4), .int .i64 (.ofNat 0), .int .i64 (.ofNat 5), .int .i64 (.ofNat 5), .int .i64 (.ofNat 0), .int .i64 (.ofNat 6), .int .i64 (.ofNat 6), .int .i64 (.ofNat 0), .int .i64 (.ofNat 7), .int .i64 (.ofNat 7), .int .i64 (.ofNat 0), .int .i64 (.ofNat 8), .int .i64 (.ofNat 8), .int .i64 (.ofNat 0), .int .i64 (.ofNat 9), .int .i64 (.ofNat 9), .int .i64 (.ofNat 0), .int .i64 (.ofNat 10), .int .i64 (.ofNat 10), .int .i64 (.ofNat 0), .int .i64 (.ofNat 11), .int .i64 (.ofNat 11), .int .i64 (.ofNat 0), .int .i64 (.ofNat 12), .int .i64 (.ofNat 12), .int .i64 (.ofNat 0), .int .i64 (.ofNat 13), .int .i64 (.ofNat 13), .int .i64 (.ofNat 0), .int .i64 (.ofNat 14), .int .i64 (.ofNat 14), .int .i64 (.ofNat 0), .int .i64 (.ofNat 16), .int .i64 (.ofNat 16), .int .i64 (.ofNat 0), .int .i64 (.ofNat 16), .int .i64 (.ofNat 16), .int .i64 (.ofNat 0)]),
  (i169, .row false [.slU i780 0 14 2, .bool false]),
  (i170, .map [((.ofNat 14), .agg [.lin .u32 (.ofNat 1) 29 (.ofNat 0), .int .i64 (.ofNat 1)]), ((.ofNat 13), .agg [.lin .u32 (.ofNat 1) 28 (.ofNat 0), .int .i64 (.ofNat 0)]), ((.ofNat 12), .agg [.lin .u32 (.ofNat 1) 27 (.ofNat 0), .int .i64 (.ofNat 1)]), ((.ofNat 11), .agg [.lin .u32 (.ofNat 1) 26 (.ofNat 0), .int .i64 (.ofNat 0)]), ((.ofNat 10), .agg [.lin .u32 (.ofNat 1) 25 (.ofNat 0), .int .i64 (.ofNat 1)]), ((.ofNat 9), .agg [.lin .u32 (.ofNat 1) 24 (.ofNat 0), .int .i64 (.ofNat 0)]), ((.ofNat 8), .agg [.lin .u32 (.ofNat 1) 23 (.ofNat 0), .int .i64 (.ofNat 1)]), ((.ofNat 7), .agg [.lin .u32 (.ofNat 1) 22 (.ofNat 0), .int .i64 (.ofNat 0)]), ((.ofNat 6), .agg [.lin .u32 (.ofNat 1) 21 (.ofNat 0), .int .i64 (.ofNat 1)]), ((.ofNat 5), .agg [.lin .u32 (.ofNat 1) 20 (.ofNat 0), .int .i64 (.ofNat 0)]), ((.ofNat 4), .agg [.lin .u32 (.ofNat 1) 19 (.ofNat 0), .int .i64 (.ofNat 1)]), ((.ofNat 3), .agg [.lin .u32 (.ofNat 1) 18 (.ofNat 0), .int .i64 (.ofNat 0)]), ((.ofNat 2), .agg [.lin .u32 (.ofNat 1) 17 (.ofNat 0), .int .i64 (.ofNat 1)]), ((.ofNat 1), .agg [.lin .u32 (.ofNat 1) 16 (.ofNat 0), .int .i64 (.ofNat 0)])]),
  (i171, .row false [.ptr i169 0, .int .u32 (.ofNat 0), .bool true, .bool false, .map i170]),
  (i173, .row true [.ptr i171 0]),
  (i175, .row false [.nils, .int .i64 (.ofNat 0)]),
  (i176, .row false [.ptr i175 0, .int .u64 (.ofNat 1), .int .u64 (.ofNat 0), .int .u64 (.ofNat 0)]),
  (i177, .row false [.ptr i176 0, .int .u64 (.ofNat 1), .nils, .nils]),
  (i180, .row false [.int .i64 (.ofNat 0), .int .i64 (.ofNat 0), .int .i64 (.ofNat 0), .int .i64 (.ofNat 4), .bool false]),
  (i181, .row false [.ptr i180 0, .int .i64 (.ofNat 1), .int .i64 (.ofNat 1), .int .i64 (.ofNat 4), .int .i64 (.ofNat 1), .int .i64 (.ofNat 0), .int .i64 (.ofNat 0), .int .i64 (.ofNat 0)]),
  (i186, .row false [.int .i64 (.ofNat 0), .int .i64 (.ofNat 0), .int .i64 (.ofNat 0), .int .i64 (.ofNat 4), .bool false]),
  (i187, .row false [.ptr i186 0, .int .i64 (.ofNat 2), .int .i64 (.ofNat 2), .int .i64 (.ofNat 4), .int .i64 (.ofNat 1), .int .i64 (.ofNat 0), .int .i64 (.ofNat 0), .int .i64 (.ofNat 0)]),
  (i192, .row false [.int .i64 (.ofNat 0), .int .i64 (.ofNat 0), .int .i64 (.ofNat 0), .int .i64 (.ofNat 4), .bool false]),
  (i193, .row false [.ptr i192 0, .int .i64 (.ofNat 3), .int .i64 (.ofNat 3), .int .i64 (.ofNat 4), .int .i64 (.ofNat 1), .int .i64 (.ofNat 0), .int .i64 (.ofNat 0), .int .i64 (.ofNat 0)]),
  (i198, .row false [.int .i64 (.ofNat 0), .int .i64 (.ofNat 0), .int .i64 (.ofNat 0), .int .i64 (.ofNat 4), .bool false]),
  (i199, .row false [.ptr i198 0, .int .i64 (.ofNat 4), .int .i64 (.ofNat 4), .int .i64 (.ofNat 4), .int .i64 (.ofNat 1), .int .i64 (.ofNat 0), .int .i64 (.ofNat 0), .int .i64 (.ofNat 0)]),
  (i204, .row false [.int .i64 (.ofNat 0), .int .i64 (.ofNat 0), .int .i64 (.ofNat 0), .int .i64 (.ofNat 4), .bool false]),
  (i205, .row false [.ptr i204 0, .int .i64 (.ofNat 5), .int .i64 (.ofNat 5), .int .i64 (.ofNat 4), .int .i64 (.ofNat 1), .int .i64 (.ofNat 0), .int .i64 (.ofNat 0), .int .i64 (.ofNat 0)]),
  (i210, .row false [.int .i64 (.ofNat 0), .int .i64 (.ofNat 0), .int .i64 (.ofNat 0), .int .i64 (.ofNat 4), .bool false]),
  (i211, .row false [.ptr i210 0, .int .i64 (.ofNat 6), .int .i64 (.ofNat 6), .int .i64 (.ofNat 4), .int .i64 (.ofNat 1), .int .i64 (.ofNat 0), .int .i64 (.ofNat 0), .int .i64 (.ofNat 0)]),
  (i216, .row false [.int .i64 (.ofNat 0), .int .i64 (.ofNat 0), .int .i64 (.ofNat 0), .int .i64 (.ofNat 4), .bool false]),
  (i217, .row false [.ptr i216 0, .int .i64 (.ofNat 7), .int .i64 (.ofNat 7), .int .i64 (.ofNat 4), .int .i64 (.ofNat 1), .int .i64 (.ofNat 0), .int .i64 (.ofNat 0), .int .i64 (.ofNat 0)]),
  (i222, .row false [.int .i64 (.ofNat 0), .int .i64 (.ofNat 0), .int .i64 (.ofNat 0), .int .i64 (.ofNat 4), .bool false]),
  (i223, .row false [.ptr i222 0, .int .i64 (.ofNat 8), .int .i64 (.ofNat 8), .int .i64 (.ofNat 4), .int .i64 (.ofNat 1), .int .i64 (.ofNat 0), .int .i64 (.ofNat 0), .int .i64 (.ofNat 0)]),
  (i228, .row false [.int .i64 (.ofNat 0), .int .i64 (.ofNat 0), .int .i64 (.ofNat 0), .int .i64 (.ofNat 4), .bool false]),
  (i229, .row false [.ptr i228 0, .int .i64 (.ofNat 9), .int .i64 (.ofNat 9), .int .i64 (.ofNat 4), .int .i64 (.ofNat 1), .int .i64 (.ofNat 0), .int .i64 (.ofNat 0), .int .i64 (.ofNat 0)]),
  (i234, .row false [.int .i64 (.ofNat 0), .int .i64 (.ofNat 0), .int .i64 (.ofNat 0), .int .i64 (.ofNat 4), .bool false]),
  (i235, .row false [.ptr i234 0, .int .i64 (.ofNat 10), .int .i64 (.ofNat 10), .int .i64 (.ofNat 4), .int .i64 (.ofNat 1), .int .i64 (.ofNat 0), .int .i64 (.ofNat 0), .int .i64 (.ofNat 0)]),
  (i240, .row false [.int .i64 (.ofNat 0), .int .i64 (.ofNat 0), .int .i64 (.ofNat 0), .int .i64 (.ofNat 4), .bool false]),
  (i241, .row false [.ptr i240 0, .int .i64 (.ofNat 11), .int .i64 (.ofNat 11), .int .i64 (.ofNat 4), .int .i64 (.ofNat 1), .int .i64 (.ofNat 0), .int .i64 (.ofNat 0), .int .i64 (.ofNat 0)]),
  (i246, .row false [.int .i64 (.ofNat 0), .int .i64 (.ofNat 0), .int .i64 (.ofNat 0), .int .i64 (.ofNat 4), .bool false]),
  (i247, .row false [.ptr i246 0, .int .i64 (.ofNat 12), .int .i64 (.ofNat 12), .int .i64 (.ofNat 4), .int .i64 (.ofNat 1), .int .i64 (.ofNat 0), .int .i64 (.ofNat 0), .int .i64 (.ofNat 0)]),
  (i252, .row false [.int .i64 (.ofNat 0), .int .i64 (.ofNat 0), .int .i64 (.ofNat 0), .int .i64 (.ofNat 4), .bool false]),
  (i253, .row false [.ptr i252 0, .int .i64 (.ofNat 13), .int .i64 (.ofNat 13), .int .i64 (.ofNat 4), .int .i64 (.ofNat 1), .int .i64 (.ofNat 0), .int .i64 (.ofNat 0), .int .i64 (.ofNat 0)]),
  (i258, .row false [.int .i64 (.ofNat 0), .int .i64 (.ofNat 0), .int .i64 (.ofNat 0), .int .i64 (.ofNat 4), .bool false]),
  (i259, .row false [.ptr i258 0, .int .i64 (.ofNat 14), .int .i64 (.ofNat 14), .int .i64 (.ofNat 4), .int .i64 (.ofNat 1), .int .i64 (.ofNat 0), .int .i64 (.ofNat 0), .int .i64 (.ofNat 0)]),
  (i264, .row false [.int .i64 (.ofNat 0), .int .i64 (.ofNat 0), .int .i64 (.ofNat 0), .int .i64 (.ofNat 2), .bool false]),
  (i265, .row false [.ptr i264 0, .int .i64 (.ofNat 16), .int .i64 (.ofNat 16), .int .i64 (.ofNat 0), .int .i64 (.ofNat 0), .int .i64 (.ofNat 0), .int .i64 (.ofNat 0), .int .i64 (.ofNat 0)]),
  (i267, .row true [.nilp, .ptr i181 0, .ptr i187 0, .ptr i193 0, .ptr i199 0, .ptr i205 0, .ptr i211 0, .ptr i217 0, .ptr i223 0, .ptr i229 0, .ptr i235 0, .ptr i241 0, .ptr i247 0, .ptr i253 0, .ptr i259 0, .ptr i265 0]),
  (i272, .row true [.int .i64 (.ofNat 0)]),
  (i278, .row true [.int .i64 (.ofNat 0)]),
  (i284, .row true [.int .i64 (.ofNat 0)]),
  (i290, .row true [.int .i64 (.ofNat 0)]),
  (i296, .row true [.int .i64 (.ofNat 0)]),
  (i302, .row true [.int .i64 (.ofNat 0)]),
  (i308, .row true [.int .i64 (.ofNat 0)]),
  (i314, .row true [.int .i64 (.ofNat 0)]),
  (i320, .row true [.int .i64 (.ofNat 0)]),
  (i326, .row true [.int .i64 (.ofNat 0)]),
  (i332, .row true [.int .i64 (.ofNat 0)]),
  (i338, .row true [.int .i64 (.ofNat 0)]),
  (i344, .row true [.int .i64 (.ofNat 0)]),
  (i350, .row true [.int .i64 (.ofNat 0)]),
  (i356, .row true [.int .i64 (.ofNat 15)]),
  (i780, .row true [.int .i64 (.ofNat 1), .int .i64 (.ofNat 1), .int .i64 (.ofNat 2), .int .i64 (.ofNat 2), .int .i64 (.ofNat 3), .int .i64 (.ofNat 3), .int .i64 (.ofNat 4), .int .i64 (.ofNat 4), .int .i64 (.ofNat 5), .int .i64 (.ofNat 5), .int .i64 (.ofNat 6), .int .i64 (.ofNat 6), .int .i64 (.ofNat 7), .int .i64 (.ofNat 7), .int .i64 (.ofNat 8), .int .i64 (.ofNat 8), .int .i64 (.ofNat 9), .int .i64 (.ofNat 9), .int .i64 (.ofNat 10), .int .i64 (.ofNat 10), .int .i64 (.ofNat 11), .int .i64 (.ofNat 11), .int .i64 (.ofNat 12), .int .i64 (.ofNat 12), .int .i64 (.ofNat 13), .int .i64 (.ofNat 13), .int .i64 (.ofNat 14), .int .i64 (.ofNat 14)]),
  (i788, .row false [.int .i64 (.ofNat 28), .int .i64 (.ofNat 1), .lin .i64 (.ofNat 1) 0 (.ofNat 0), .int .i64 (.ofNat 0), .int .i64 (.ofNat 0)]),
  (i789, .row false [.int .i64 (.ofNat 0), .int .i64 (.ofNat 0)]),
  (i795, .row false [.int .i64 (.ofNat 0), .int .i64 (.ofNat 0)])]⟩
def lit15 : LitS := ⟨15, i166, 848, i848, [
  (i0, .tab tab),
  (i163, .row false [.nils, .bool false, .bool false]),
  (i164, .row false [.int .u64 (.ofNat 32768), .int .u64 (.ofNat 0), .int .u64 (.ofNat 0), .int .u64 (.ofNat 0), .nils, .slU i280 0 0 1, .slU i286 0 0 1, .slU i292 0 0 1, .slU i298 0 0 1, .slU i304 0 0 1, .slU i310 0 0 1, .slU i316 0 0 1, .slU i322 0 0 1, .slU i328 0 0 1, .slU i334 0 0 1, .slU i340 0 0 1, .slU i346 0 0 1, .slU i352 0 0 1, .slU i358 0 0 1, .slU i364 0 0 1, .slU i370 0 1 1, .int .i64 (.ofNat 0), .int .i64 (.ofNat 0), .int .i64 (.ofNat 0), .int .i64 (.ofNat 0), .int .i64 (.ofNat 0), .int .i64 (.ofNat 0), .int .i64 (.ofNat 0), .int .i64 (.ofNat 0), .int .i64 (.ofNat 0), .int .i64 (.ofNat 0), .int .i64 (.ofNat 0), .int .i64 (.ofNat 0), .int .i64 (.ofNat 0), .int .i64 (.ofNat 0), .int .i64 (.ofNat 0), .int .i64 (.ofNat 0), .int .i64 (.ofNat 16)]),
  (i166, .row false [.nils, .slU i175 0 1 1, .nils, .nils, .int .i64 (.ofNat 0), .ptr i169 0, .ptr i163 0, .ptr i179 0, .ptr i164 0, .slU i275 0 17 1, .int .i64 (.ofNat 0), .int .i64 (.ofNat 0), .int .i64 (.ofNat 16)]),
  (i168, .row false [.int .i64 (.ofNat 0), .int .i64 (.ofNat 0), .int .i64 (.ofNat 0), .nils]),
  (i169, .row false [.sl i168 0 1 1, .int .i64 (.ofNat 16), .int .i64 (.ofNat 16), .int .i64 (.ofNat 0), .int .i64 (.ofNat 1), .int .i64 (.ofNat 1), .int .i64 (.ofNat 0), .int .i64 (.ofNat 2), .int .i64 (.ofNat 2), .int .i64 (.ofNat 0), .int .i64 (.ofNat 3), .int .i64 (.ofNat 3), .int .i64 (.ofNat 0), .int .i64 (.ofNat 4), .int .i64 (.ofNat 4), .int .i64 (.ofNat 0), .int .i64 (.ofNat 5), .int .i64 (.ofNat 5), .int .i64 (.ofNat 0), .int .i64 (.ofNat 6), .int .i64 (.ofNat 6), .int .i64 (.ofNat 0), .int .i64 (.ofNat 7), .int .i64 (.ofNat 7), .int .i64 (.ofNat 0), .int .i64 (.ofNat 8), .int .i64 (.ofNat 8), .int .i64 (.ofNat 0), .int .i64 (.ofNat 9), .int .i64 (.ofNat 9), .int .i64 (.ofNat 0), .int .i64 (.ofNat 10), .int .i64 (.ofNat 10), .int .i64 (.ofNat 0), .int .i64 (.ofNat 11), .int .i64 (.ofNat 11), .int .i64 (.ofNat 0), .int .i64 (.ofNat 12), .int .i64 (.ofNat 12), .int .i64 (.ofNat 0), .int .i64 (.ofNat 13), .int .i64 (.ofNat 13), .int .i64 (.ofNat 0), .int .i64 (.ofNat 14), .int .i64 (.ofNat 14), .int .i64 (.ofNat 0), .int .i64 (.ofNat 15), .int .i64 (.ofNat 15), .int .i64 (.ofNat 0), .int .i64 (.ofNat 16), .int .i64 (.ofNat 16), .int .i64 (.ofNat 0)]),
  (i171, .row false [.slU i832 0 15 2, .bool false]),
  (i172, .map [((.ofNat 15), .agg [.lin .u32 (.ofNat 1) 30 (.ofNat 0), .int .i64 (.ofNat 0)]), ((.ofNat 14), .agg [.lin .u32 (.ofNat 1) 29 (.ofNat 0), .int .i64 (.ofNat 1)]), ((.ofNat 13), .agg [.lin .u32 (.ofNat 1) 28 (.ofNat 0), .int .i64 (.ofNat 0)]), ((.ofNat 12), .agg [.lin .u32 (.ofNat 1) 27 (.ofNat 0), .int .i64 (.ofNat 1)]), ((.ofNat 11), .agg [.lin .u32 (.ofNat 1) 26 (.ofNat 0), .int .i64 (.ofNat 0)]), ((.ofNat 10), .agg [.lin .u32 (.ofNat 1) 25 (.ofNat 0), .int .i64 (.ofNat 1)]), ((.ofNat 9), .agg [.lin .u32 (.ofNat 1) 24 (.ofNat 0), .int .i64 (.ofNat 0)]), ((.ofNat 8), .agg [.lin .u32 (.ofNat 1) 23 (.ofNat 0), .int .i64 (.ofNat 1)]), ((.ofNat 7), .agg [.lin .u32 (.ofNat 1) 22 (.ofNat 0), .int .i64 (.ofNat 0)]), ((.ofNat 6), .agg [.lin .u32 (.ofNat 1) 21 (.ofNat 0), .int .i64 (.ofNat 1)]), ((.ofNat 5), .agg [.lin .u32 (.ofNat 1) 20 (.ofNat 0), .int .i64 (.ofNat 0)]), ((.ofNat 4), .agg [.lin .u32 (.ofNat 1) 19 (.ofNat 0), .int .i64 (.ofNat 1)]), ((.ofNat 3), .agg [.lin .u32 (.ofNat 1) 18 (.ofNat 0), .int .i64 (.ofNat 0)]), ((.ofNat 2), .agg [.lin .u32 (.ofNat 1) 17 (.ofNat 0), .int .i64 (.ofNat 1)]), ((.ofNat 1), .agg [.lin .u32 (.ofNat 1) 16 (.ofNat 0), .int .i64 (.ofNat 0)])]),
  (i173, .row false [.ptr i171 0, .int .u32 (.ofNat 0), .bool true, .bool false, .map i172]),
  (i175, .row true [.ptr i173 0]),
  (i177, .row false [.nils, .int .i64 (.ofNat 0)]),
  (i178, .row false [.ptr i177 0, .int .u64 (.ofNat 1), .int .u64 (.ofNat 0), .int .u64 (.ofNat 0)]),
  (i179, .row false [.ptr i178 0, .int .u64 (.ofNat 1), .nils, .nils]),
  (i182, .row false [.int .i64 (.ofNat 0), .int .i64 (.ofNat 0), .int .i64 (.ofNat 0), .int .i64 (.ofNat 4), .bool false]),
  (i183, .row false [.ptr i182 0, .int .i64 (.ofNat 1), .int .i64 (.ofNat 1), .int .i64 (.ofNat 4), .int .i64 (.ofNat 1), .int .i64 (.ofNat 0), .int .i64 (.ofNat 0), .int .i64 (.ofNat 0)]),
  (i188, .row false [.int .i64 (.ofNat 0), .int .i64 (.ofNat 0), .int .i64 (.ofNat 0), .int .i64 (.ofNat 4), .bool false]),
  (i189, .row false [.ptr i188 0, .int .i64 (.ofNat 2), .int .i64 (.ofNat 2), .int .i64 (.ofNat 4), .int .i64 (.ofNat 1), .int .i64 (.ofNat 0), .int .i64 (.ofNat 0), .int .i64 (.ofNat 0)]),
  (i194, .row false [.int .i64 (.ofNat 0), .int .i64 (.ofNat 0), .int .i64 (.ofNat 0), .int .i64 (.ofNat 4), .bool false]),
  (i195, .row false [.ptr i194 0, .int .i64 (.ofNat 3), .int .i64 (.ofNat 3), .int .i64 (.ofNat 4), .int .i64 (.ofNat 1), .int .i64 (.ofNat 0), .int .i64 (.ofNat 0), .int .i64 (.ofNat 0)]),
  (i200, .row false [.int .i64 (.ofNat 0), .int .i64 (.ofNat 0), .int .i64 (.ofNat 0), .int .i64 (.ofNat 4), .bool false]),
  (i201, .row false [.ptr i200 0, .int .i64 (.ofNat 4), .int .i64 (.ofNat 4), .int .i64 (.ofNat 4), .int .i64 (.ofNat 1), .int .i64 (.ofNat 0), .int .i64 (.ofNat 0), .int .i64 (.ofNat 0)]),
  (i206, .row false [.int .i64 (.ofNat 0), .int .i64 (.ofNat 0), .int .i64 (.ofNat 0), .int .i64 (.ofNat 4), .bool false]),
  (i207, .row false [.ptr i206 0, .int .i64 (.ofNat 5), .int .i64 (.ofNat 5), .int .i64 (.ofNat 4), .int .i64 (.ofNat 1), .int .i64 (.ofNat 0), .int .i64 (.ofNat 0), .int .i64 (.ofNat 0)]),
  (i212, .row false [.int .i64 (.ofNat 0), .int .i64 (.ofNat 0), .int .i64 (.ofNat 0), .int .i64 (.ofNat 4), .bool false]),
  (i213, .row false [.ptr i212 0, .int .i64 (.ofNat 6), .int .i64 (.ofNat 6), .int .i64 (.ofNat 4), .int .i64 (.ofNat 1), .int .i64 (.ofNat 0), .int .i64 (.ofNat 0), .int .i64 (.ofNat 0)]),
  (i218, .row false [.int .i64 (.ofNat 0), .int .i64 (.ofNat 0), .int .i64 (.ofNat 0), .int .i64 (.ofNat 4), .bool false]),
  (i219, .row false [.ptr i218 0, .int .i64 (.ofNat 7), .int .i64 (.ofNat 7), .int .i64 (.ofNat 4), .int .i64 (.ofNat 1), .int .i64 (.ofNat 0), .int .i64 (.ofNat 0), .int .i64 (.ofNat 0)]),
  (i224, .row false [.int .i64 (.ofNat 0), .int .i64 (.ofNat 0), .int .i64 (.ofNat 0), .int .i64 (.ofNat 4), .bool false]),
  (i225, .row false [.ptr i224 0, .int .i64 (.ofNat 8), .int .i64 (.ofNat 8), .int .i64 (.ofNat 4), .int .i64 (.ofNat 1), .int .i64 (.ofNat 0), .int .i64 (.ofNat 0), .int .i64 (.ofNat 0)]),
  (i230, .row false [.int .i64 (.ofNat 0), .int .i64 (.ofNat 0), .int .i64 (.ofNat 0), .int .i64 (.ofNat 4), .bool false]),
  (i231, .row false [.ptr i230 0, .int .i64 (.ofNat 9), .int .i64 (.ofNat 9), .int .i64 (.ofNat 4), .int .i64 (.ofNat 1), .int .i64 (.ofNat 0), .int .i64 (.ofNat 0), .int .i64 (.ofNat 0)]),
  (i236, .row false [.int .i64 (.ofNat 0), .int .i64 (.ofNat 0), .int .i64 (.ofNat 0), .int .i64 (.ofNat 4), .bool false]),
  (i237, .row false [.ptr i236 0, .int .i64 (.ofNat 10), .int .i64 (.ofNat 10), .int .i64 (.ofNat 4), .int .i64 (.ofNat 1), .int .i64 (.ofNat 0), .int .i64 (.ofNat 0), .int .i64 (.ofNat 0)]),
  (i242, .row false [.int .i64 (.ofNat 0), .int .i64 (.ofNat 0), .int .i64 (.ofNat 0), .int .i64 (.ofNat 4), .bool false]),
  (i243, .row false [.ptr i242 0, .int .i64 (.ofNat 11), .int .i64 (.ofNat 11), .int .i64 (.ofNat 4), .int .i64 (.ofNat 1), .int .i64 (.ofNat 0), .int .i64 (.ofNat 0), .int .i64 (.ofNat 0)]),
  (i248, .row false [.int .i64 (.ofNat 0), .int .i64 (.ofNat 0), .int .i64 (.ofNat 0), .int .i64 (.ofNat 4), .bool false]),
  (i249, .row false [.ptr i248 0, .int .i64 (.ofNat 12), .int .i64 (.ofNat 12), .int .i64 (.ofNat 4), .int .i64 (.ofNat 1), .int .i64 (.ofNat 0), .int .i64 (.ofNat 0), .int .i64 (.ofNat 0)]),
  (i254, .row false [.int .i64 (.ofNat 0), .int .i64 (.ofNat 0), .int .i64 (.ofNat 0), .int .i64 (.ofNat 4), .bool false]),
  (i255, .row false [.ptr i254 0, .int .i64 (.ofNat 13), .int .i64 (.ofNat 13), .int .i64 (.ofNat 4), .int .i64 (.ofNat 1), .int .i64 (.ofNat 0), .int .i64 (.ofNat 0), .int .i64 (.ofNat 0)]),
  (i260, .row false [.int .i64 (.ofNat 0), .int .i64 (.ofNat 0), .int .i64 (.ofNat 0), .int .i64 (.ofNat 4), .bool false]),
  (i261, .row false [.ptr i260 0, .int .i64 (.ofNat 14), .int .i64 (.ofNat 14), .int .i64 (.ofNat 4), .int .i64 (.ofNat 1), .int .i64 (.ofNat 0), .int .i64 (.ofNat 0), .int .i64 (.ofNat 0)]),
  (i266, .row false [.int .i64 (.ofNat 0), .int .i64 (.ofNat 0), .int .i64 (.ofNat 0), .int .i64 (.ofNat 4), .bool false]),
  (i267, .row false [.ptr i266 0, .int .i64 (.ofNat 15), .int .i64 (.ofNat 15), .int .i64 (.ofNat 4), .int .i64 (.ofNat 1), .int .i64 (.ofNat 0), .int .i64 (.ofNat 0), .int .i64 (.ofNat 0)]),
  (i272, .row false [.int .i64 (.ofNat 0), .int .i64 (.ofNat 0), .int .i64 (.ofNat 0), .int .i64 (.ofNat 2), .bool false]),
  (i273, .row false [.ptr i272 0, .int .i64 (.ofNat 16), .int .i64 (.ofNat 16), .int .i64 (.ofNat 0), .int .i64 (.ofNat 0), .int .i64 (.ofNat 0), .int .i64 (.ofNat 0), .int .i64 (.ofNat 0)]),
  (i275, .row true [.nilp, .ptr i183 0, .ptr i189 0, .ptr i195 0, .ptr i201 0, .ptr i207 0, .ptr i213 0, .ptr i219 0, .ptr i225 0, .ptr i231 0, .ptr i237 0, .ptr i243 0, .ptr i249 0, .ptr i255 0, .ptr i261 0, .ptr i267 0, .ptr i273 0]),
  (i280, .row true [.int .i64 (.ofNat 0)]),
  (i286, .row true [.int .i64 (.ofNat 0)]),
  (i292, .row true [.int .i64 (.ofNat 0)]),
  (i298, .row true [.int .i64 (.ofNat 0)]),
  (i304, .row true [.int .i64 (.ofNat 0)]),
  (i310, .row true [.int .i64 (.ofNat 0)]),
  (i316, .row true [.int .i64 (.ofNat 0)]),
  (i322, .row true [.int .i64 (.ofNat 0)]),
  (i328, .row true [.int .i64 (.ofNat 0)]),
  (i334, .row true [.int .i64 (.ofNat 0)]),
  (i340, .row true [.int .i64 (.ofNat 0)]),
  (i346, .row true [.int .i64 (.ofNat 0)]),
  (i352, .row true [.int .i64 (.ofNat 0)]),
  (i358, .row true [.int .i64 (.ofNat 0)]),
  (i364, .row true [.int .i64 (.ofNat 0)]),
  (i370, .row true [.int .i64 (.ofNat 16)]),
  (i832, .row true [.int .i64 (.ofNat 1), .int .i64 (.ofNat 1), .int .i64 (.ofNat 2), .int .i64 (.ofNat 2), .int .i64 (.ofNat 3), .int .i64 (.ofNat 3), .int .i64 (.ofNat 4), .int .i64 (.ofNat 4), .int .i64 (.ofNat 5), .int .i64 (.ofNat 5), .int .i64 (.ofNat 6), .int .i64 (.ofNat 6), .int .i64 (.ofNat 7), .int .i64 (.ofNat 7), .int .i64 (.ofNat 8), .int .i64 (.ofNat 8), .int .i64 (.ofNat 9), .int .i64 (.ofNat 9), .int .i64 (.ofNat 10), .int .i64 (.ofNat 10), .int .i64 (.ofNat 11), .int .i64 (.ofNat 11), .int .i64 (.ofNat 12), .int .i64 (.ofNat 12), .int .i64 (.ofNat 13), .int .i64 (.ofNat 13), .int .i64 (.ofNat 14), .int .i64 (.ofNat 14), .int .i64 (.ofNat 15), .int .i64 (.ofNat 15)]),
  (i840, .row false [.int .i64 (.ofNat 28), .int .i64 (.ofNat 1), .lin .i64 (.ofNat 1) 0 (.ofNat 0), .int .i64 (.ofNat 0), .int .i64 (.ofNat 0)]),
  (i841, .row false [.int .i64 (.ofNat 0), .int .i64 (.ofNat 0)]),
  (i847, .row false [.int .i64 (.ofNat 0), .int .i64 (.ofNat 0)])]⟩
end
end Go.Proofs.YtjodpodmeobciaaGreatDoor
