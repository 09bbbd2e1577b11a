/- Each function's ghost code is the program's. Conditions: none. -/
import Derived.Test.YtpemapoblhleoaaGreatDoorA4
import Derived.Test.YtpemapoblhleoaaGreatDoorGF
import Derived.KernelRfl
import Derived.Test.YtpemapoblhleoaaGreatDoorProg
namespace Go.Proofs.YtpemapoblhleoaaGreatDoor.Ghost
open Go
theorem X8.chk:Xf Tryz.prog 3 X8.fn=true:=by kernel_rfl
theorem Yi.chk:Xf Tryz.prog 7 Yi.fn=true:=by kernel_rfl
theorem Yu.chk:Xf Tryz.prog 8 Yu.fn=true:=by kernel_rfl
theorem Y3.chk:Xf Tryz.prog 9 Y3.fn=true:=by kernel_rfl
theorem Vh.chk:Xf Tryz.prog 10 Vh.fn=true:=by kernel_rfl
theorem Qc.chk:Xf Tryz.prog 11 Qc.fn=true:=by kernel_rfl
theorem Zq.chk:Xf Tryz.prog 12 Zq.fn=true:=by kernel_rfl
theorem Yf.chk:Xf Tryz.prog 13 Yf.fn=true:=by kernel_rfl
theorem Zh.chk:Xf Tryz.prog 14 Zh.fn=true:=by kernel_rfl
theorem Yp.chk:Xf Tryz.prog 17 Yp.fn=true:=by kernel_rfl
theorem Vo.chk:Xf Tryz.prog 18 Vo.fn=true:=by kernel_rfl
theorem Re.chk:Xf Tryz.prog 19 Re.fn=true:=by kernel_rfl
theorem Yn.chk:Xf Tryz.prog 20 Yn.fn=true:=by kernel_rfl
theorem H0.chk:Xf Tryz.prog 21 H0.fn=true:=by kernel_rfl
theorem Yr.chk:Xf Tryz.prog 23 Yr.fn=true:=by kernel_rfl
theorem Yv.chk:Xf Tryz.prog 24 Yv.fn=true:=by kernel_rfl
theorem Y2.chk:Xf Tryz.prog 25 Y2.fn=true:=by kernel_rfl
theorem Yq.chk:Xf Tryz.prog 26 Yq.fn=true:=by kernel_rfl
theorem Xa.chk:Xf Tryz.prog 27 Xa.fn=true:=by kernel_rfl
theorem Yx.chk:Xf Tryz.prog 28 Yx.fn=true:=by kernel_rfl
theorem Yw.chk:Xf Tryz.prog 29 Yw.fn=true:=by kernel_rfl
theorem Ze.chk:Xf Tryz.prog 30 Ze.fn=true:=by kernel_rfl
theorem Yt.chk:Xf Tryz.prog 31 Yt.fn=true:=by kernel_rfl
theorem Y1.chk:Xf Tryz.prog 32 Y1.fn=true:=by kernel_rfl
theorem Z2.chk:Xf Tryz.prog 33 Z2.fn=true:=by kernel_rfl
theorem Z5.chk:Xf Tryz.prog 34 Z5.fn=true:=by kernel_rfl
theorem Z9.chk:Xf Tryz.prog 35 Z9.fn=true:=by kernel_rfl
theorem Zc.chk:Xf Tryz.prog 36 Zc.fn=true:=by kernel_rfl
theorem Xi.chk:Xf Tryz.prog 37 Xi.fn=true:=by kernel_rfl
theorem X4.chk:Xf Tryz.prog 38 X4.fn=true:=by kernel_rfl
theorem Z7.chk:Xf Tryz.prog 39 Z7.fn=true:=by kernel_rfl
theorem Z8.chk:Xf Tryz.prog 40 Z8.fn=true:=by kernel_rfl
theorem Yo.chk:Xf Tryz.prog 41 Yo.fn=true:=by kernel_rfl
theorem Zg.chk:Xf Tryz.prog 43 Zg.fn=true:=by kernel_rfl
theorem Zi.chk:Xf Tryz.prog 44 Zi.fn=true:=by kernel_rfl
theorem H6.chk:Xf Tryz.prog 45 H6.fn=true:=by kernel_rfl
theorem H3.chk:Xf Tryz.prog 46 H3.fn=true:=by kernel_rfl
theorem Q6.chk:Xf Tryz.prog 47 Q6.fn=true:=by kernel_rfl
theorem Ud.chk:Xf Tryz.prog 48 Ud.fn=true:=by kernel_rfl
theorem Hb.chk:Xf Tryz.prog 49 Hb.fn=true:=by kernel_rfl
theorem G5.chk:Xf Tryz.prog 50 G5.fn=true:=by kernel_rfl
theorem O9.chk:Xf Tryz.prog 51 O9.fn=true:=by kernel_rfl
theorem Jn.chk:Xf Tryz.prog 52 Jn.fn=true:=by kernel_rfl
theorem K4.chk:Xf Tryz.prog 53 K4.fn=true:=by kernel_rfl
theorem Jl.chk:Xf Tryz.prog 54 Jl.fn=true:=by kernel_rfl
theorem K7.chk:Xf Tryz.prog 55 K7.fn=true:=by kernel_rfl
theorem Oi.chk:Xf Tryz.prog 56 Oi.fn=true:=by kernel_rfl
theorem Je.chk:Xf Tryz.prog 57 Je.fn=true:=by kernel_rfl
theorem H8.chk:Xf Tryz.prog 58 H8.fn=true:=by kernel_rfl
theorem Jp.chk:Xf Tryz.prog 59 Jp.fn=true:=by kernel_rfl
theorem K8.chk:Xf Tryz.prog 60 K8.fn=true:=by kernel_rfl
theorem Ji.chk:Xf Tryz.prog 61 Ji.fn=true:=by kernel_rfl
theorem K0.chk:Xf Tryz.prog 62 K0.fn=true:=by kernel_rfl
theorem Jc.chk:Xf Tryz.prog 63 Jc.fn=true:=by kernel_rfl
theorem Ka.chk:Xf Tryz.prog 64 Ka.fn=true:=by kernel_rfl
theorem Jo.chk:Xf Tryz.prog 65 Jo.fn=true:=by kernel_rfl
theorem V9.chk:Xf Tryz.prog 66 V9.fn=true:=by kernel_rfl
theorem Xd.chk:Xf Tryz.prog 67 Xd.fn=true:=by kernel_rfl
theorem R5.chk:Xf Tryz.prog 68 R5.fn=true:=by kernel_rfl
theorem V8.chk:Xf Tryz.prog 69 V8.fn=true:=by kernel_rfl
theorem K5.chk:Xf Tryz.prog 70 K5.fn=true:=by kernel_rfl
theorem Yg.chk:Xf Tryz.prog 71 Yg.fn=true:=by kernel_rfl
theorem Xj.chk:Xf Tryz.prog 72 Xj.fn=true:=by kernel_rfl
theorem Yc.chk:Xf Tryz.prog 73 Yc.fn=true:=by kernel_rfl
theorem Yj.chk:Xf Tryz.prog 74 Yj.fn=true:=by kernel_rfl
theorem Yh.chk:Xf Tryz.prog 75 Yh.fn=true:=by kernel_rfl
theorem Xy.chk:Xf Tryz.prog 76 Xy.fn=true:=by kernel_rfl
theorem Xx.chk:Xf Tryz.prog 77 Xx.fn=true:=by kernel_rfl
theorem Ys.chk:Xf Tryz.prog 78 Ys.fn=true:=by kernel_rfl
theorem Z0.chk:Xf Tryz.prog 79 Z0.fn=true:=by kernel_rfl
theorem Z4.chk:Xf Tryz.prog 80 Z4.fn=true:=by kernel_rfl
theorem Hr.chk:Xf Tryz.prog 81 Hr.fn=true:=by kernel_rfl
theorem Wc.chk:Xf Tryz.prog 82 Wc.fn=true:=by kernel_rfl
theorem Zs.chk:Xf Tryz.prog 83 Zs.fn=true:=by kernel_rfl
theorem Xk.chk:Xf Tryz.prog 84 Xk.fn=true:=by kernel_rfl
theorem K6.chk:Xf Tryz.prog 85 K6.fn=true:=by kernel_rfl
theorem Jq.chk:Xf Tryz.prog 86 Jq.fn=true:=by kernel_rfl
theorem Y5.chk:Xf Tryz.prog 87 Y5.fn=true:=by kernel_rfl
theorem Ks.chk:Xf Tryz.prog 88 Ks.fn=true:=by kernel_rfl
theorem Vt.chk:Xf Tryz.prog 89 Vt.fn=true:=by kernel_rfl
theorem Ve.chk:Xf Tryz.prog 90 Ve.fn=true:=by kernel_rfl
theorem Jm.chk:Xf Tryz.prog 91 Jm.fn=true:=by kernel_rfl
theorem Ju.chk:Xf Tryz.prog 92 Ju.fn=true:=by kernel_rfl
theorem Kq.chk:Xf Tryz.prog 93 Kq.fn=true:=by kernel_rfl
theorem Qu.chk:Xf Tryz.prog 94 Qu.fn=true:=by kernel_rfl
theorem Qn.chk:Xf Tryz.prog 95 Qn.fn=true:=by kernel_rfl
theorem Js.chk:Xf Tryz.prog 96 Js.fn=true:=by kernel_rfl
theorem Vd.chk:Xf Tryz.prog 97 Vd.fn=true:=by kernel_rfl
theorem Vp.chk:Xf Tryz.prog 98 Vp.fn=true:=by kernel_rfl
theorem Vf.chk:Xf Tryz.prog 99 Vf.fn=true:=by kernel_rfl
theorem J9.chk:Xf Tryz.prog 100 J9.fn=true:=by kernel_rfl
theorem Vb.chk:Xf Tryz.prog 102 Vb.fn=true:=by kernel_rfl
theorem J2.chk:Xf Tryz.prog 103 J2.fn=true:=by kernel_rfl
theorem Xs.chk:Xf Tryz.prog 104 Xs.fn=true:=by kernel_rfl
theorem Va.chk:Xf Tryz.prog 105 Va.fn=true:=by kernel_rfl
theorem Jy.chk:Xf Tryz.prog 106 Jy.fn=true:=by kernel_rfl
theorem Hu.chk:Xf Tryz.prog 107 Hu.fn=true:=by kernel_rfl
theorem Qb.chk:Xf Tryz.prog 108 Qb.fn=true:=by kernel_rfl
theorem Jr.chk:Xf Tryz.prog 109 Jr.fn=true:=by kernel_rfl
theorem Jf.chk:Xf Tryz.prog 110 Jf.fn=true:=by kernel_rfl
theorem Jj.chk:Xf Tryz.prog 111 Jj.fn=true:=by kernel_rfl
theorem Jh.chk:Xf Tryz.prog 112 Jh.fn=true:=by kernel_rfl
theorem Hq.chk:Xf Tryz.prog 113 Hq.fn=true:=by kernel_rfl
theorem Qy.chk:Xf Tryz.prog 114 Qy.fn=true:=by kernel_rfl
theorem Qi.chk:Xf Tryz.prog 115 Qi.fn=true:=by kernel_rfl
theorem Qm.chk:Xf Tryz.prog 117 Qm.fn=true:=by kernel_rfl
theorem Qd.chk:Xf Tryz.prog 118 Qd.fn=true:=by kernel_rfl
theorem Qw.chk:Xf Tryz.prog 119 Qw.fn=true:=by kernel_rfl
theorem Xv.chk:Xf Tryz.prog 120 Xv.fn=true:=by kernel_rfl
theorem K1.chk:Xf Tryz.prog 121 K1.fn=true:=by kernel_rfl
theorem J7.chk:Xf Tryz.prog 122 J7.fn=true:=by kernel_rfl
theorem Qv.chk:Xf Tryz.prog 123 Qv.fn=true:=by kernel_rfl
theorem Xl.chk:Xf Tryz.prog 124 Xl.fn=true:=by kernel_rfl
theorem X1.chk:Xf Tryz.prog 125 X1.fn=true:=by kernel_rfl
theorem X9.chk:Xf Tryz.prog 126 X9.fn=true:=by kernel_rfl
theorem Zm.chk:Xf Tryz.prog 127 Zm.fn=true:=by kernel_rfl
theorem Jg.chk:Xf Tryz.prog 128 Jg.fn=true:=by kernel_rfl
theorem Vx.chk:Xf Tryz.prog 129 Vx.fn=true:=by kernel_rfl
theorem Ko.chk:Xf Tryz.prog 130 Ko.fn=true:=by kernel_rfl
theorem Gy.chk:Xf Tryz.prog 131 Gy.fn=true:=by kernel_rfl
theorem Ql.chk:Xf Tryz.prog 133 Ql.fn=true:=by kernel_rfl
theorem Gu.chk:Xf Tryz.prog 135 Gu.fn=true:=by kernel_rfl
theorem ADa:∀ f g,prog f=some g→Xf Tryz.prog f g=true:=fun f g h=>by
  unfold prog at h
  split at h
  · cases h; exact X8.chk
  · cases h; exact Yi.chk
  · cases h; exact Yu.chk
  · cases h; exact Y3.chk
  · cases h; exact Vh.chk
  · cases h; exact Qc.chk
  · cases h; exact Zq.chk
  · cases h; exact Yf.chk
  · cases h; exact Zh.chk
  · cases h; exact Yp.chk
  · cases h; exact Vo.chk
  · cases h; exact Re.chk
  · cases h; exact Yn.chk
  · cases h; exact H0.chk
  · cases h; exact Yr.chk
  · cases h; exact Yv.chk
  · cases h; exact Y2.chk
  · cases h; exact Yq.chk
  · cases h; exact Xa.chk
  · cases h; exact Yx.chk
  · cases h; exact Yw.chk
  · cases h; exact Ze.chk
  · cases h; exact Yt.chk
  · cases h; exact Y1.chk
  · cases h; exact Z2.chk
  · cases h; exact Z5.chk
  · cases h; exact Z9.chk
  · cases h; exact Zc.chk
  · cases h; exact Xi.chk
  · cases h; exact X4.chk
  · cases h; exact Z7.chk
  · cases h; exact Z8.chk
  · cases h; exact Yo.chk
  · cases h; exact Zg.chk
  · cases h; exact Zi.chk
  · cases h; exact H6.chk
  · cases h; exact H3.chk
  · cases h; exact Q6.chk
  · cases h; exact Ud.chk
  · cases h; exact Hb.chk
  · cases h; exact G5.chk
  · cases h; exact O9.chk
  · cases h; exact Jn.chk
  · cases h; exact K4.chk
  · cases h; exact Jl.chk
  · cases h; exact K7.chk
  · cases h; exact Oi.chk
  · cases h; exact Je.chk
  · cases h; exact H8.chk
  · cases h; exact Jp.chk
  · cases h; exact K8.chk
  · cases h; exact Ji.chk
  · cases h; exact K0.chk
  · cases h; exact Jc.chk
  · cases h; exact Ka.chk
  · cases h; exact Jo.chk
  · cases h; exact V9.chk
  · cases h; exact Xd.chk
  · cases h; exact R5.chk
  · cases h; exact V8.chk
  · cases h; exact K5.chk
  · cases h; exact Yg.chk
  · cases h; exact Xj.chk
  · cases h; exact Yc.chk
  · cases h; exact Yj.chk
  · cases h; exact Yh.chk
  · cases h; exact Xy.chk
  · cases h; exact Xx.chk
  · cases h; exact Ys.chk
  · cases h; exact Z0.chk
  · cases h; exact Z4.chk
  · cases h; exact Hr.chk
  · cases h; exact Wc.chk
  · cases h; exact Zs.chk
  · cases h; exact Xk.chk
  · cases h; exact K6.chk
  · cases h; exact Jq.chk
  · cases h; exact Y5.chk
  · cases h; exact Ks.chk
  · cases h; exact Vt.chk
  · cases h; exact Ve.chk
  · cases h; exact Jm.chk
  · cases h; exact Ju.chk
  · cases h; exact Kq.chk
  · cases h; exact Qu.chk
  · cases h; exact Qn.chk
  · cases h; exact Js.chk
  · cases h; exact Vd.chk
  · cases h; exact Vp.chk
  · cases h; exact Vf.chk
  · cases h; exact J9.chk
  · cases h; exact Vb.chk
  · cases h; exact J2.chk
  · cases h; exact Xs.chk
  · cases h; exact Va.chk
  · cases h; exact Jy.chk
  · cases h; exact Hu.chk
  · cases h; exact Qb.chk
  · cases h; exact Jr.chk
  · cases h; exact Jf.chk
  · cases h; exact Jj.chk
  · cases h; exact Jh.chk
  · cases h; exact Hq.chk
  · cases h; exact Qy.chk
  · cases h; exact Qi.chk
  · cases h; exact Qm.chk
  · cases h; exact Qd.chk
  · cases h; exact Qw.chk
  · cases h; exact Xv.chk
  · cases h; exact K1.chk
  · cases h; exact J7.chk
  · cases h; exact Qv.chk
  · cases h; exact Xl.chk
  · cases h; exact X1.chk
  · cases h; exact X9.chk
  · cases h; exact Zm.chk
  · cases h; exact Jg.chk
  · cases h; exact Vx.chk
  · cases h; exact Ko.chk
  · cases h; exact Gy.chk
  · cases h; exact Ql.chk
  · cases h; exact Gu.chk
  · cases h
end Go.Proofs.YtpemapoblhleoaaGreatDoor.Ghost
