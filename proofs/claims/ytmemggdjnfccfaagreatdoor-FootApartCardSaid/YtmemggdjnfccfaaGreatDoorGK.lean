/- Each function's ghost code is the program's. Conditions: none. -/
import Derived.Test.YtmemggdjnfccfaaGreatDoorA4
import Derived.Test.YtmemggdjnfccfaaGreatDoorGF
import Derived.KernelRfl
import Derived.Test.YtmemggdjnfccfaaGreatDoorProg
namespace Go.Proofs.YtmemggdjnfccfaaGreatDoor.Ghost
open Go
theorem Zs.chk:Xl Tryz.prog 4 Zs.fn=true:=by kernel_rfl
theorem X0.chk:Xl Tryz.prog 5 X0.fn=true:=by kernel_rfl
theorem Yk.chk:Xl Tryz.prog 6 Yk.fn=true:=by kernel_rfl
theorem Yi.chk:Xl Tryz.prog 7 Yi.fn=true:=by kernel_rfl
theorem Ye.chk:Xl Tryz.prog 8 Ye.fn=true:=by kernel_rfl
theorem Hp.chk:Xl Tryz.prog 9 Hp.fn=true:=by kernel_rfl
theorem Qz.chk:Xl Tryz.prog 10 Qz.fn=true:=by kernel_rfl
theorem Gg.chk:Xl Tryz.prog 11 Gg.fn=true:=by kernel_rfl
theorem Z8.chk:Xl Tryz.prog 13 Z8.fn=true:=by kernel_rfl
theorem Ya.chk:Xl Tryz.prog 16 Ya.fn=true:=by kernel_rfl
theorem Zn.chk:Xl Tryz.prog 17 Zn.fn=true:=by kernel_rfl
theorem Z4.chk:Xl Tryz.prog 18 Z4.fn=true:=by kernel_rfl
theorem Vg.chk:Xl Tryz.prog 19 Vg.fn=true:=by kernel_rfl
theorem Qr.chk:Xl Tryz.prog 20 Qr.fn=true:=by kernel_rfl
theorem Yj.chk:Xl Tryz.prog 21 Yj.fn=true:=by kernel_rfl
theorem Zg.chk:Xl Tryz.prog 22 Zg.fn=true:=by kernel_rfl
theorem Zf.chk:Xl Tryz.prog 23 Zf.fn=true:=by kernel_rfl
theorem Zh.chk:Xl Tryz.prog 24 Zh.fn=true:=by kernel_rfl
theorem J0.chk:Xl Tryz.prog 25 J0.fn=true:=by kernel_rfl
theorem Hn.chk:Xl Tryz.prog 27 Hn.fn=true:=by kernel_rfl
theorem K5.chk:Xl Tryz.prog 29 K5.fn=true:=by kernel_rfl
theorem X5.chk:Xl Tryz.prog 30 X5.fn=true:=by kernel_rfl
theorem Kf.chk:Xl Tryz.prog 31 Kf.fn=true:=by kernel_rfl
theorem Zw.chk:Xl Tryz.prog 33 Zw.fn=true:=by kernel_rfl
theorem Z5.chk:Xl Tryz.prog 34 Z5.fn=true:=by kernel_rfl
theorem Z1.chk:Xl Tryz.prog 35 Z1.fn=true:=by kernel_rfl
theorem Zc.chk:Xl Tryz.prog 36 Zc.fn=true:=by kernel_rfl
theorem Xe.chk:Xl Tryz.prog 37 Xe.fn=true:=by kernel_rfl
theorem Yr.chk:Xl Tryz.prog 38 Yr.fn=true:=by kernel_rfl
theorem Z6.chk:Xl Tryz.prog 39 Z6.fn=true:=by kernel_rfl
theorem Z7.chk:Xl Tryz.prog 40 Z7.fn=true:=by kernel_rfl
theorem Ys.chk:Xl Tryz.prog 41 Ys.fn=true:=by kernel_rfl
theorem Hw.chk:Xl Tryz.prog 44 Hw.fn=true:=by kernel_rfl
theorem Hx.chk:Xl Tryz.prog 45 Hx.fn=true:=by kernel_rfl
theorem Qw.chk:Xl Tryz.prog 46 Qw.fn=true:=by kernel_rfl
theorem Uc.chk:Xl Tryz.prog 47 Uc.fn=true:=by kernel_rfl
theorem K0.chk:Xl Tryz.prog 48 K0.fn=true:=by kernel_rfl
theorem Gs.chk:Xl Tryz.prog 49 Gs.fn=true:=by kernel_rfl
theorem Om.chk:Xl Tryz.prog 50 Om.fn=true:=by kernel_rfl
theorem Q0.chk:Xl Tryz.prog 51 Q0.fn=true:=by kernel_rfl
theorem Kw.chk:Xl Tryz.prog 52 Kw.fn=true:=by kernel_rfl
theorem Q2.chk:Xl Tryz.prog 53 Q2.fn=true:=by kernel_rfl
theorem Kx.chk:Xl Tryz.prog 54 Kx.fn=true:=by kernel_rfl
theorem On.chk:Xl Tryz.prog 55 On.fn=true:=by kernel_rfl
theorem Q3.chk:Xl Tryz.prog 56 Q3.fn=true:=by kernel_rfl
theorem Hy.chk:Xl Tryz.prog 57 Hy.fn=true:=by kernel_rfl
theorem Q4.chk:Xl Tryz.prog 58 Q4.fn=true:=by kernel_rfl
theorem Ku.chk:Xl Tryz.prog 59 Ku.fn=true:=by kernel_rfl
theorem Q5.chk:Xl Tryz.prog 60 Q5.fn=true:=by kernel_rfl
theorem Kp.chk:Xl Tryz.prog 61 Kp.fn=true:=by kernel_rfl
theorem Q6.chk:Xl Tryz.prog 62 Q6.fn=true:=by kernel_rfl
theorem V1.chk:Xl Tryz.prog 63 V1.fn=true:=by kernel_rfl
theorem Q7.chk:Xl Tryz.prog 64 Q7.fn=true:=by kernel_rfl
theorem V2.chk:Xl Tryz.prog 65 V2.fn=true:=by kernel_rfl
theorem Xa.chk:Xl Tryz.prog 66 Xa.fn=true:=by kernel_rfl
theorem Ry.chk:Xl Tryz.prog 67 Ry.fn=true:=by kernel_rfl
theorem V3.chk:Xl Tryz.prog 68 V3.fn=true:=by kernel_rfl
theorem Kv.chk:Xl Tryz.prog 69 Kv.fn=true:=by kernel_rfl
theorem Yd.chk:Xl Tryz.prog 70 Yd.fn=true:=by kernel_rfl
theorem G0.chk:Xl Tryz.prog 72 G0.fn=true:=by kernel_rfl
theorem Hd.chk:Xl Tryz.prog 77 Hd.fn=true:=by kernel_rfl
theorem U8.chk:Xl Tryz.prog 78 U8.fn=true:=by kernel_rfl
theorem Zq.chk:Xl Tryz.prog 79 Zq.fn=true:=by kernel_rfl
theorem Xh.chk:Xl Tryz.prog 80 Xh.fn=true:=by kernel_rfl
theorem Kq.chk:Xl Tryz.prog 81 Kq.fn=true:=by kernel_rfl
theorem Q8.chk:Xl Tryz.prog 82 Q8.fn=true:=by kernel_rfl
theorem Yt.chk:Xl Tryz.prog 83 Yt.fn=true:=by kernel_rfl
theorem Kh.chk:Xl Tryz.prog 84 Kh.fn=true:=by kernel_rfl
theorem Vq.chk:Xl Tryz.prog 85 Vq.fn=true:=by kernel_rfl
theorem J6.chk:Xl Tryz.prog 86 J6.fn=true:=by kernel_rfl
theorem Q9.chk:Xl Tryz.prog 87 Q9.fn=true:=by kernel_rfl
theorem Jn.chk:Xl Tryz.prog 88 Jn.fn=true:=by kernel_rfl
theorem Kc.chk:Xl Tryz.prog 89 Kc.fn=true:=by kernel_rfl
theorem Ql.chk:Xl Tryz.prog 90 Ql.fn=true:=by kernel_rfl
theorem Qg.chk:Xl Tryz.prog 91 Qg.fn=true:=by kernel_rfl
theorem Jh.chk:Xl Tryz.prog 92 Jh.fn=true:=by kernel_rfl
theorem J1.chk:Xl Tryz.prog 93 J1.fn=true:=by kernel_rfl
theorem Vf.chk:Xl Tryz.prog 94 Vf.fn=true:=by kernel_rfl
theorem J2.chk:Xl Tryz.prog 95 J2.fn=true:=by kernel_rfl
theorem J3.chk:Xl Tryz.prog 96 J3.fn=true:=by kernel_rfl
theorem J4.chk:Xl Tryz.prog 98 J4.fn=true:=by kernel_rfl
theorem Jy.chk:Xl Tryz.prog 99 Jy.fn=true:=by kernel_rfl
theorem Xt.chk:Xl Tryz.prog 100 Xt.fn=true:=by kernel_rfl
theorem J5.chk:Xl Tryz.prog 101 J5.fn=true:=by kernel_rfl
theorem Jp.chk:Xl Tryz.prog 102 Jp.fn=true:=by kernel_rfl
theorem Hq.chk:Xl Tryz.prog 103 Hq.fn=true:=by kernel_rfl
theorem Y1.chk:Xl Tryz.prog 104 Y1.fn=true:=by kernel_rfl
theorem Ja.chk:Xl Tryz.prog 105 Ja.fn=true:=by kernel_rfl
theorem Jb.chk:Xl Tryz.prog 106 Jb.fn=true:=by kernel_rfl
theorem Jc.chk:Xl Tryz.prog 107 Jc.fn=true:=by kernel_rfl
theorem Jd.chk:Xl Tryz.prog 108 Jd.fn=true:=by kernel_rfl
theorem Hf.chk:Xl Tryz.prog 109 Hf.fn=true:=by kernel_rfl
theorem Qp.chk:Xl Tryz.prog 110 Qp.fn=true:=by kernel_rfl
theorem Y9.chk:Xl Tryz.prog 111 Y9.fn=true:=by kernel_rfl
theorem Qe.chk:Xl Tryz.prog 113 Qe.fn=true:=by kernel_rfl
theorem Y2.chk:Xl Tryz.prog 114 Y2.fn=true:=by kernel_rfl
theorem Qo.chk:Xl Tryz.prog 115 Qo.fn=true:=by kernel_rfl
theorem Xy.chk:Xl Tryz.prog 116 Xy.fn=true:=by kernel_rfl
theorem Kr.chk:Xl Tryz.prog 117 Kr.fn=true:=by kernel_rfl
theorem Jz.chk:Xl Tryz.prog 118 Jz.fn=true:=by kernel_rfl
theorem Qn.chk:Xl Tryz.prog 119 Qn.fn=true:=by kernel_rfl
theorem Xm.chk:Xl Tryz.prog 120 Xm.fn=true:=by kernel_rfl
theorem X1.chk:Xl Tryz.prog 121 X1.fn=true:=by kernel_rfl
theorem Zj.chk:Xl Tryz.prog 135 Zj.fn=true:=by kernel_rfl
theorem Jg.chk:Xl Tryz.prog 136 Jg.fn=true:=by kernel_rfl
theorem Qd.chk:Xl Tryz.prog 137 Qd.fn=true:=by kernel_rfl
theorem Gt.chk:Xl Tryz.prog 139 Gt.fn=true:=by kernel_rfl
theorem AD8:∀ f g,prog f=some g→Xl Tryz.prog f g=true:=fun f g h=>by
  unfold prog at h
  split at h
  · cases h; exact Zs.chk
  · cases h; exact X0.chk
  · cases h; exact Yk.chk
  · cases h; exact Yi.chk
  · cases h; exact Ye.chk
  · cases h; exact Hp.chk
  · cases h; exact Qz.chk
  · cases h; exact Gg.chk
  · cases h; exact Z8.chk
  · cases h; exact Ya.chk
  · cases h; exact Zn.chk
  · cases h; exact Z4.chk
  · cases h; exact Vg.chk
  · cases h; exact Qr.chk
  · cases h; exact Yj.chk
  · cases h; exact Zg.chk
  · cases h; exact Zf.chk
  · cases h; exact Zh.chk
  · cases h; exact J0.chk
  · cases h; exact Hn.chk
  · cases h; exact K5.chk
  · cases h; exact X5.chk
  · cases h; exact Kf.chk
  · cases h; exact Zw.chk
  · cases h; exact Z5.chk
  · cases h; exact Z1.chk
  · cases h; exact Zc.chk
  · cases h; exact Xe.chk
  · cases h; exact Yr.chk
  · cases h; exact Z6.chk
  · cases h; exact Z7.chk
  · cases h; exact Ys.chk
  · cases h; exact Hw.chk
  · cases h; exact Hx.chk
  · cases h; exact Qw.chk
  · cases h; exact Uc.chk
  · cases h; exact K0.chk
  · cases h; exact Gs.chk
  · cases h; exact Om.chk
  · cases h; exact Q0.chk
  · cases h; exact Kw.chk
  · cases h; exact Q2.chk
  · cases h; exact Kx.chk
  · cases h; exact On.chk
  · cases h; exact Q3.chk
  · cases h; exact Hy.chk
  · cases h; exact Q4.chk
  · cases h; exact Ku.chk
  · cases h; exact Q5.chk
  · cases h; exact Kp.chk
  · cases h; exact Q6.chk
  · cases h; exact V1.chk
  · cases h; exact Q7.chk
  · cases h; exact V2.chk
  · cases h; exact Xa.chk
  · cases h; exact Ry.chk
  · cases h; exact V3.chk
  · cases h; exact Kv.chk
  · cases h; exact Yd.chk
  · cases h; exact G0.chk
  · cases h; exact Hd.chk
  · cases h; exact U8.chk
  · cases h; exact Zq.chk
  · cases h; exact Xh.chk
  · cases h; exact Kq.chk
  · cases h; exact Q8.chk
  · cases h; exact Yt.chk
  · cases h; exact Kh.chk
  · cases h; exact Vq.chk
  · cases h; exact J6.chk
  · cases h; exact Q9.chk
  · cases h; exact Jn.chk
  · cases h; exact Kc.chk
  · cases h; exact Ql.chk
  · cases h; exact Qg.chk
  · cases h; exact Jh.chk
  · cases h; exact J1.chk
  · cases h; exact Vf.chk
  · cases h; exact J2.chk
  · cases h; exact J3.chk
  · cases h; exact J4.chk
  · cases h; exact Jy.chk
  · cases h; exact Xt.chk
  · cases h; exact J5.chk
  · cases h; exact Jp.chk
  · cases h; exact Hq.chk
  · cases h; exact Y1.chk
  · cases h; exact Ja.chk
  · cases h; exact Jb.chk
  · cases h; exact Jc.chk
  · cases h; exact Jd.chk
  · cases h; exact Hf.chk
  · cases h; exact Qp.chk
  · cases h; exact Y9.chk
  · cases h; exact Qe.chk
  · cases h; exact Y2.chk
  · cases h; exact Qo.chk
  · cases h; exact Xy.chk
  · cases h; exact Kr.chk
  · cases h; exact Jz.chk
  · cases h; exact Qn.chk
  · cases h; exact Xm.chk
  · cases h; exact X1.chk
  · cases h; exact Zj.chk
  · cases h; exact Jg.chk
  · cases h; exact Qd.chk
  · cases h; exact Gt.chk
  · cases h
end Go.Proofs.YtmemggdjnfccfaaGreatDoor.Ghost
