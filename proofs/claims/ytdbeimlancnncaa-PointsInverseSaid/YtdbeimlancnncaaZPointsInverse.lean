/- The walk of the law PointsInverse. -/

